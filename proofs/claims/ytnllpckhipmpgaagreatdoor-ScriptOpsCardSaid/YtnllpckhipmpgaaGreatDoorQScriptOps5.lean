/- Texts of ours, joined: TyF, Wk1. -/
import Derived.Test.YtnllpckhipmpgaaGreatDoorQScriptOps4
open Go.IntKind renaming i64 → aQr,u32 → aQA,max → aQT,u64 → aQU
open List renaming replicate → aQs,length_map → aQL,forall_mem_cons → aQM
open Go.Vm.DrawG renaming pick → aQt,jg → aQG,fork → aQH,nil → aQP,jn → aQR
open Bool renaming eq_false_or_eq_true → aQu
open Go.Vm.AB renaming seq → aQv,block → aQw,seq_g → aQx,ghost → aQD,loopN → aQF,rs → aQI
open Go.Vm.Conv renaming same → aQy,row → aQS,agg → aQV
open Int renaming toNat → aQz
open Go.Vm.Convs renaming cons → aQB,nil → aQN,same → aQO
open Go.Vm.Fork renaming cons → aQC,nil → aQJ
open Go.Vm.FCv renaming cons → aQE
open Go.Vm.OpsX renaming ghost → aQK
open Go.Vm.HCv renaming live → aQQ
namespace Go.Proofs.YtnllpckhipmpgaaGreatDoor
open Go Go.Vm
theorem mixed :Tryz.prog.follows .mixedOrders=true:=by kernel_rfl
theorem dep :2≤Tryz.prog.depth:=Nat.le_of_ble_eq_true (by kernel_rfl)
instance :DepC Tryz.prog:=⟨dep⟩
instance :TiC Tryz.prog 2 ⟨.int .i64,1,8,.int .i64 0⟩:=⟨ti2⟩
instance :NoA Tryz.prog 2:=⟨trivial⟩
instance :TiC Tryz.prog 3 ⟨.int .i64,1,8,.int .i64 0⟩:=⟨cW⟩
instance :NoA Tryz.prog 3:=⟨trivial⟩
instance :TiC Tryz.prog 4 ⟨.bool,1,1,.bool false⟩:=⟨yP⟩
instance :NoA Tryz.prog 4:=⟨trivial⟩
instance :TiC Tryz.prog 5 ⟨.int .u8,1,1,.int .u8 0⟩:=⟨dA⟩
instance :NoA Tryz.prog 5:=⟨trivial⟩
instance :TiC Tryz.prog 9 ⟨.string,1,16,.string .empty⟩:=⟨ti9⟩
instance :NoA Tryz.prog 9:=⟨trivial⟩
instance :TiC Tryz.prog 12 ⟨.int .u64,1,8,.int .u64 0⟩:=⟨aPZ⟩
instance :NoA Tryz.prog 12:=⟨trivial⟩
instance :TiC Tryz.prog 21 ⟨.int .i32,1,4,.int .i32 0⟩:=⟨aQm⟩
instance :NoA Tryz.prog 21:=⟨trivial⟩
instance :TiC Tryz.prog 22 ⟨.slice 46,1,24,.slice none 0 0⟩:=⟨aLm⟩
instance :NoA Tryz.prog 22:=⟨trivial⟩
instance :TiC Tryz.prog 23 ⟨.slice 31,1,24,.slice none 0 0⟩:=⟨zE⟩
instance :NoA Tryz.prog 23:=⟨trivial⟩
instance :TiC Tryz.prog 24 ⟨.array 32 5,32,32,.agg #[.int .u8 0,.int .u8 0,.int .u8 0,.int .u8 0,.int .u8 0,.int .u8 0,.int .u8 0,.int .u8 0,.int .u8 0,.int .u8 0,.int .u8 0,.int .u8 0,.int .u8 0,.int .u8 0,.int .u8 0,.int .u8 0,.int .u8 0,.int .u8 0,.int .u8 0,.int .u8 0,.int .u8 0,.int .u8 0,.int .u8 0,.int .u8 0,.int .u8 0,.int .u8 0,.int .u8 0,.int .u8 0,.int .u8 0,.int .u8 0,.int .u8 0,.int .u8 0]⟩:=⟨aPr⟩
instance :TiC Tryz.prog 25 ⟨.array 32 5,32,32,.agg #[.int .u8 0,.int .u8 0,.int .u8 0,.int .u8 0,.int .u8 0,.int .u8 0,.int .u8 0,.int .u8 0,.int .u8 0,.int .u8 0,.int .u8 0,.int .u8 0,.int .u8 0,.int .u8 0,.int .u8 0,.int .u8 0,.int .u8 0,.int .u8 0,.int .u8 0,.int .u8 0,.int .u8 0,.int .u8 0,.int .u8 0,.int .u8 0,.int .u8 0,.int .u8 0,.int .u8 0,.int .u8 0,.int .u8 0,.int .u8 0,.int .u8 0,.int .u8 0]⟩:=⟨y7⟩
instance :TiC Tryz.prog 26 ⟨.struct #[{name:= "Message",type:=25,offset:=0,embedded:=false,tag:= "",pkgPath:= "",byteOffset:=0},{name:= "Height",type:=3,offset:=32,embedded:=false,tag:= "",pkgPath:= "",byteOffset:=32},{name:= "Age",type:=3,offset:=33,embedded:=false,tag:= "",pkgPath:= "",byteOffset:=40}],34,48,.agg #[.int .u8 0,.int .u8 0,.int .u8 0,.int .u8 0,.int .u8 0,.int .u8 0,.int .u8 0,.int .u8 0,.int .u8 0,.int .u8 0,.int .u8 0,.int .u8 0,.int .u8 0,.int .u8 0,.int .u8 0,.int .u8 0,.int .u8 0,.int .u8 0,.int .u8 0,.int .u8 0,.int .u8 0,.int .u8 0,.int .u8 0,.int .u8 0,.int .u8 0,.int .u8 0,.int .u8 0,.int .u8 0,.int .u8 0,.int .u8 0,.int .u8 0,.int .u8 0,.int .i64 0,.int .i64 0]⟩:=⟨aPl⟩
instance :TiC Tryz.prog 27 ⟨.struct #[{name:= "Message",type:=25,offset:=0,embedded:=false,tag:= "",pkgPath:= "",byteOffset:=0},{name:= "Height",type:=3,offset:=32,embedded:=false,tag:= "",pkgPath:= "",byteOffset:=32},{name:= "Age",type:=3,offset:=33,embedded:=false,tag:= "",pkgPath:= "",byteOffset:=40}],34,48,.agg #[.int .u8 0,.int .u8 0,.int .u8 0,.int .u8 0,.int .u8 0,.int .u8 0,.int .u8 0,.int .u8 0,.int .u8 0,.int .u8 0,.int .u8 0,.int .u8 0,.int .u8 0,.int .u8 0,.int .u8 0,.int .u8 0,.int .u8 0,.int .u8 0,.int .u8 0,.int .u8 0,.int .u8 0,.int .u8 0,.int .u8 0,.int .u8 0,.int .u8 0,.int .u8 0,.int .u8 0,.int .u8 0,.int .u8 0,.int .u8 0,.int .u8 0,.int .u8 0,.int .i64 0,.int .i64 0]⟩:=⟨aAm⟩
instance :TiC Tryz.prog 31 ⟨.slice 5,1,24,.slice none 0 0⟩:=⟨cI⟩
instance :NoA Tryz.prog 31:=⟨trivial⟩
instance :TiC Tryz.prog 32 ⟨.int .i64,1,8,.int .i64 0⟩:=⟨aPR⟩
instance :NoA Tryz.prog 32:=⟨trivial⟩
instance :TiC Tryz.prog 41 ⟨.int .u32,1,4,.int .u32 0⟩:=⟨aCD⟩
instance :NoA Tryz.prog 41:=⟨trivial⟩
instance :TiC Tryz.prog 45 ⟨.struct #[{name:= "Code",type:=3,offset:=0,embedded:=false,tag:= "",pkgPath:= "",byteOffset:=0},{name:= "Data",type:=31,offset:=1,embedded:=false,tag:= "",pkgPath:= "",byteOffset:=8},{name:= "M",type:=3,offset:=2,embedded:=false,tag:= "",pkgPath:= "",byteOffset:=32},{name:= "N",type:=3,offset:=3,embedded:=false,tag:= "",pkgPath:= "",byteOffset:=40}],4,48,.agg #[.int .i64 0,.slice none 0 0,.int .i64 0,.int .i64 0]⟩:=⟨aPJ⟩
instance :NoA Tryz.prog 45:=⟨trivial⟩
instance :TiC Tryz.prog 46 ⟨.struct #[{name:= "Code",type:=3,offset:=0,embedded:=false,tag:= "",pkgPath:= "",byteOffset:=0},{name:= "Data",type:=31,offset:=1,embedded:=false,tag:= "",pkgPath:= "",byteOffset:=8},{name:= "M",type:=3,offset:=2,embedded:=false,tag:= "",pkgPath:= "",byteOffset:=32},{name:= "N",type:=3,offset:=3,embedded:=false,tag:= "",pkgPath:= "",byteOffset:=40}],4,48,.agg #[.int .i64 0,.slice none 0 0,.int .i64 0,.int .i64 0]⟩:=⟨xE⟩
instance :NoA Tryz.prog 46:=⟨trivial⟩
instance :TiC Tryz.prog 54 ⟨.slice 73,1,24,.slice none 0 0⟩:=⟨aFH⟩
instance :NoA Tryz.prog 54:=⟨trivial⟩
instance :TiC Tryz.prog 55 ⟨.struct #[{name:= "Env",type:=27,offset:=0,embedded:=true,tag:= "",pkgPath:= "",byteOffset:=0},{name:= "stack",type:=23,offset:=34,embedded:=false,tag:= "",pkgPath:= "lightclient/script",byteOffset:=48},{name:= "branches",type:=54,offset:=35,embedded:=false,tag:= "",pkgPath:= "lightclient/script",byteOffset:=72},{name:= "cost",type:=3,offset:=36,embedded:=false,tag:= "",pkgPath:= "lightclient/script",byteOffset:=96}],37,104,.agg #[.int .u8 0,.int .u8 0,.int .u8 0,.int .u8 0,.int .u8 0,.int .u8 0,.int .u8 0,.int .u8 0,.int .u8 0,.int .u8 0,.int .u8 0,.int .u8 0,.int .u8 0,.int .u8 0,.int .u8 0,.int .u8 0,.int .u8 0,.int .u8 0,.int .u8 0,.int .u8 0,.int .u8 0,.int .u8 0,.int .u8 0,.int .u8 0,.int .u8 0,.int .u8 0,.int .u8 0,.int .u8 0,.int .u8 0,.int .u8 0,.int .u8 0,.int .u8 0,.int .i64 0,.int .i64 0,.slice none 0 0,.slice none 0 0,.int .i64 0]⟩:=⟨aP2⟩
instance :TiC Tryz.prog 56 ⟨.struct #[{name:= "Env",type:=27,offset:=0,embedded:=true,tag:= "",pkgPath:= "",byteOffset:=0},{name:= "stack",type:=23,offset:=34,embedded:=false,tag:= "",pkgPath:= "lightclient/script",byteOffset:=48},{name:= "branches",type:=54,offset:=35,embedded:=false,tag:= "",pkgPath:= "lightclient/script",byteOffset:=72},{name:= "cost",type:=3,offset:=36,embedded:=false,tag:= "",pkgPath:= "lightclient/script",byteOffset:=96}],37,104,.agg #[.int .u8 0,.int .u8 0,.int .u8 0,.int .u8 0,.int .u8 0,.int .u8 0,.int .u8 0,.int .u8 0,.int .u8 0,.int .u8 0,.int .u8 0,.int .u8 0,.int .u8 0,.int .u8 0,.int .u8 0,.int .u8 0,.int .u8 0,.int .u8 0,.int .u8 0,.int .u8 0,.int .u8 0,.int .u8 0,.int .u8 0,.int .u8 0,.int .u8 0,.int .u8 0,.int .u8 0,.int .u8 0,.int .u8 0,.int .u8 0,.int .u8 0,.int .u8 0,.int .i64 0,.int .i64 0,.slice none 0 0,.slice none 0 0,.int .i64 0]⟩:=⟨v7⟩
instance :TiC Tryz.prog 57 ⟨.slice 60,1,24,.slice none 0 0⟩:=⟨aK2⟩
instance :NoA Tryz.prog 57:=⟨trivial⟩
instance :TiC Tryz.prog 59 ⟨.struct #[{name:= "reached",type:=4,offset:=0,embedded:=false,tag:= "",pkgPath:= "lightclient/lightclientref08",byteOffset:=0},{name:= "done",type:=4,offset:=1,embedded:=false,tag:= "",pkgPath:= "lightclient/lightclientref08",byteOffset:=1}],2,2,.agg #[.bool false,.bool false]⟩:=⟨aPW⟩
instance :NoA Tryz.prog 59:=⟨trivial⟩
instance :TiC Tryz.prog 60 ⟨.struct #[{name:= "reached",type:=4,offset:=0,embedded:=false,tag:= "",pkgPath:= "lightclient/lightclientref08",byteOffset:=0},{name:= "done",type:=4,offset:=1,embedded:=false,tag:= "",pkgPath:= "lightclient/lightclientref08",byteOffset:=1}],2,2,.agg #[.bool false,.bool false]⟩:=⟨aDE⟩
instance :NoA Tryz.prog 60:=⟨trivial⟩
instance :TiC Tryz.prog 66 ⟨.int .u64,1,8,.int .u64 0⟩:=⟨aPj⟩
instance :NoA Tryz.prog 66:=⟨trivial⟩
instance :TiC Tryz.prog 70 ⟨.slice 4,1,24,.slice none 0 0⟩:=⟨aLA⟩
instance :NoA Tryz.prog 70:=⟨trivial⟩
instance :TiC Tryz.prog 71 ⟨.pointer 56,1,8,.pointer none⟩:=⟨aPo⟩
instance :NoA Tryz.prog 71:=⟨trivial⟩
instance :TiC Tryz.prog 72 ⟨.struct #[{name:= "outer",type:=4,offset:=0,embedded:=false,tag:= "",pkgPath:= "lightclient/script",byteOffset:=0},{name:= "taken",type:=4,offset:=1,embedded:=false,tag:= "",pkgPath:= "lightclient/script",byteOffset:=1}],2,2,.agg #[.bool false,.bool false]⟩:=⟨aPu⟩
instance :NoA Tryz.prog 72:=⟨trivial⟩
instance :TiC Tryz.prog 73 ⟨.struct #[{name:= "outer",type:=4,offset:=0,embedded:=false,tag:= "",pkgPath:= "lightclient/script",byteOffset:=0},{name:= "taken",type:=4,offset:=1,embedded:=false,tag:= "",pkgPath:= "lightclient/script",byteOffset:=1}],2,2,.agg #[.bool false,.bool false]⟩:=⟨aBR⟩
instance :NoA Tryz.prog 73:=⟨trivial⟩
instance :TiC Tryz.prog 90 ⟨.int .u64,1,8,.int .u64 0⟩:=⟨kH⟩
instance :NoA Tryz.prog 90:=⟨trivial⟩
instance :TiC Tryz.prog 91 ⟨.array 8 41,8,32,.agg #[.int .u32 0,.int .u32 0,.int .u32 0,.int .u32 0,.int .u32 0,.int .u32 0,.int .u32 0,.int .u32 0]⟩:=⟨aFz⟩
instance :TiC Tryz.prog 93 ⟨.array 64 5,64,64,.agg #[.int .u8 0,.int .u8 0,.int .u8 0,.int .u8 0,.int .u8 0,.int .u8 0,.int .u8 0,.int .u8 0,.int .u8 0,.int .u8 0,.int .u8 0,.int .u8 0,.int .u8 0,.int .u8 0,.int .u8 0,.int .u8 0,.int .u8 0,.int .u8 0,.int .u8 0,.int .u8 0,.int .u8 0,.int .u8 0,.int .u8 0,.int .u8 0,.int .u8 0,.int .u8 0,.int .u8 0,.int .u8 0,.int .u8 0,.int .u8 0,.int .u8 0,.int .u8 0,.int .u8 0,.int .u8 0,.int .u8 0,.int .u8 0,.int .u8 0,.int .u8 0,.int .u8 0,.int .u8 0,.int .u8 0,.int .u8 0,.int .u8 0,.int .u8 0,.int .u8 0,.int .u8 0,.int .u8 0,.int .u8 0,.int .u8 0,.int .u8 0,.int .u8 0,.int .u8 0,.int .u8 0,.int .u8 0,.int .u8 0,.int .u8 0,.int .u8 0,.int .u8 0,.int .u8 0,.int .u8 0,.int .u8 0,.int .u8 0,.int .u8 0,.int .u8 0]⟩:=⟨aK4⟩
instance :TiC Tryz.prog 95 ⟨.array 4 90,4,32,.agg #[.int .u64 0,.int .u64 0,.int .u64 0,.int .u64 0]⟩:=⟨aPO⟩
instance :TiC Tryz.prog 96 ⟨.array 4 90,4,32,.agg #[.int .u64 0,.int .u64 0,.int .u64 0,.int .u64 0]⟩:=⟨bV⟩
instance :TiC Tryz.prog 99 ⟨.struct #[{name:= "E",type:=96,offset:=0,embedded:=false,tag:= "",pkgPath:= "",byteOffset:=0},{name:= "S",type:=96,offset:=4,embedded:=false,tag:= "",pkgPath:= "",byteOffset:=32}],8,64,.agg #[.int .u64 0,.int .u64 0,.int .u64 0,.int .u64 0,.int .u64 0,.int .u64 0,.int .u64 0,.int .u64 0]⟩:=⟨aPD⟩
instance :TiC Tryz.prog 100 ⟨.struct #[{name:= "E",type:=96,offset:=0,embedded:=false,tag:= "",pkgPath:= "",byteOffset:=0},{name:= "S",type:=96,offset:=4,embedded:=false,tag:= "",pkgPath:= "",byteOffset:=32}],8,64,.agg #[.int .u64 0,.int .u64 0,.int .u64 0,.int .u64 0,.int .u64 0,.int .u64 0,.int .u64 0,.int .u64 0]⟩:=⟨nT⟩
instance :TiC Tryz.prog 105 ⟨.array 64 41,64,256,.agg #[.int .u32 0,.int .u32 0,.int .u32 0,.int .u32 0,.int .u32 0,.int .u32 0,.int .u32 0,.int .u32 0,.int .u32 0,.int .u32 0,.int .u32 0,.int .u32 0,.int .u32 0,.int .u32 0,.int .u32 0,.int .u32 0,.int .u32 0,.int .u32 0,.int .u32 0,.int .u32 0,.int .u32 0,.int .u32 0,.int .u32 0,.int .u32 0,.int .u32 0,.int .u32 0,.int .u32 0,.int .u32 0,.int .u32 0,.int .u32 0,.int .u32 0,.int .u32 0,.int .u32 0,.int .u32 0,.int .u32 0,.int .u32 0,.int .u32 0,.int .u32 0,.int .u32 0,.int .u32 0,.int .u32 0,.int .u32 0,.int .u32 0,.int .u32 0,.int .u32 0,.int .u32 0,.int .u32 0,.int .u32 0,.int .u32 0,.int .u32 0,.int .u32 0,.int .u32 0,.int .u32 0,.int .u32 0,.int .u32 0,.int .u32 0,.int .u32 0,.int .u32 0,.int .u32 0,.int .u32 0,.int .u32 0,.int .u32 0,.int .u32 0,.int .u32 0]⟩:=⟨aJi⟩
instance :TiC Tryz.prog 131 ⟨.array 8 90,8,64,.agg #[.int .u64 0,.int .u64 0,.int .u64 0,.int .u64 0,.int .u64 0,.int .u64 0,.int .u64 0,.int .u64 0]⟩:=⟨aC8⟩
instance :TiC Tryz.prog 133 ⟨.slice 90,1,24,.slice none 0 0⟩:=⟨aJm⟩
instance :NoA Tryz.prog 133:=⟨trivial⟩
instance :TiC Tryz.prog 135 ⟨.slice 25,1,24,.slice none 0 0⟩:=⟨aL2⟩
instance :NoA Tryz.prog 135:=⟨trivial⟩
instance :TiC Tryz.prog 148 ⟨.pointer 5,1,8,.pointer none⟩:=⟨aOZ⟩
instance :NoA Tryz.prog 148:=⟨trivial⟩
theorem aMZ (b off:Nat):aU Tryz.prog 27 (.ptr b off) 0=some (.ptr b (off+0)):=by simp[aU,aAm,y7]
theorem aMG (es:List V)(i off:Nat):aU Tryz.prog 27 (.eptr es i off) 0=some (.eptr es i (off+0)):=by simp[aU,aAm,y7]
instance :FaC Tryz.prog 27 0 0:=⟨aMZ,aMG⟩
theorem aMr (b off:Nat):aU Tryz.prog 27 (.ptr b off) 1=some (.ptr b (off+32)):=by simp[aU,aAm,cW]
theorem aMI (es:List V)(i off:Nat):aU Tryz.prog 27 (.eptr es i off) 1=some (.eptr es i (off+32)):=by simp[aU,aAm,cW]
instance :FaC Tryz.prog 27 1 32:=⟨aMr,aMI⟩
theorem aMb (b off:Nat):aU Tryz.prog 27 (.ptr b off) 2=some (.ptr b (off+33)):=by simp[aU,aAm,cW]
theorem aMB (es:List V)(i off:Nat):aU Tryz.prog 27 (.eptr es i off) 2=some (.eptr es i (off+33)):=by simp[aU,aAm,cW]
instance :FaC Tryz.prog 27 2 33:=⟨aMb,aMB⟩
theorem aIw (b off:Nat):aU Tryz.prog 46 (.ptr b off) 0=some (.ptr b (off+0)):=by simp[aU,xE,cW]
theorem aM8 (es:List V)(i off:Nat):aU Tryz.prog 46 (.eptr es i off) 0=some (.eptr es i (off+0)):=by simp[aU,xE,cW]
instance :FaC Tryz.prog 46 0 0:=⟨aIw,aM8⟩
theorem aEZ (b off:Nat):aU Tryz.prog 46 (.ptr b off) 1=some (.ptr b (off+1)):=by simp[aU,xE,cI]
theorem aNp (es:List V)(i off:Nat):aU Tryz.prog 46 (.eptr es i off) 1=some (.eptr es i (off+1)):=by simp[aU,xE,cI]
instance :FaC Tryz.prog 46 1 1:=⟨aEZ,aNp⟩
theorem aFc (b off:Nat):aU Tryz.prog 46 (.ptr b off) 2=some (.ptr b (off+2)):=by simp[aU,xE,cW]
theorem aNf (es:List V)(i off:Nat):aU Tryz.prog 46 (.eptr es i off) 2=some (.eptr es i (off+2)):=by simp[aU,xE,cW]
instance :FaC Tryz.prog 46 2 2:=⟨aFc,aNf⟩
theorem gX (b off:Nat):aU Tryz.prog 46 (.ptr b off) 3=some (.ptr b (off+3)):=by simp[aU,xE,cW]
theorem aMh (es:List V)(i off:Nat):aU Tryz.prog 46 (.eptr es i off) 3=some (.eptr es i (off+3)):=by simp[aU,xE,cW]
instance :FaC Tryz.prog 46 3 3:=⟨gX,aMh⟩
theorem aMj (b off:Nat):aU Tryz.prog 56 (.ptr b off) 0=some (.ptr b (off+0)):=by simp[aU,v7,aAm]
theorem aM3 (es:List V)(i off:Nat):aU Tryz.prog 56 (.eptr es i off) 0=some (.eptr es i (off+0)):=by simp[aU,v7,aAm]
instance :FaC Tryz.prog 56 0 0:=⟨aMj,aM3⟩
theorem aMi (b off:Nat):aU Tryz.prog 56 (.ptr b off) 1=some (.ptr b (off+34)):=by simp[aU,v7,zE]
theorem aNv (es:List V)(i off:Nat):aU Tryz.prog 56 (.eptr es i off) 1=some (.eptr es i (off+34)):=by simp[aU,v7,zE]
instance :FaC Tryz.prog 56 1 34:=⟨aMi,aNv⟩
theorem aMp (b off:Nat):aU Tryz.prog 56 (.ptr b off) 2=some (.ptr b (off+35)):=by simp[aU,v7,aFH]
theorem aMu (es:List V)(i off:Nat):aU Tryz.prog 56 (.eptr es i off) 2=some (.eptr es i (off+35)):=by simp[aU,v7,aFH]
instance :FaC Tryz.prog 56 2 35:=⟨aMp,aMu⟩
theorem aNc (b off:Nat):aU Tryz.prog 56 (.ptr b off) 3=some (.ptr b (off+36)):=by simp[aU,v7,cW]
theorem aMw (es:List V)(i off:Nat):aU Tryz.prog 56 (.eptr es i off) 3=some (.eptr es i (off+36)):=by simp[aU,v7,cW]
instance :FaC Tryz.prog 56 3 36:=⟨aNc,aMw⟩
theorem aMs (b off:Nat):aU Tryz.prog 60 (.ptr b off) 0=some (.ptr b (off+0)):=by simp[aU,aDE,yP]
theorem aMQ (es:List V)(i off:Nat):aU Tryz.prog 60 (.eptr es i off) 0=some (.eptr es i (off+0)):=by simp[aU,aDE,yP]
instance :FaC Tryz.prog 60 0 0:=⟨aMs,aMQ⟩
theorem aMR (b off:Nat):aU Tryz.prog 60 (.ptr b off) 1=some (.ptr b (off+1)):=by simp[aU,aDE,yP]
theorem aMf (es:List V)(i off:Nat):aU Tryz.prog 60 (.eptr es i off) 1=some (.eptr es i (off+1)):=by simp[aU,aDE,yP]
instance :FaC Tryz.prog 60 1 1:=⟨aMR,aMf⟩
theorem aM1 (b off:Nat):aU Tryz.prog 73 (.ptr b off) 0=some (.ptr b (off+0)):=by simp[aU,aBR,yP]
theorem aM7 (es:List V)(i off:Nat):aU Tryz.prog 73 (.eptr es i off) 0=some (.eptr es i (off+0)):=by simp[aU,aBR,yP]
instance :FaC Tryz.prog 73 0 0:=⟨aM1,aM7⟩
theorem aNq (b off:Nat):aU Tryz.prog 73 (.ptr b off) 1=some (.ptr b (off+1)):=by simp[aU,aBR,yP]
theorem aMS (es:List V)(i off:Nat):aU Tryz.prog 73 (.eptr es i off) 1=some (.eptr es i (off+1)):=by simp[aU,aBR,yP]
instance :FaC Tryz.prog 73 1 1:=⟨aNq,aMS⟩
theorem aLT (b off:Nat):aU Tryz.prog 100 (.ptr b off) 0=some (.ptr b (off+0)):=by simp[aU,nT,bV]
theorem aLB (es:List V)(i off:Nat):aU Tryz.prog 100 (.eptr es i off) 0=some (.eptr es i (off+0)):=by simp[aU,nT,bV]
instance :FaC Tryz.prog 100 0 0:=⟨aLT,aLB⟩
theorem aLa (b off:Nat):aU Tryz.prog 100 (.ptr b off) 1=some (.ptr b (off+4)):=by simp[aU,nT,bV]
theorem aLp (es:List V)(i off:Nat):aU Tryz.prog 100 (.eptr es i off) 1=some (.eptr es i (off+4)):=by simp[aU,nT,bV]
instance :FaC Tryz.prog 100 1 4:=⟨aLa,aLp⟩
theorem aNH :oW Tryz.prog 27=some #[(0,32),(32,1),(33,1)]:=by kernel_rfl
instance :PlC Tryz.prog 27 #[(0,32),(32,1),(33,1)]:=⟨aNH⟩
theorem aP3 :oW Tryz.prog 46=some #[(0,1),(1,1),(2,1),(3,1)]:=by kernel_rfl
instance :PlC Tryz.prog 46 #[(0,1),(1,1),(2,1),(3,1)]:=⟨aP3⟩
theorem aLg :oW Tryz.prog 56=some #[(0,34),(34,1),(35,1),(36,1)]:=by kernel_rfl
instance :PlC Tryz.prog 56 #[(0,34),(34,1),(35,1),(36,1)]:=⟨aLg⟩
theorem aPB :oW Tryz.prog 60=some #[(0,1),(1,1)]:=by kernel_rfl
instance :PlC Tryz.prog 60 #[(0,1),(1,1)]:=⟨aPB⟩
theorem aPq :oW Tryz.prog 73=some #[(0,1),(1,1)]:=by kernel_rfl
instance :PlC Tryz.prog 73 #[(0,1),(1,1)]:=⟨aPq⟩
theorem aBv :oW Tryz.prog 100=some #[(0,4),(4,4)]:=by kernel_rfl
instance :PlC Tryz.prog 100 #[(0,4),(4,4)]:=⟨aBv⟩
theorem zH {p:Prop} (h:p:=by(simp only[iQ,dQ,gW,nF,Blk.rn,V.rns,V.rn,sg,List.map_cons,List.map_nil,Option.map_some,Option.map_none,List.drop_succ_cons,List.drop_zero,List.drop_nil,List.set_cons_zero,List.set_cons_succ,List.cons_append,List.nil_append,List.append_nil,iB,iA,rS,rR,f5,f8,cT,cR,bP,bR,nG,nJ,lT,lQ,lO,p8,mM,List.getElem?_cons_zero,List.getElem?_cons_succ,List.getElem?_nil,List.length_cons,List.length_nil,Nat.reduceAdd,Nat.reduceSub,Nat.add_zero,Nat.zero_add,Nat.sub_self,Nat.sub_zero]<;>rfl)):p:=h
theorem zB {f:FuncId}{hs hs' hb hb':Hp}{args xs:List V}{r v:V}(hc:Vm.Fn Tryz.prog f hs args r hs')(ρ:List Nat) (hnd:ρ.Nodup:=by decide) (hlt:ρ.all (fun b=>Nat.blt b hb.length)=true:=by rfl)
  (hl:Lend (sg ρ hb.length) hb ρ hs:=by repeat (first|exact Lend.nil|refine Lend.cons rfl rfl ?_|refine Lend.cons rfl (mG (fun _=>rfl) _) ?_|refine Lend.cons rfl (jV (fun _=>rfl) _) ?_)) (hx:V.rns (sg ρ hb.length) args=xs:=by first|rfl|(simp only[V.rn,V.rns,iB,iA]<;>rfl)) (hr:r.rn (sg ρ hb.length)=v:=by first|rfl|(simp only[V.rn,V.rns,iB,iA]<;>rfl)) (hh:iQ hb ρ hs'=hb':=by(simp only[iQ,dQ,gW,nF,Blk.rn,V.rns,V.rn,sg,List.map_cons,List.map_nil,Option.map_some,Option.map_none,List.drop_succ_cons,List.drop_zero,List.drop_nil,List.set_cons_zero,List.set_cons_succ,List.cons_append,List.nil_append,List.append_nil,iB,iA,rS,rR,f5,f8,cT,cR,bP,bR,nG,nJ,lT,lQ,lO,p8,mM,List.getElem?_cons_zero,List.getElem?_cons_succ,List.getElem?_nil,List.length_cons,List.length_nil,Nat.reduceAdd,Nat.reduceSub,Nat.add_zero,Nat.zero_add,Nat.sub_self,Nat.sub_zero]<;>rfl)):Vm.Fn Tryz.prog f hb xs v hb':=Vm.Fn.lendB hc ρ hnd hlt hl hx hr hh
theorem zL {f:FuncId}{hs hs' hb hb':Hp}{args xs:List V}{r v:V}(hc:Vm.Fn Tryz.prog f hs args r hs')(ρ β:List Nat) (hnd:ρ.Nodup:=by decide) (hlt:ρ.all (fun b=>Nat.blt b hb.length)=true:=by rfl) (hdis: ∀b∈β,b∉ρ:=by decide)
  (hl:Lend (sg ρ hb.length) hb ρ hs:=by repeat (first|exact Lend.nil|refine Lend.cons rfl rfl ?_|refine Lend.cons rfl (mG (fun _=>rfl) _) ?_|refine Lend.cons rfl (jV (fun _=>rfl) _) ?_))
  (hx:Brw (sg ρ hb.length) (only β hb) xs args:=by repeat (first|exact Brw.nil|refine Brw.same rfl ?_|refine Brw.row (aFy rfl rfl (fun _=>rfl)) ?_|refine Brw.same (by simp only[V.rn,V.rns,iB,iA]) ?_))
  (hrf:r.rf=true:=by first|rfl|simp[V.rf,V.rfs,aHu,aHe]) (hrb:rfB hs':=by repeat (first|exact rfB.nil|refine rfB.dead ?_|refine rfB.live rfl ?_|refine rfB.live (z6 (fun _=>rfl) _) ?_|refine rfB.live (aBn (fun _=>rfl) _) ?_))
  (hr:r.rn (sg ρ hb.length)=v:=by first|rfl|(simp only[V.rn,V.rns,iB,iA]<;>rfl)) (hh:iQ hb ρ hs'=hb':=by simp only[iQ,dQ,gW,nF,Blk.rn,V.rns,V.rn,sg,List.map_cons,List.map_nil,Option.map_some,Option.map_none,List.drop_succ_cons,List.drop_zero,List.drop_nil,List.set_cons_zero,List.set_cons_succ,List.cons_append,List.nil_append,List.append_nil,iB,iA,rS,rR,f5,f8,cT,cR,bP,bR,nG,nJ,lT,lQ,lO,p8,mM,List.getElem?_cons_zero,List.getElem?_cons_succ,List.getElem?_nil,List.length_cons,List.length_nil,Nat.reduceAdd,Nat.reduceSub,Nat.add_zero,Nat.zero_add,Nat.sub_self,Nat.sub_zero]):Vm.Fn Tryz.prog f hb xs v hb':=Vm.Fn.lendR hc ρ β hnd hlt hdis hl hx hrf hrb hr hh
theorem zc {f:FuncId}{hb:Hp}{args xs:List V}{r:V}{N n t:Nat}{ops:Array Oper}{l:List Oper}{fr:List (Nat×V)}{K:List V→Hp→Prop}{ty:TypeId}{pos:String}{aft:Array Edge}{ws:List Operand}{ts:Array TypeId}{hs hs' hb':Hp}{v:V}(hc:Vm.Fn Tryz.prog f hs args r hs')(ρ:List Nat)(k:OpsX Tryz.prog N none ops l (aE n ((t,v)::fr)) hb' K) (hw:p9 n fr ws=some xs:=by rfl) (hnd:ρ.Nodup:=by decide) (hlt:ρ.all (fun b=>Nat.blt b hb.length)=true:=by rfl) (hl:Lend (sg ρ hb.length) hb ρ hs:=by repeat (first|exact Lend.nil|refine Lend.cons rfl rfl ?_|refine Lend.cons rfl (mG (fun _=>rfl) _) ?_|refine Lend.cons rfl (jV (fun _=>rfl) _) ?_)) (hx:V.les uG xs (V.rns (sg ρ hb.length) args):=by repeat (first|exact V.les_refl _ _|exact V.les_nil|apply V.les_cons|exact V.le_refl _ _|exact V.le_nil|exact V.le_row|exact V.le_arr (fun _=>rfl)|apply V.le_agg)) (hr:r.rn (sg ρ hb.length)=v:=by(simp only[iQ,dQ,gW,nF,Blk.rn,V.rns,V.rn,sg,List.map_cons,List.map_nil,Option.map_some,Option.map_none,List.drop_succ_cons,List.drop_zero,List.drop_nil,List.set_cons_zero,List.set_cons_succ,List.cons_append,List.nil_append,List.append_nil,iB,iA,rS,rR,f5,f8,cT,cR,bP,bR,nG,nJ,lT,lQ,lO,p8,mM,List.getElem?_cons_zero,List.getElem?_cons_succ,List.getElem?_nil,List.length_cons,List.length_nil,Nat.reduceAdd,Nat.reduceSub,Nat.add_zero,Nat.zero_add,Nat.sub_self,Nat.sub_zero]<;>rfl)) (hh:iQ hb ρ hs'=hb':=by(simp only[iQ,dQ,gW,nF,Blk.rn,V.rns,V.rn,sg,List.map_cons,List.map_nil,Option.map_some,Option.map_none,List.drop_succ_cons,List.drop_zero,List.drop_nil,List.set_cons_zero,List.set_cons_succ,List.cons_append,List.nil_append,List.append_nil,iB,iA,rS,rR,f5,f8,cT,cR,bP,bR,nG,nJ,lT,lQ,lO,p8,mM,List.getElem?_cons_zero,List.getElem?_cons_succ,List.getElem?_nil,List.length_cons,List.length_nil,Nat.reduceAdd,Nat.reduceSub,Nat.add_zero,Nat.zero_add,Nat.sub_self,Nat.sub_zero]<;>rfl)):OpsX Tryz.prog N none ops (⟨some t,.call ⟨.value (.func f),ws.toArray,ts⟩,ty,pos,aft,none⟩::l) (aE n fr) hb K:=xC hw (Vm.Fn.argsLe (Vm.Fn.lendB hc ρ hnd hlt hl rfl hr hh) hx) k
theorem zcL {f:FuncId}{hb:Hp}{args xs:List V}{r:V}{N n t:Nat}{ops:Array Oper}{l:List Oper}{fr:List (Nat×V)}{K:List V→Hp→Prop}{ty:TypeId}{pos:String}{aft:Array Edge}{ws:List Operand}{ts:Array TypeId}{hs hs' hb':Hp}{v:V}(hc:Vm.Fn Tryz.prog f hs args r hs')(ρ β:List Nat)(k:OpsX Tryz.prog N none ops l (aE n ((t,v)::fr)) hb' K) (hw:p9 n fr ws=some xs:=by rfl) (hnd:ρ.Nodup:=by decide) (hlt:ρ.all (fun b=>Nat.blt b hb.length)=true:=by rfl) (hdis: ∀b∈β,b∉ρ:=by decide) (hl:Lend (sg ρ hb.length) hb ρ hs:=by repeat (first|exact Lend.nil|refine Lend.cons rfl rfl ?_|refine Lend.cons rfl (mG (fun _=>rfl) _) ?_|refine Lend.cons rfl (jV (fun _=>rfl) _) ?_)) (hx:Brw (sg ρ hb.length) (only β hb) xs args:=by repeat (first|exact Brw.nil|refine Brw.same rfl ?_|refine Brw.row (aFy (by first|exact rfl|(simp only[bE,bF];done)|exact aV (by assumption)|exact bW (by assumption)) rfl (fun _=>rfl)) ?_|refine Brw.row (aHv (fun _=>rfl) zl (by first|exact rfl|(simp only[bE,bF];done)|exact aV (by assumption)|exact bW (by assumption)) rfl (fun _=>rfl)) ?_|refine Brw.same (by simp only[V.rn,V.rns,iB,iA]) ?_|refine Brw.le V.le_nil ?_|refine Brw.le V.le_row ?_)) (hrf:r.rf=true:=by first|rfl|simp[V.rf,V.rfs,aHu,aHe]) (hrb:rfB hs':=by repeat (first|exact rfB.nil|refine rfB.dead ?_|refine rfB.live rfl ?_|refine rfB.live (z6 (fun _=>rfl) _) ?_|refine rfB.live (aBn (fun _=>rfl) _) ?_)) (hr:r.rn (sg ρ hb.length)=v:=by(simp only[iQ,dQ,gW,nF,Blk.rn,V.rns,V.rn,sg,List.map_cons,List.map_nil,Option.map_some,Option.map_none,List.drop_succ_cons,List.drop_zero,List.drop_nil,List.set_cons_zero,List.set_cons_succ,List.cons_append,List.nil_append,List.append_nil,iB,iA,rS,rR,f5,f8,cT,cR,bP,bR,nG,nJ,lT,lQ,lO,p8,mM,List.getElem?_cons_zero,List.getElem?_cons_succ,List.getElem?_nil,List.length_cons,List.length_nil,Nat.reduceAdd,Nat.reduceSub,Nat.add_zero,Nat.zero_add,Nat.sub_self,Nat.sub_zero]<;>rfl)) (hh:iQ hb ρ hs'=hb':=by(simp only[iQ,dQ,gW,nF,Blk.rn,V.rns,V.rn,sg,List.map_cons,List.map_nil,Option.map_some,Option.map_none,List.drop_succ_cons,List.drop_zero,List.drop_nil,List.set_cons_zero,List.set_cons_succ,List.cons_append,List.nil_append,List.append_nil,iB,iA,rS,rR,f5,f8,cT,cR,bP,bR,nG,nJ,lT,lQ,lO,p8,mM,List.getElem?_cons_zero,List.getElem?_cons_succ,List.getElem?_nil,List.length_cons,List.length_nil,Nat.reduceAdd,Nat.reduceSub,Nat.add_zero,Nat.zero_add,Nat.sub_self,Nat.sub_zero]<;>rfl)):OpsX Tryz.prog N none ops (⟨some t,.call ⟨.value (.func f),ws.toArray,ts⟩,ty,pos,aft,none⟩::l) (aE n fr) hb K:=xC hw (Vm.Fn.lendR hc ρ β hnd hlt hdis hl hx hrf hrb hr hh) k
theorem zg {f:FuncId}{hb:Hp}{args xs:List V}{r:V}{N n t:Nat}{ops:Array Oper}{l:List Oper}{fr:List (Nat×V)}{K:List V→Hp→Prop}{ty:TypeId}{pos:String}{aft:Array Edge}{ws:List Operand}{ts:Array TypeId}{hs hs' hb':Hp}{v:V}{F G:List Nat}{gd:Option (Nat×Bool)}(hc:Vm.Fn Tryz.prog f hs args r hs')(ρ:List Nat)(k:OpsX Tryz.prog N (some (F,G)) ops l (aE n ((t,v)::fr)) hb' K) (hw:p9 n fr ws=some xs:=by rfl) (hnd:ρ.Nodup:=by decide) (hlt:ρ.all (fun b=>Nat.blt b hb.length)=true:=by rfl) (hl:Lend (sg ρ hb.length) hb ρ hs:=by repeat (first|exact Lend.nil|refine Lend.cons rfl rfl ?_|refine Lend.cons rfl (mG (fun _=>rfl) _) ?_|refine Lend.cons rfl (jV (fun _=>rfl) _) ?_)) (hx:V.les uG xs (V.rns (sg ρ hb.length) args):=by repeat (first|exact V.les_refl _ _|exact V.les_nil|apply V.les_cons|exact V.le_refl _ _|exact V.le_nil|exact V.le_row|exact V.le_arr (fun _=>rfl)|apply V.le_agg)) (hr:r.rn (sg ρ hb.length)=v:=by(simp only[iQ,dQ,gW,nF,Blk.rn,V.rns,V.rn,sg,List.map_cons,List.map_nil,Option.map_some,Option.map_none,List.drop_succ_cons,List.drop_zero,List.drop_nil,List.set_cons_zero,List.set_cons_succ,List.cons_append,List.nil_append,List.append_nil,iB,iA,rS,rR,f5,f8,cT,cR,bP,bR,nG,nJ,lT,lQ,lO,p8,mM,List.getElem?_cons_zero,List.getElem?_cons_succ,List.getElem?_nil,List.length_cons,List.length_nil,Nat.reduceAdd,Nat.reduceSub,Nat.add_zero,Nat.zero_add,Nat.sub_self,Nat.sub_zero]<;>rfl)) (hh:iQ hb ρ hs'=hb':=by(simp only[iQ,dQ,gW,nF,Blk.rn,V.rns,V.rn,sg,List.map_cons,List.map_nil,Option.map_some,Option.map_none,List.drop_succ_cons,List.drop_zero,List.drop_nil,List.set_cons_zero,List.set_cons_succ,List.cons_append,List.nil_append,List.append_nil,iB,iA,rS,rR,f5,f8,cT,cR,bP,bR,nG,nJ,lT,lQ,lO,p8,mM,List.getElem?_cons_zero,List.getElem?_cons_succ,List.getElem?_nil,List.length_cons,List.length_nil,Nat.reduceAdd,Nat.reduceSub,Nat.add_zero,Nat.zero_add,Nat.sub_self,Nat.sub_zero]<;>rfl)) (hF:eE F f=false:=by rfl) (hG:eE G f=true→ ∃news,hb'=hb++news:=by first|exact(fun _=>⟨_,rfl⟩)|exact(fun _=>⟨[],(List.append_nil _).symm⟩)|exact(fun h=>absurd h (by decide))) (hg:Gd ops n fr gd:=by exact gD):OpsX Tryz.prog N (some (F,G)) ops (⟨some t,.call ⟨.value (.func f),ws.toArray,ts⟩,ty,pos,aft,gd⟩::l) (aE n fr) hb K:=xG hw (Vm.Fn.argsLe (Vm.Fn.lendB hc ρ hnd hlt hl rfl hr hh) hx) k hF hG hg
theorem zgL {f:FuncId}{hb:Hp}{args xs:List V}{r:V}{N n t:Nat}{ops:Array Oper}{l:List Oper}{fr:List (Nat×V)}{K:List V→Hp→Prop}{ty:TypeId}{pos:String}{aft:Array Edge}{ws:List Operand}{ts:Array TypeId}{hs hs' hb':Hp}{v:V}{F G:List Nat}{gd:Option (Nat×Bool)}(hc:Vm.Fn Tryz.prog f hs args r hs')(ρ β:List Nat)(k:OpsX Tryz.prog N (some (F,G)) ops l (aE n ((t,v)::fr)) hb' K) (hw:p9 n fr ws=some xs:=by rfl) (hnd:ρ.Nodup:=by decide) (hlt:ρ.all (fun b=>Nat.blt b hb.length)=true:=by rfl) (hdis: ∀b∈β,b∉ρ:=by decide) (hl:Lend (sg ρ hb.length) hb ρ hs:=by repeat (first|exact Lend.nil|refine Lend.cons rfl rfl ?_|refine Lend.cons rfl (mG (fun _=>rfl) _) ?_|refine Lend.cons rfl (jV (fun _=>rfl) _) ?_)) (hx:Brw (sg ρ hb.length) (only β hb) xs args:=by repeat (first|exact Brw.nil|refine Brw.same rfl ?_|refine Brw.row (aFy (by first|exact rfl|(simp only[bE,bF];done)|exact aV (by assumption)|exact bW (by assumption)) rfl (fun _=>rfl)) ?_|refine Brw.row (aHv (fun _=>rfl) zl (by first|exact rfl|(simp only[bE,bF];done)|exact aV (by assumption)|exact bW (by assumption)) rfl (fun _=>rfl)) ?_|refine Brw.same (by simp only[V.rn,V.rns,iB,iA]) ?_|refine Brw.le V.le_nil ?_|refine Brw.le V.le_row ?_)) (hrf:r.rf=true:=by first|rfl|simp[V.rf,V.rfs,aHu,aHe]) (hrb:rfB hs':=by repeat (first|exact rfB.nil|refine rfB.dead ?_|refine rfB.live rfl ?_|refine rfB.live (z6 (fun _=>rfl) _) ?_|refine rfB.live (aBn (fun _=>rfl) _) ?_)) (hr:r.rn (sg ρ hb.length)=v:=by(simp only[iQ,dQ,gW,nF,Blk.rn,V.rns,V.rn,sg,List.map_cons,List.map_nil,Option.map_some,Option.map_none,List.drop_succ_cons,List.drop_zero,List.drop_nil,List.set_cons_zero,List.set_cons_succ,List.cons_append,List.nil_append,List.append_nil,iB,iA,rS,rR,f5,f8,cT,cR,bP,bR,nG,nJ,lT,lQ,lO,p8,mM,List.getElem?_cons_zero,List.getElem?_cons_succ,List.getElem?_nil,List.length_cons,List.length_nil,Nat.reduceAdd,Nat.reduceSub,Nat.add_zero,Nat.zero_add,Nat.sub_self,Nat.sub_zero]<;>rfl)) (hh:iQ hb ρ hs'=hb':=by(simp only[iQ,dQ,gW,nF,Blk.rn,V.rns,V.rn,sg,List.map_cons,List.map_nil,Option.map_some,Option.map_none,List.drop_succ_cons,List.drop_zero,List.drop_nil,List.set_cons_zero,List.set_cons_succ,List.cons_append,List.nil_append,List.append_nil,iB,iA,rS,rR,f5,f8,cT,cR,bP,bR,nG,nJ,lT,lQ,lO,p8,mM,List.getElem?_cons_zero,List.getElem?_cons_succ,List.getElem?_nil,List.length_cons,List.length_nil,Nat.reduceAdd,Nat.reduceSub,Nat.add_zero,Nat.zero_add,Nat.sub_self,Nat.sub_zero]<;>rfl)) (hF:eE F f=false:=by rfl) (hG:eE G f=true→ ∃news,hb'=hb++news:=by first|exact(fun _=>⟨_,rfl⟩)|exact(fun _=>⟨[],(List.append_nil _).symm⟩)|exact(fun h=>absurd h (by decide))) (hg:Gd ops n fr gd:=by exact gD):OpsX Tryz.prog N (some (F,G)) ops (⟨some t,.call ⟨.value (.func f),ws.toArray,ts⟩,ty,pos,aft,gd⟩::l) (aE n fr) hb K:=xG hw (Vm.Fn.lendR hc ρ β hnd hlt hdis hl hx hrf hrb hr hh) k hF hG hg
theorem xp {f:FuncId}{hb:Hp}{args xs:List V}{r:V}{N n t:Nat}{ops:Array Oper}{l:List Oper}{fr:List (Nat×V)}{K:List V→Hp→Prop}{ty:TypeId}{pos:String}{aft:Array Edge}{ws:List Operand}{ts:Array TypeId}(hc:Vm.Fn Tryz.prog f [] args r [])(k:OpsX Tryz.prog N none ops l (aE n ((t,r)::fr)) hb K) (hw:p9 n fr ws=some xs:=by rfl) (hx:V.les uG xs args:=by repeat (first|exact V.les_refl _ _|exact V.les_nil|apply V.les_cons|exact V.le_refl _ _|exact V.le_nil|exact V.le_row|exact V.le_arr (fun _=>rfl)|apply V.le_agg)) (ha:V.rns (sg [] hb.length) args=args:=by first|rfl|(simp only[V.rn,V.rns,iB,iA]<;>rfl)) (hr:r.rn (sg [] hb.length)=r:=by first|rfl|(simp only[V.rn,V.rns,iB,iA]<;>rfl)):OpsX Tryz.prog N none ops (⟨some t,.call ⟨.value (.func f),ws.toArray,ts⟩,ty,pos,aft,none⟩::l) (aE n fr) hb K:=xC hw (Vm.Fn.argsLe (Vm.Fn.pure hc ha hr) hx) k
theorem xu {f:FuncId}{hb:Hp}{args xs:List V}{r:V}{N n t:Nat}{ops:Array Oper}{l:List Oper}{fr:List (Nat×V)}{K:List V→Hp→Prop}{ty:TypeId}{pos:String}{aft:Array Edge}{ws:List Operand}{ts:Array TypeId}{F G:List Nat}{gd:Option (Nat×Bool)}(hc:Vm.Fn Tryz.prog f [] args r [])(k:OpsX Tryz.prog N (some (F,G)) ops l (aE n ((t,r)::fr)) hb K) (hw:p9 n fr ws=some xs:=by rfl) (hx:V.les uG xs args:=by repeat (first|exact V.les_refl _ _|exact V.les_nil|apply V.les_cons|exact V.le_refl _ _|exact V.le_nil|exact V.le_row|exact V.le_arr (fun _=>rfl)|apply V.le_agg)) (ha: ∀L,V.rns (sg [] L) args=args:=by(intro L;first|rfl|(simp only[V.rn,V.rns,iB,iA]<;>rfl))) (hr: ∀L,r.rn (sg [] L)=r:=by(intro L;first|rfl|(simp only[V.rn,V.rns,iB,iA]<;>rfl))) (hG:eE G f=false:=by rfl) (hg:Gd ops n fr gd:=by exact gD):OpsX Tryz.prog N (some (F,G)) ops (⟨some t,.call ⟨.value (.func f),ws.toArray,ts⟩,ty,pos,aft,gd⟩::l) (aE n fr) hb K:=xU hw (fun _=>Vm.Fn.argsLe (Vm.Fn.pure hc (ha _) (hr _)) hx) k hG hg
end Go.Proofs.YtnllpckhipmpgaaGreatDoor
set_option linter.unusedVariables false
set_option linter.unusedSimpArgs false
set_option maxRecDepth 20000
set_option maxHeartbeats 1000000
namespace Go.Proofs.YtnllpckhipmpgaaGreatDoor
open Go Go.Vm
theorem aEc {N:Nat}{code:Int}{r:Bool}(hr:sR N code=some r):
  Vm.Fn Tryz.prog 52 [] [(eI .i64 code)] (eB r) []:=by
 refine zf Tryz.func52 Tryz.ntmps52 ?_
 unfold sR at hr
 refine zz ?_
 refine aQx fun K1 hK1 hG1=> ?_
 have J1: ∀(x2:Bool),oO N x2=some r→K1 (aE 9 [(2,(eB x2))]) []:=by
  intro x2 hr
  unfold oO at hr
  refine hK1 _ _ ?_
  refine zz ?_
  obtain rfl:=sj hr
  exact bK Tryz.results52 []
 rcases aQu (decide (1≤code))with h1|h1
 ·replace hr:=cU hr h1
  refine xr ?_
  refine zz ?_
  exact hG1 _ _ _ _ (zG []) (J1 (decide (code≤17)) hr)
 replace hr:=cQ hr h1
 refine xr ?_
 refine zz ?_
 exact hG1 _ _ _ _ (zG []) (J1 false hr)
theorem aB7 {N:Nat}{parts:List (List Int)}{r:(List Int)}(hr:qH N parts=some r):
  Vm.Fn Tryz.prog 36 [] [(.row none 1 (parts.map (eL 1 (eI .u8))))] (.sl 0 0 r.length 1 false) [some ⟨5,r.map (eI .u8)⟩]:=by
 refine zf Tryz.func36 Tryz.ntmps36 ?_
 unfold qH at hr
 refine zz ?_
 refine aQx fun K1 hK1 hG1=> ?_
 have J1: ∀(l0:List Int),y5 N l0=some r→K1 (aE 17 [(3,(.sl 0 0 l0.length 1 false))]) [some ⟨5,l0.map (eI .u8)⟩]:=by
  intro l0 hr
  unfold y5 at hr
  refine hK1 _ _ ?_
  refine zz ?_
  obtain rfl:=sj hr
  exact bK Tryz.results36 [0]
 obtain⟨a9,hL2,hr⟩:=aA hr
 refine zz ?_
 refine aQw<|aQF (fun m s h=> ∃(x8:Int)(aL:List Int),kE N parts m x8 aL=some a9∧Ghost 0 s h (aE 17 [(3,(.sl 0 0 aL.length 1 false)),(6,(.row none 1 (parts.map (eL 1 (eI .u8))))),(7,(eI .i64 (parts.length:Int))),(8,(eI .i64 x8))]) [some ⟨5,aL.map (eI .u8)⟩]) (n:=N) ⟨0,[],hL2,(zW 5 [0])⟩ (by rintro s h ⟨_,_,h0,_⟩;simp[kE]at h0) ?_
 rintro m2 s h ⟨x8,aL,hr2,hg⟩
 refine aQD hg ?_
 clear hg hL2
 rw[kE]at hr2
 refine zz ?_
 refine aQv ?_
 refine zk hr2 rfl (fun h1 hr2=> ?_) (fun h1 hr2=> ?_)
 ·refine zz ?_
  refine aQv<|aQw ?_
  obtain⟨cC,h_2,hr2⟩:=aA hr2
  obtain⟨bH,h_3,hr2⟩:=aA hr2
  refine zz ?_
  exact⟨aQr.wrap (x8+1),bH,hr2,(zG [1])⟩
 refine zz ?_
 obtain rfl:=sj hr2
 refine zz ?_
 exact hG1 _ _ _ _ (zG [0]) (J1 aL hr)
theorem aDi {N:Nat}{vm vn:Int}{r:Bool}(hr:pT N vm vn=some r):
  Vm.Fn Tryz.prog 53 [] [(eI .i64 vm),(eI .i64 vn)] (eB r) []:=by
 refine zf Tryz.func53 Tryz.ntmps53 ?_
 unfold pT at hr
 refine zz ?_
 refine aQx fun K1 hK1 hG1=> ?_
 have J1: ∀(x4:Bool),iE N x4=some r→K1 (aE 20 [(4,(eB x4))]) []:=by
  intro x4 hr
  unfold iE at hr
  refine hK1 _ _ ?_
  refine zz ?_
  obtain rfl:=sj hr
  exact bK Tryz.results53 []
 rcases aQu (decide (1≤vn))with h1|h1
 ·replace hr:=cU hr h1
  rcases aQu (decide (vn≤15))with h2|h2
  ·replace hr:=cU hr h2
   rcases aQu (decide (1≤vm))with h3|h3
   ·replace hr:=cU hr h3
    refine xr ?_
    refine zz ?_
    exact hG1 _ _ _ _ (zG []) (J1 (decide (vm≤vn)) hr)
   replace hr:=cQ hr h3
   refine xr ?_
   refine zz ?_
   exact hG1 _ _ _ _ (zG []) (J1 false hr)
  replace hr:=cQ hr h2
  refine xr ?_
  refine zz ?_
  refine xX rfl<|xX rfl<|xX rfl ?_
  refine zz ?_
  exact hG1 _ _ _ _ (zG []) (J1 false hr)
 replace hr:=cQ hr h1
 refine xr ?_
 refine zz ?_
 refine xX rfl<|xX rfl ?_
 refine zz ?_
 refine xX rfl<|xX rfl<|xX rfl ?_
 refine zz ?_
 exact hG1 _ _ _ _ (zG []) (J1 false hr)
theorem aE1 {N:Nat}{b:List Int}{r:Int×(List Int)×Int×Int×(List Int)×Int}(hr:t6 N b=some r):
  Vm.Fn Tryz.prog 35 [] [(.row none 1 (b.map (eI .u8)))] (.tup [(.agg [(eI .i64 r.1),(.sl 0 0 r.2.1.length 1 false),(eI .i64 r.2.2.1),(eI .i64 r.2.2.2.1)]),(.row none 1 (r.2.2.2.2.1.map (eI .u8))),(eI .i64 r.2.2.2.2.2)]) [some ⟨5,r.2.1.map (eI .u8)⟩]:=by
 refine zf Tryz.func35 Tryz.ntmps35 ?_
 unfold t6 at hr
 obtain⟨x8,h_1,hr⟩:=aA hr
 refine zz ?_
 refine aQv ?_
 obtain⟨bH,h_2,hr⟩:=aA hr
 refine zz ?_
 refine xp (aEc h_2) ?_
 refine zz ?_
 refine zk hr rfl (fun h3 hr=> ?_) (fun h3 hr=> ?_)
 ·refine zz ?_
  obtain rfl:=sj hr
  exact sK Tryz.results35 aW aW aW (zW 5 [2])
 obtain⟨x18,h_4,hr⟩:=aA hr
 refine zz ?_
 refine aQx fun K1 hK1 hG1=> ?_
 have J1: ∀(b_1:List Int)(c1 xI:Int)(l2:List Int),kT N x8 b_1 c1 xI l2=some r→K1 (aE 78 [(0,(.row none 1 (b_1.map (eI .u8)))),(2,(.ptr 0 0)),(5,(.ptr 1 0))]) [some ⟨46,[(eI .i64 0),(.row (some true) 1 []),(eI .i64 0),(eI .i64 0)]⟩,some ⟨46,[(eI .i64 (aQr.wrap x8)),(.sl 2 0 l2.length 1 false),(eI .i64 c1),(eI .i64 xI)]⟩,some ⟨5,l2.map (eI .u8)⟩]:=by
  intro b_1 c1 xI l2 hr
  unfold kT at hr
  refine hK1 _ _ ?_
  refine zz ?_
  obtain rfl:=sj hr
  exact sK Tryz.results35 aW aW aW (zG [2])
 refine zz ?_
 refine aQw ?_
 refine zz ?_
 refine zk hr rfl (fun h5 hr=> ?_) (fun h5 hr=> ?_)
 ·refine aQv ?_
  refine aQx fun K2 hK2 hG2=> ?_
  have J2: ∀(x35:Bool),pI N x8 x18 x35=some r→K2 (aE 78 [(0,(.row none 1 (x18.map (eI .u8)))),(2,(.ptr 0 0)),(5,(.ptr 1 0)),(35,(eB x35))]) [some ⟨46,[(eI .i64 0),(.row (some true) 1 []),(eI .i64 0),(eI .i64 0)]⟩,some ⟨46,[(eI .i64 (aQr.wrap x8)),(.row (some true) 1 []),(eI .i64 0),(eI .i64 0)]⟩]:=by
   intro x35 hr
   unfold pI at hr
   refine hK2 _ _ ?_
   refine zk hr rfl (fun h6 hr=> ?_) (fun h6 hr=> ?_)
   ·refine zz ?_
    obtain rfl:=sj hr
    exact sK Tryz.results35 aW aW aW (zW 5 [2])
   obtain⟨x38,h_7,hr⟩:=aA hr
   obtain⟨x44,h_8,hr⟩:=aA hr
   obtain⟨x46,h_9,hr⟩:=aA hr
   obtain⟨x49,h_11,hr⟩:=aA hr
   refine zz ?_
   refine AB.rd (eE []) (eE [36]) mixed<|aQt (n:=10) (i:=0) (by decide +kernel) rfl (gS (v:=(.row none 1 (x18.map (eI .u8)))) (sv (kK rfl)))<|aQt (n:=9) (i:=1) (by decide +kernel) rfl (gS (v:=(eI .i64 (aQr.wrap (1+(aQr.wrap x38))))) (sv (kK rfl)))<|aQt (n:=8) (i:=2) (by decide +kernel) rfl (gS (v:=(.row none 1 (x44.map (eI .u8)))) (sv (b7 rfl rfl rfl (qW cI dA rfl rfl h_8))))<|aQt (n:=7) (i:=3) (by decide +kernel) rfl (gS (v:=(.sl 2 0 1 1 false)) (h':=[some ⟨46,[(eI .i64 0),(.row (some true) 1 []),(eI .i64 0),(eI .i64 0)]⟩,some ⟨46,[(eI .i64 (aQr.wrap x8)),(.row (some true) 1 []),(eI .i64 0),(eI .i64 0)]⟩,some ⟨31,[x44].map (eL 1 (eI .u8))⟩]) (sv (qM rfl (aIT (xs:=[x44].map (eL 1 (eI .u8))) zE cI zl zl rfl rfl rfl rfl rfl rfl rfl)))) ?_
   refine aQt (n:=6) (i:=4) (by decide +kernel) rfl (gC (v:=(.sl 3 0 x46.length 1 false)) (h':=[some ⟨46,[(eI .i64 0),(.row (some true) 1 []),(eI .i64 0),(eI .i64 0)]⟩,some ⟨46,[(eI .i64 (aQr.wrap x8)),(.row (some true) 1 []),(eI .i64 0),(eI .i64 0)]⟩,some ⟨31,[x44].map (eL 1 (eI .u8))⟩,some ⟨5,x46.map (eI .u8)⟩]) (zL (aB7 h_9) [] [2]) rfl (fun _=>⟨_,rfl⟩) (sv (m9 rfl r8)))<|aQt (n:=5) (i:=5) (by decide +kernel) rfl (gS (v:=(.row none 1 (x18.map (eI .u8)))) (sv (kK rfl)))<|aQt (n:=4) (i:=6) (by decide +kernel) rfl (gS (v:=(eI .i64 (aQr.wrap (1+(aQr.wrap x38))))) (sv (kK rfl))) ?_
   refine aQt (n:=3) (i:=8) (by decide +kernel) rfl (gS (v:=(.ptr 1 1)) (sv (lV rfl (aEZ ..)))) ?_
   refine aQR (m:=1) (L:=lst [0,1,2,3,4,5,6,7,8,9] 11) (s1:=aE 78 [(0,(.row none 1 (x18.map (eI .u8)))),(2,(.ptr 0 0)),(5,(.ptr 1 0)),(49,(.row none 1 (x49.map (eI .u8))))]) (h1:=[some ⟨46,[(eI .i64 0),(.row (some true) 1 []),(eI .i64 0),(eI .i64 0)]⟩,some ⟨46,[(eI .i64 (aQr.wrap x8)),(.sl 2 0 x46.length 1 false),(eI .i64 0),(eI .i64 0)]⟩,some ⟨5,x46.map (eI .u8)⟩]) ?_ (fun J=> ?_)
   ·refine aQt (n:=0) (i:=10) (by decide +kernel) rfl (gS (v:=(.row none 1 (x49.map (eI .u8)))) (sv (qG rfl)))<|aQP (by decide +kernel) ?_
    refine zz ?_
    exact hG1 _ _ _ _ (zG [0,1,2]) (J1 x49 0 0 x46 hr)
   refine aQH (n:=2) [7,9] (by decide +kernel) (by decide) ?_
   refine(aQC rfl (gS (v:=(.row none 1 (x49.map (eI .u8)))) (sv (b7 rfl rfl rfl (qW cI dA rfl rfl h_11)))) ?_ (aQC rfl (gN (h':=[some ⟨46,[(eI .i64 0),(.row (some true) 1 []),(eI .i64 0),(eI .i64 0)]⟩,some ⟨46,[(eI .i64 (aQr.wrap x8)),(.sl 3 0 x46.length 1 false),(eI .i64 0),(eI .i64 0)]⟩,some ⟨31,[x44].map (eL 1 (eI .u8))⟩,some ⟨5,x46.map (eI .u8)⟩]) (sv (aY rfl rfl (fV cI rfl rfl rfl zl rfl)))) ?_ aQJ))
   ·refine aQt (n:=1) (i:=9) (by decide +kernel) rfl (gN (h':=[some ⟨46,[(eI .i64 0),(.row (some true) 1 []),(eI .i64 0),(eI .i64 0)]⟩,some ⟨46,[(eI .i64 (aQr.wrap x8)),(.sl 3 0 x46.length 1 false),(eI .i64 0),(eI .i64 0)]⟩,some ⟨31,[x44].map (eL 1 (eI .u8))⟩,some ⟨5,x46.map (eI .u8)⟩]) (sv (aY rfl rfl (fV cI rfl rfl rfl zl rfl)))) ?_
    exact aQG (by decide +kernel) (by decide +kernel) (zG [0,1,3]) J
   refine aQt (n:=1) (i:=7) (by decide +kernel) rfl (gS (v:=(.row none 1 (x49.map (eI .u8)))) (sv (b7 rfl rfl rfl (qW cI dA rfl rfl h_11)))) ?_
   exact aQG (by decide +kernel) (by decide +kernel) (zG [0,1,3]) J
  rcases aQu ((x18.length:Int) == 0)with h12|h12
  ·replace hr:=cU hr h12
   refine xr ?_
   refine zz ?_
   exact hG2 _ _ _ _ (zG [0,1]) (J2 true hr)
  replace hr:=cQ hr h12
  obtain⟨dD,h_13,hr⟩:=aA hr
  refine xr ?_
  refine zz ?_
  exact hG2 _ _ _ _ (zG [0,1]) (J2 (decide ((aQr.wrap ((x18.length:Int)-1))<(aQr.wrap dD))) hr)
 refine zz ?_
 refine zk hr rfl (fun h14 hr=> ?_) (fun h14 hr=> ?_)
 ·refine aQv ?_
  refine zz ?_
  refine zk hr rfl (fun h15 hr=> ?_) (fun h15 hr=> ?_)
  ·refine zz ?_
   obtain rfl:=sj hr
   exact sK Tryz.results35 aW aW aW (zW 5 [2])
  refine zz ?_
  refine aQv ?_
  obtain⟨x58,h_16,hr⟩:=aA hr
  obtain⟨x62,h_17,hr⟩:=aA hr
  obtain⟨x66,h_18,hr⟩:=aA hr
  refine AB.rd (eE []) (eE []) mixed<|aQt (n:=14) (i:=0) (by decide +kernel) rfl (gS (v:=(.row none 1 (x18.map (eI .u8)))) (sv (kK rfl)))<|aQt (n:=13) (i:=1) (by decide +kernel) rfl (gS (sv (yZ rfl rfl (iaR cI dA h_16))))<|aQt (n:=12) (i:=2) (by decide +kernel) rfl (gS (v:=(eI .u8 x58)) (sv (bO rfl (ldR h_16 (l5 dA rfl rfl)))))<|aQt (n:=11) (i:=3) (by decide +kernel) rfl (gS (v:=(eI .i64 (aQr.wrap x58))) (sv (f9 rfl (eZ _ ⟨_,dA⟩ cW rfl))))<|aQt (n:=10) (i:=4) (by decide +kernel) rfl (gS (v:=(.row none 1 (x18.map (eI .u8)))) (sv (kK rfl))) ?_
  refine aQt (n:=9) (i:=5) (by decide +kernel) rfl (gS (sv (yZ rfl rfl (iaR cI dA h_17))))<|aQt (n:=8) (i:=8) (by decide +kernel) rfl (gS (v:=(.row none 1 (x18.map (eI .u8)))) (sv (kK rfl)))<|aQt (n:=7) (i:=10) (by decide +kernel) rfl (gS (v:=(.ptr 1 2)) (sv (lV rfl (aFc ..)))) ?_
  refine aQR (m:=1) (L:=lst [0,1,2,3,4,5,6,7,8,9,10,11,12,13] 15) (s1:=aE 78 [(0,(.row none 1 (x18.map (eI .u8)))),(2,(.ptr 0 0)),(5,(.ptr 1 0)),(66,(.row none 1 (x66.map (eI .u8))))]) (h1:=[some ⟨46,[(eI .i64 0),(.row (some true) 1 []),(eI .i64 0),(eI .i64 0)]⟩,some ⟨46,[(eI .i64 (aQr.wrap x8)),(.row (some true) 1 []),(eI .i64 (aQr.wrap x58)),(eI .i64 (aQr.wrap x62))]⟩]) ?_ (fun J=> ?_)
  ·refine aQt (n:=0) (i:=14) (by decide +kernel) rfl (gS (v:=(.row none 1 (x66.map (eI .u8)))) (sv (qG rfl)))<|aQP (by decide +kernel) ?_
   obtain⟨x73,h_19,hr⟩:=aA hr
   refine zz ?_
   refine xp (aDi h_19) ?_
   refine zz ?_
   refine zk hr rfl (fun h20 hr=> ?_) (fun h20 hr=> ?_)
   ·refine zz ?_
    obtain rfl:=sj hr
    exact sK Tryz.results35 aW aW aW (zW 5 [2])
   refine zz ?_
   exact hG1 _ _ _ _ (Ghost.trans (Ghost.virt (fr':=[(0,(.row none 1 (x66.map (eI .u8)))),(2,(.ptr 0 0)),(5,(.ptr 1 0))]) (h1:=[some ⟨46,[(eI .i64 0),(.row (some true) 1 []),(eI .i64 0),(eI .i64 0)]⟩,some ⟨46,[(eI .i64 (aQr.wrap x8)),(.sl 2 0 0 1 false),(eI .i64 (aQr.wrap x58)),(eI .i64 (aQr.wrap x62))]⟩]) 5 (FLe.same rfl (FLe.same rfl (FLe.same rfl FLe.nil))) (HLv.live (V.les_refl _ _) rfl (HLv.live (V.les_cons (V.le_refl _ _) (V.les_cons (V.le_virt rfl) (V.les_cons (V.le_refl _ _) (V.les_cons (V.le_refl _ _) V.les_nil)))) rfl HLv.nil))) (lI [0,1,2])) (J1 x66 (aQr.wrap x58) (aQr.wrap x62) [] hr)
  refine aQH (n:=6) [6,9,11] (by decide +kernel) (by decide) ?_
  refine(aQC rfl (gS (v:=(eI .u8 x62)) (sv (bO rfl (ldR h_17 (l5 dA rfl rfl))))) ?_ (aQC rfl (gS (v:=(.row none 1 (x66.map (eI .u8)))) (sv (b7 rfl rfl rfl (qW cI dA rfl rfl h_18)))) ?_ (aQC rfl (gN (h':=[some ⟨46,[(eI .i64 0),(.row (some true) 1 []),(eI .i64 0),(eI .i64 0)]⟩,some ⟨46,[(eI .i64 (aQr.wrap x8)),(.row (some true) 1 []),(eI .i64 (aQr.wrap x58)),(eI .i64 0)]⟩]) (sv (aY rfl rfl (fV cW rfl rfl rfl zl rfl)))) ?_ aQJ)))
  ·refine aQH (n:=5) [7,9,11] (by decide +kernel) (by decide) ?_
   refine(aQC rfl (gS (v:=(eI .i64 (aQr.wrap x62))) (sv (f9 rfl (eZ _ ⟨_,dA⟩ cW rfl)))) ?_ (aQC rfl (gS (v:=(.row none 1 (x66.map (eI .u8)))) (sv (b7 rfl rfl rfl (qW cI dA rfl rfl h_18)))) ?_ (aQC rfl (gN (h':=[some ⟨46,[(eI .i64 0),(.row (some true) 1 []),(eI .i64 0),(eI .i64 0)]⟩,some ⟨46,[(eI .i64 (aQr.wrap x8)),(.row (some true) 1 []),(eI .i64 (aQr.wrap x58)),(eI .i64 0)]⟩]) (sv (aY rfl rfl (fV cW rfl rfl rfl zl rfl)))) ?_ aQJ)))
   ·refine aQH (n:=4) [9,11] (by decide +kernel) (by decide) ?_
    refine(aQC rfl (gS (v:=(.row none 1 (x66.map (eI .u8)))) (sv (b7 rfl rfl rfl (qW cI dA rfl rfl h_18)))) ?_ (aQC rfl (gN (h':=[some ⟨46,[(eI .i64 0),(.row (some true) 1 []),(eI .i64 0),(eI .i64 0)]⟩,some ⟨46,[(eI .i64 (aQr.wrap x8)),(.row (some true) 1 []),(eI .i64 (aQr.wrap x58)),(eI .i64 0)]⟩]) (sv (aY rfl rfl (fV cW rfl rfl rfl zl rfl)))) ?_ aQJ))
    ·refine aQt (n:=3) (i:=11) (by decide +kernel) rfl (gN (h':=[some ⟨46,[(eI .i64 0),(.row (some true) 1 []),(eI .i64 0),(eI .i64 0)]⟩,some ⟨46,[(eI .i64 (aQr.wrap x8)),(.row (some true) 1 []),(eI .i64 (aQr.wrap x58)),(eI .i64 0)]⟩]) (sv (aY rfl rfl (fV cW rfl rfl rfl zl rfl))))<|aQt (n:=2) (i:=12) (by decide +kernel) rfl (gS (v:=(.ptr 1 3)) (sv (lV rfl (gX ..))))<|aQt (n:=1) (i:=13) (by decide +kernel) rfl (gN (h':=[some ⟨46,[(eI .i64 0),(.row (some true) 1 []),(eI .i64 0),(eI .i64 0)]⟩,some ⟨46,[(eI .i64 (aQr.wrap x8)),(.row (some true) 1 []),(eI .i64 (aQr.wrap x58)),(eI .i64 (aQr.wrap x62))]⟩]) (sv (aY rfl rfl (fV cW rfl rfl rfl zl rfl)))) ?_
     exact aQG (by decide +kernel) (by decide +kernel) (zG [0,1]) J
    refine aQt (n:=3) (i:=12) (by decide +kernel) rfl (gS (v:=(.ptr 1 3)) (sv (lV rfl (gX ..))))<|aQH (n:=2) [9,13] (by decide +kernel) (by decide) ?_
    refine(aQC rfl (gS (v:=(.row none 1 (x66.map (eI .u8)))) (sv (b7 rfl rfl rfl (qW cI dA rfl rfl h_18)))) ?_ (aQC rfl (gN (h':=[some ⟨46,[(eI .i64 0),(.row (some true) 1 []),(eI .i64 0),(eI .i64 0)]⟩,some ⟨46,[(eI .i64 (aQr.wrap x8)),(.row (some true) 1 []),(eI .i64 (aQr.wrap x58)),(eI .i64 (aQr.wrap x62))]⟩]) (sv (aY rfl rfl (fV cW rfl rfl rfl zl rfl)))) ?_ aQJ))
    ·refine aQt (n:=1) (i:=13) (by decide +kernel) rfl (gN (h':=[some ⟨46,[(eI .i64 0),(.row (some true) 1 []),(eI .i64 0),(eI .i64 0)]⟩,some ⟨46,[(eI .i64 (aQr.wrap x8)),(.row (some true) 1 []),(eI .i64 (aQr.wrap x58)),(eI .i64 (aQr.wrap x62))]⟩]) (sv (aY rfl rfl (fV cW rfl rfl rfl zl rfl)))) ?_
     exact aQG (by decide +kernel) (by decide +kernel) (zG [0,1]) J
    refine aQt (n:=1) (i:=9) (by decide +kernel) rfl (gS (v:=(.row none 1 (x66.map (eI .u8)))) (sv (b7 rfl rfl rfl (qW cI dA rfl rfl h_18)))) ?_
    exact aQG (by decide +kernel) (by decide +kernel) (zG [0,1]) J
   ·refine aQH (n:=4) [7,11] (by decide +kernel) (by decide) ?_
    refine(aQC rfl (gS (v:=(eI .i64 (aQr.wrap x62))) (sv (f9 rfl (eZ _ ⟨_,dA⟩ cW rfl)))) ?_ (aQC rfl (gN (h':=[some ⟨46,[(eI .i64 0),(.row (some true) 1 []),(eI .i64 0),(eI .i64 0)]⟩,some ⟨46,[(eI .i64 (aQr.wrap x8)),(.row (some true) 1 []),(eI .i64 (aQr.wrap x58)),(eI .i64 0)]⟩]) (sv (aY rfl rfl (fV cW rfl rfl rfl zl rfl)))) ?_ aQJ))
    ·refine aQt (n:=3) (i:=11) (by decide +kernel) rfl (gN (h':=[some ⟨46,[(eI .i64 0),(.row (some true) 1 []),(eI .i64 0),(eI .i64 0)]⟩,some ⟨46,[(eI .i64 (aQr.wrap x8)),(.row (some true) 1 []),(eI .i64 (aQr.wrap x58)),(eI .i64 0)]⟩]) (sv (aY rfl rfl (fV cW rfl rfl rfl zl rfl))))<|aQt (n:=2) (i:=12) (by decide +kernel) rfl (gS (v:=(.ptr 1 3)) (sv (lV rfl (gX ..))))<|aQt (n:=1) (i:=13) (by decide +kernel) rfl (gN (h':=[some ⟨46,[(eI .i64 0),(.row (some true) 1 []),(eI .i64 0),(eI .i64 0)]⟩,some ⟨46,[(eI .i64 (aQr.wrap x8)),(.row (some true) 1 []),(eI .i64 (aQr.wrap x58)),(eI .i64 (aQr.wrap x62))]⟩]) (sv (aY rfl rfl (fV cW rfl rfl rfl zl rfl)))) ?_
     exact aQG (by decide +kernel) (by decide +kernel) (zG [0,1]) J
    refine aQt (n:=3) (i:=7) (by decide +kernel) rfl (gS (v:=(eI .i64 (aQr.wrap x62))) (sv (f9 rfl (eZ _ ⟨_,dA⟩ cW rfl))))<|aQt (n:=2) (i:=12) (by decide +kernel) rfl (gS (v:=(.ptr 1 3)) (sv (lV rfl (gX ..))))<|aQt (n:=1) (i:=13) (by decide +kernel) rfl (gN (h':=[some ⟨46,[(eI .i64 0),(.row (some true) 1 []),(eI .i64 0),(eI .i64 0)]⟩,some ⟨46,[(eI .i64 (aQr.wrap x8)),(.row (some true) 1 []),(eI .i64 (aQr.wrap x58)),(eI .i64 (aQr.wrap x62))]⟩]) (sv (aY rfl rfl (fV cW rfl rfl rfl zl rfl)))) ?_
    exact aQG (by decide +kernel) (by decide +kernel) (zG [0,1]) J
   refine aQt (n:=4) (i:=7) (by decide +kernel) rfl (gS (v:=(eI .i64 (aQr.wrap x62))) (sv (f9 rfl (eZ _ ⟨_,dA⟩ cW rfl))))<|aQt (n:=3) (i:=12) (by decide +kernel) rfl (gS (v:=(.ptr 1 3)) (sv (lV rfl (gX ..))))<|aQH (n:=2) [9,13] (by decide +kernel) (by decide) ?_
   refine(aQC rfl (gS (v:=(.row none 1 (x66.map (eI .u8)))) (sv (b7 rfl rfl rfl (qW cI dA rfl rfl h_18)))) ?_ (aQC rfl (gN (h':=[some ⟨46,[(eI .i64 0),(.row (some true) 1 []),(eI .i64 0),(eI .i64 0)]⟩,some ⟨46,[(eI .i64 (aQr.wrap x8)),(.row (some true) 1 []),(eI .i64 (aQr.wrap x58)),(eI .i64 (aQr.wrap x62))]⟩]) (sv (aY rfl rfl (fV cW rfl rfl rfl zl rfl)))) ?_ aQJ))
   ·refine aQt (n:=1) (i:=13) (by decide +kernel) rfl (gN (h':=[some ⟨46,[(eI .i64 0),(.row (some true) 1 []),(eI .i64 0),(eI .i64 0)]⟩,some ⟨46,[(eI .i64 (aQr.wrap x8)),(.row (some true) 1 []),(eI .i64 (aQr.wrap x58)),(eI .i64 (aQr.wrap x62))]⟩]) (sv (aY rfl rfl (fV cW rfl rfl rfl zl rfl)))) ?_
    exact aQG (by decide +kernel) (by decide +kernel) (zG [0,1]) J
   refine aQt (n:=1) (i:=9) (by decide +kernel) rfl (gS (v:=(.row none 1 (x66.map (eI .u8)))) (sv (b7 rfl rfl rfl (qW cI dA rfl rfl h_18)))) ?_
   exact aQG (by decide +kernel) (by decide +kernel) (zG [0,1]) J
  ·refine aQH (n:=5) [6,11] (by decide +kernel) (by decide) ?_
   refine(aQC rfl (gS (v:=(eI .u8 x62)) (sv (bO rfl (ldR h_17 (l5 dA rfl rfl))))) ?_ (aQC rfl (gN (h':=[some ⟨46,[(eI .i64 0),(.row (some true) 1 []),(eI .i64 0),(eI .i64 0)]⟩,some ⟨46,[(eI .i64 (aQr.wrap x8)),(.row (some true) 1 []),(eI .i64 (aQr.wrap x58)),(eI .i64 0)]⟩]) (sv (aY rfl rfl (fV cW rfl rfl rfl zl rfl)))) ?_ aQJ))
   ·refine aQH (n:=4) [7,11] (by decide +kernel) (by decide) ?_
    refine(aQC rfl (gS (v:=(eI .i64 (aQr.wrap x62))) (sv (f9 rfl (eZ _ ⟨_,dA⟩ cW rfl)))) ?_ (aQC rfl (gN (h':=[some ⟨46,[(eI .i64 0),(.row (some true) 1 []),(eI .i64 0),(eI .i64 0)]⟩,some ⟨46,[(eI .i64 (aQr.wrap x8)),(.row (some true) 1 []),(eI .i64 (aQr.wrap x58)),(eI .i64 0)]⟩]) (sv (aY rfl rfl (fV cW rfl rfl rfl zl rfl)))) ?_ aQJ))
    ·refine aQt (n:=3) (i:=11) (by decide +kernel) rfl (gN (h':=[some ⟨46,[(eI .i64 0),(.row (some true) 1 []),(eI .i64 0),(eI .i64 0)]⟩,some ⟨46,[(eI .i64 (aQr.wrap x8)),(.row (some true) 1 []),(eI .i64 (aQr.wrap x58)),(eI .i64 0)]⟩]) (sv (aY rfl rfl (fV cW rfl rfl rfl zl rfl))))<|aQt (n:=2) (i:=12) (by decide +kernel) rfl (gS (v:=(.ptr 1 3)) (sv (lV rfl (gX ..))))<|aQt (n:=1) (i:=13) (by decide +kernel) rfl (gN (h':=[some ⟨46,[(eI .i64 0),(.row (some true) 1 []),(eI .i64 0),(eI .i64 0)]⟩,some ⟨46,[(eI .i64 (aQr.wrap x8)),(.row (some true) 1 []),(eI .i64 (aQr.wrap x58)),(eI .i64 (aQr.wrap x62))]⟩]) (sv (aY rfl rfl (fV cW rfl rfl rfl zl rfl)))) ?_
     exact aQG (by decide +kernel) (by decide +kernel) (zG [0,1]) J
    refine aQt (n:=3) (i:=7) (by decide +kernel) rfl (gS (v:=(eI .i64 (aQr.wrap x62))) (sv (f9 rfl (eZ _ ⟨_,dA⟩ cW rfl))))<|aQt (n:=2) (i:=12) (by decide +kernel) rfl (gS (v:=(.ptr 1 3)) (sv (lV rfl (gX ..))))<|aQt (n:=1) (i:=13) (by decide +kernel) rfl (gN (h':=[some ⟨46,[(eI .i64 0),(.row (some true) 1 []),(eI .i64 0),(eI .i64 0)]⟩,some ⟨46,[(eI .i64 (aQr.wrap x8)),(.row (some true) 1 []),(eI .i64 (aQr.wrap x58)),(eI .i64 (aQr.wrap x62))]⟩]) (sv (aY rfl rfl (fV cW rfl rfl rfl zl rfl)))) ?_
    exact aQG (by decide +kernel) (by decide +kernel) (zG [0,1]) J
   refine aQt (n:=4) (i:=6) (by decide +kernel) rfl (gS (v:=(eI .u8 x62)) (sv (bO rfl (ldR h_17 (l5 dA rfl rfl)))))<|aQt (n:=3) (i:=7) (by decide +kernel) rfl (gS (v:=(eI .i64 (aQr.wrap x62))) (sv (f9 rfl (eZ _ ⟨_,dA⟩ cW rfl))))<|aQt (n:=2) (i:=12) (by decide +kernel) rfl (gS (v:=(.ptr 1 3)) (sv (lV rfl (gX ..))))<|aQt (n:=1) (i:=13) (by decide +kernel) rfl (gN (h':=[some ⟨46,[(eI .i64 0),(.row (some true) 1 []),(eI .i64 0),(eI .i64 0)]⟩,some ⟨46,[(eI .i64 (aQr.wrap x8)),(.row (some true) 1 []),(eI .i64 (aQr.wrap x58)),(eI .i64 (aQr.wrap x62))]⟩]) (sv (aY rfl rfl (fV cW rfl rfl rfl zl rfl)))) ?_
   exact aQG (by decide +kernel) (by decide +kernel) (zG [0,1]) J
  refine aQt (n:=5) (i:=6) (by decide +kernel) rfl (gS (v:=(eI .u8 x62)) (sv (bO rfl (ldR h_17 (l5 dA rfl rfl)))))<|aQt (n:=4) (i:=7) (by decide +kernel) rfl (gS (v:=(eI .i64 (aQr.wrap x62))) (sv (f9 rfl (eZ _ ⟨_,dA⟩ cW rfl))))<|aQt (n:=3) (i:=12) (by decide +kernel) rfl (gS (v:=(.ptr 1 3)) (sv (lV rfl (gX ..))))<|aQH (n:=2) [9,13] (by decide +kernel) (by decide) ?_
  refine(aQC rfl (gS (v:=(.row none 1 (x66.map (eI .u8)))) (sv (b7 rfl rfl rfl (qW cI dA rfl rfl h_18)))) ?_ (aQC rfl (gN (h':=[some ⟨46,[(eI .i64 0),(.row (some true) 1 []),(eI .i64 0),(eI .i64 0)]⟩,some ⟨46,[(eI .i64 (aQr.wrap x8)),(.row (some true) 1 []),(eI .i64 (aQr.wrap x58)),(eI .i64 (aQr.wrap x62))]⟩]) (sv (aY rfl rfl (fV cW rfl rfl rfl zl rfl)))) ?_ aQJ))
  ·refine aQt (n:=1) (i:=13) (by decide +kernel) rfl (gN (h':=[some ⟨46,[(eI .i64 0),(.row (some true) 1 []),(eI .i64 0),(eI .i64 0)]⟩,some ⟨46,[(eI .i64 (aQr.wrap x8)),(.row (some true) 1 []),(eI .i64 (aQr.wrap x58)),(eI .i64 (aQr.wrap x62))]⟩]) (sv (aY rfl rfl (fV cW rfl rfl rfl zl rfl)))) ?_
   exact aQG (by decide +kernel) (by decide +kernel) (zG [0,1]) J
  refine aQt (n:=1) (i:=9) (by decide +kernel) rfl (gS (v:=(.row none 1 (x66.map (eI .u8)))) (sv (b7 rfl rfl rfl (qW cI dA rfl rfl h_18)))) ?_
  exact aQG (by decide +kernel) (by decide +kernel) (zG [0,1]) J
 refine zz ?_
 exact hG1 _ _ _ _ (Ghost.trans (Ghost.virt (fr':=[(0,(.row none 1 (x18.map (eI .u8)))),(2,(.ptr 0 0)),(5,(.ptr 1 0))]) (h1:=[some ⟨46,[(eI .i64 0),(.row (some true) 1 []),(eI .i64 0),(eI .i64 0)]⟩,some ⟨46,[(eI .i64 (aQr.wrap x8)),(.sl 2 0 0 1 false),(eI .i64 0),(eI .i64 0)]⟩]) 5 (FLe.same rfl (FLe.same rfl (FLe.same rfl FLe.nil))) (HLv.live (V.les_refl _ _) rfl (HLv.live (V.les_cons (V.le_refl _ _) (V.les_cons (V.le_virt rfl) (V.les_cons (V.le_refl _ _) (V.les_cons (V.le_refl _ _) V.les_nil)))) rfl HLv.nil))) (lI [0,1,2])) (J1 x18 0 0 [] hr)
theorem aEx {N:Nat}{b:List Int}{r:(List aK)×Int}(hr:rN N b=some r):
  Vm.Fn Tryz.prog 18 [] [(.row none 1 (b.map (eI .u8)))] (.tup [(.sl 0 0 r.1.length 4 true),(eI .i64 r.2)]) [some ⟨46,r.1.flatMap bT⟩]:=by
 refine zf Tryz.func18 Tryz.ntmps18 ?_
 unfold rN at hr
 refine zz ?_
 refine aQv ?_
 refine zz ?_
 refine zk hr rfl (fun h1 hr=> ?_) (fun h1 hr=> ?_)
 ·refine zz ?_
  obtain rfl:=sj hr
  exact mZ Tryz.results18 aW aW (zW 46 [0])
 refine zz ?_
 refine aQx fun K1 hK1 hG1=> ?_
 have J1: ∀(l0:List aK),vJ N l0=some r→K1 (aE 29 [(4,(.sl 0 0 l0.length 4 true))]) [some ⟨46,l0.flatMap bT⟩]:=by
  intro l0 hr
  unfold vJ at hr
  refine hK1 _ _ ?_
  refine zz ?_
  obtain rfl:=sj hr
  exact u6 Tryz.results18 [0]
 obtain⟨a9,hL2,hr⟩:=aA hr
 refine aQw<|aQF (fun m s h=> ∃(b_1:List Int)(aL:List aK),jH N m b_1 aL=some a9∧Ghost 0 s h (aE 29 [(0,(.row none 1 (b_1.map (eI .u8)))),(4,(.sl 0 0 aL.length 4 true))]) [some ⟨46,aL.flatMap bT⟩]) (n:=N) ⟨b,[],hL2,(zW 46 [0])⟩ (by rintro s h ⟨_,_,h0,_⟩;simp[jH]at h0) ?_
 rintro m2 s h ⟨b_1,aL,hr2,hg⟩
 refine aQD hg ?_
 clear hg hL2
 rw[jH]at hr2
 refine aQv ?_
 refine zz ?_
 refine zk hr2 rfl (fun h2 hr2=> ?_) (fun h2 hr2=> ?_)
 ·refine zz ?_
  refine aQw ?_
  obtain⟨x16,h_3,hr2⟩:=aA hr2
  refine zz ?_
  refine zc (aE1 h_3) [] ?_
  refine zz ?_
  refine aQv ?_
  refine zz ?_
  refine zk hr2 rfl (fun h4 hr2=> ?_) (fun h4 hr2=> ?_)
  ·refine zz ?_
   obtain rfl:=sj hr2
   obtain rfl:=sj hr
   exact mZ Tryz.results18 aW aW (zW 46 [3])
  obtain⟨x26,h_5,hr2⟩:=aA hr2
  refine zz ?_
  refine aQK (Ghost.conv (fr':=[(0,(.row none 1 (b_1.map (eI .u8)))),(4,(.sl 0 0 aL.length 4 true)),(5,(.ptr 2 0)),(6,(.row none 1 (x16.2.2.2.2.1.map (eI .u8)))),(7,(eI .i64 x16.2.2.2.2.2)),(11,(.row none 1 (b_1.map (eI .u8)))),(12,(eI .i64 (b_1.length:Int))),(13,(eB (decide (0<(b_1.length:Int))))),(14,(.tup [(.agg [(eI .i64 x16.1),(.row none 1 (x16.2.1.map (eI .u8))),(eI .i64 x16.2.2.1),(eI .i64 x16.2.2.2.1)]),(.row none 1 (x16.2.2.2.2.1.map (eI .u8))),(eI .i64 x16.2.2.2.2.2)])),(15,(.row none 1 (b_1.map (eI .u8)))),(16,(.tup [(.agg [(eI .i64 x16.1),(.row none 1 (x16.2.1.map (eI .u8))),(eI .i64 x16.2.2.1),(eI .i64 x16.2.2.2.1)]),(.row none 1 (x16.2.2.2.2.1.map (eI .u8))),(eI .i64 x16.2.2.2.2.2)])),(17,(.agg [(eI .i64 x16.1),(.row none 1 (x16.2.1.map (eI .u8))),(eI .i64 x16.2.2.1),(eI .i64 x16.2.2.2.1)])),(18,(.row none 1 (x16.2.2.2.2.1.map (eI .u8)))),(19,(eI .i64 x16.2.2.2.2.2)),(20,(eI .i64 x16.2.2.2.2.2)),(21,(eB (x16.2.2.2.2.2 != 0))),(23,(.sl 0 0 aL.length 4 true)),(24,(.agg [(eI .i64 x16.1),(.row none 1 (x16.2.1.map (eI .u8))),(eI .i64 x16.2.2.1),(eI .i64 x16.2.2.2.1)]))]) (h':=[some ⟨46,aL.flatMap bT⟩,none,some ⟨46,[(eI .i64 x16.1),(.row none 1 (x16.2.1.map (eI .u8))),(eI .i64 x16.2.2.1),(eI .i64 x16.2.2.2.1)]⟩]) (aQE rfl (aQy (aH rfl)) (aQE rfl (aQy (aH rfl)) (aQE rfl (aQy (aH rfl)) (aQE rfl (aQy (aH rfl)) (aQE rfl (aQy (aH rfl)) (aQE rfl (aQy (aH rfl)) (aQE rfl (aQy (aH rfl)) (aQE rfl (aQy (aH rfl)) (aQE rfl (Conv.tup (aQB (aQV (aQB (aQy (aH rfl)) (aQB (aQS (aH rfl) rfl rfl (dB (fun _=>rfl)) (by first|rfl|(simp only[aQL,bE,bF];done))) (aQB (aQy (aH rfl)) (aQB (aQy (aH rfl)) aQN))))) (aQB (aQy (aH rfl)) (aQB (aQy (aH rfl)) aQN)))) (aQE rfl (aQy (aH rfl)) (aQE rfl (Conv.tup (aQB (aQV (aQB (aQy (aH rfl)) (aQB (aQS (aH rfl) rfl rfl (dB (fun _=>rfl)) (by first|rfl|(simp only[aQL,bE,bF];done))) (aQB (aQy (aH rfl)) (aQB (aQy (aH rfl)) aQN))))) (aQB (aQy (aH rfl)) (aQB (aQy (aH rfl)) aQN)))) (aQE rfl (aQV (aQB (aQy (aH rfl)) (aQB (aQS (aH rfl) rfl rfl (dB (fun _=>rfl)) (by first|rfl|(simp only[aQL,bE,bF];done))) (aQB (aQy (aH rfl)) (aQB (aQy (aH rfl)) aQN))))) (aQE rfl (aQy (aH rfl)) (aQE rfl (aQy (aH rfl)) (aQE rfl (aQy (aH rfl)) (aQE rfl (aQy (aH rfl)) (aQE rfl (aQy (aH rfl)) (aQE rfl (aQV (aQB (aQy (aH rfl)) (aQB (aQS (aH rfl) rfl rfl (dB (fun _=>rfl)) (by first|rfl|(simp only[aQL,bE,bF];done))) (aQB (aQy (aH rfl)) (aQB (aQy (aH rfl)) aQN))))) FCv.nil)))))))))))))))))) (aQQ (aQO (aH rfl)) (mU (fun _=>rfl) _) (HCv.dead (aQQ (aQB (aQy (aH rfl)) (aQB (aQS (aH rfl) rfl rfl (dB (fun _=>rfl)) (by first|rfl|(simp only[aQL,bE,bF];done))) (aQB (aQy (aH rfl)) (aQB (aQy (aH rfl)) aQN)))) rfl HCv.nil)))) ?_
  refine xw (v:=(.sl 3 0 1 4 true)) (h':=[some ⟨46,aL.flatMap bT⟩,none,some ⟨46,[(eI .i64 x16.1),(.row none 1 (x16.2.1.map (eI .u8))),(eI .i64 x16.2.2.1),(eI .i64 x16.2.2.2.1)]⟩,some ⟨46,[(aK.mk x16.1 x16.2.1 x16.2.2.1 x16.2.2.2.1)].flatMap bT⟩]) (qM rfl (aCU (C:=bT) (xs:=[(aK.mk x16.1 x16.2.1 x16.2.2.1 x16.2.2.2.1)]) (K:=4) (fun _=>rfl) (fun _=>rfl) aLm xE ⟨zl,zl,zl⟩ rfl rfl rfl rfl rfl rfl)) ?_
  refine zz ?_
  exact⟨x16.2.2.2.2.1,x26,hr2,(zG [4])⟩
 refine zz ?_
 obtain rfl:=sj hr2
 refine zz ?_
 exact hG1 _ _ _ _ (zG [0]) (J1 aL hr)
theorem aDB {N:Nat}{l:List aK}{r:Bool}(hr:qU N l=some r):
  Vm.Fn Tryz.prog 19 [] [(.row none 4 (l.map eQ))] (eB r) []:=by
 refine zf Tryz.func19 Tryz.ntmps19 ?_
 unfold qU at hr
 refine zz ?_
 refine aQx fun K1 hK1 hG1=> ?_
 have J1: ∀(l0:List Bool),u3 N l0=some r→K1 (aE 47 [(3,(.sl 0 0 l0.length 1 false))]) [some ⟨4,l0.map eB⟩]:=by
  intro l0 hr
  unfold u3 at hr
  refine hK1 _ _ ?_
  refine zz ?_
  obtain rfl:=sj hr
  exact bK Tryz.results19 []
 obtain⟨a9,hL2,hr⟩:=aA hr
 refine zz ?_
 refine aQw<|aQF (fun m s h=> ∃(x9:Int)(aL:List Bool),cY N l m x9 aL=some a9∧Ghost 0 s h (aE 47 [(3,(.sl 0 0 aL.length 1 false)),(7,(.row none 4 (l.map eQ))),(8,(eI .i64 (l.length:Int))),(9,(eI .i64 x9))]) [some ⟨4,aL.map eB⟩]) (n:=N) ⟨0,[],hL2,(zW 4 [0])⟩ (by rintro s h ⟨_,_,h0,_⟩;simp[cY]at h0) ?_
 rintro m2 s h ⟨x9,aL,hr2,hg⟩
 refine aQD hg ?_
 clear hg hL2
 rw[cY]at hr2
 refine zz ?_
 refine aQv ?_
 refine zk hr2 rfl (fun h1 hr2=> ?_) (fun h1 hr2=> ?_)
 ·refine zz ?_
  refine aQx fun K3 hK3 hG3=> ?_
  have J3: ∀(iZ:List Bool),i3 N l x9 (cY N l m2) iZ=some a9→K3 (aE 47 [(3,(.sl 0 0 iZ.length 1 false)),(7,(.row none 4 (l.map eQ))),(8,(eI .i64 (l.length:Int))),(9,(eI .i64 x9))]) [some ⟨4,iZ.map eB⟩]:=by
   intro iZ hr2
   unfold i3 at hr2
   refine hK3 _ _ ?_
   refine zz ?_
   exact⟨aQr.wrap (x9+1),iZ,hr2,(zG [0])⟩
  refine aQw ?_
  obtain⟨bX,h_2,hr2⟩:=aA hr2
  refine zz ?_
  refine aQw ?_
  refine zz ?_
  refine zk hr2 rfl (fun h3 hr2=> ?_) (fun h3 hr2=> ?_)
  ·obtain⟨bN,h_4,hr2⟩:=aA hr2
   refine zz ?_
   exact hG3 _ _ _ _ (zG [3]) (J3 bN hr2)
  refine zz ?_
  refine zk hr2 rfl (fun h5 hr2=> ?_) (fun h5 hr2=> ?_)
  ·refine aQv ?_
   refine aQx fun K4 hK4 hG4=> ?_
   have J4: ∀(pR:Bool),mR N l x9 aL (cY N l m2) pR=some a9→K4 (aE 47 [(3,(.sl 0 0 aL.length 1 false)),(6,(eI .i64 (aQr.wrap ((aL.length:Int)-1)))),(7,(.row none 4 (l.map eQ))),(8,(eI .i64 (l.length:Int))),(9,(eI .i64 x9)),(32,(eB pR))]) [some ⟨4,aL.map eB⟩]:=by
    intro pR hr2
    unfold mR at hr2
    refine hK4 _ _ ?_
    refine zk hr2 rfl (fun h6 hr2=> ?_) (fun h6 hr2=> ?_)
    ·refine zz ?_
     obtain rfl:=sj hr2
     obtain rfl:=sj hr
     exact bK Tryz.results19 []
    obtain⟨x35,h_7,hr2⟩:=aA hr2
    refine zz ?_
    exact hG3 _ _ _ _ (lI [0]) (J3 (aL.set (aQz (aQr.wrap ((aL.length:Int)-1))) true) hr2)
   rcases aQu (decide ((aQr.wrap ((aL.length:Int)-1))<0))with h8|h8
   ·replace hr2:=cU hr2 h8
    refine xr ?_
    refine zz ?_
    exact hG4 _ _ _ _ (zG [0]) (J4 true hr2)
   replace hr2:=cQ hr2 h8
   obtain⟨mX,h_9,hr2⟩:=aA hr2
   refine xr ?_
   refine zz ?_
   exact hG4 _ _ _ _ (zG [0]) (J4 mX hr2)
  refine zz ?_
  refine zk hr2 rfl (fun h10 hr2=> ?_) (fun h10 hr2=> ?_)
  ·refine aQv ?_
   refine zz ?_
   refine zk hr2 rfl (fun h11 hr2=> ?_) (fun h11 hr2=> ?_)
   ·refine zz ?_
    obtain rfl:=sj hr2
    obtain rfl:=sj hr
    exact bK Tryz.results19 []
   obtain⟨x42,h_12,hr2⟩:=aA hr2
   refine zz ?_
   refine xw (v:=(.sl 0 0 x42.length 1 false)) (b7 rfl rfl rfl (aEC (l:=aL) rfl aLA yP rfl rfl rfl h_12)) ?_
   refine aQK (Ghost.cutM (t:=42) (E:=eB) (l:=aL) (h':=[some ⟨4,x42.map eB⟩,some ⟨46,[(eI .i64 bX.Code),(.row none 1 (bX.Data.map (eI .u8))),(eI .i64 bX.M),(eI .i64 bX.N)]⟩]) rfl rfl h_12 rfl) ?_
   refine zz ?_
   exact hG3 _ _ _ _ (zG [0]) (J3 x42 hr2)
  refine zz ?_
  exact hG3 _ _ _ _ (zG [0]) (J3 aL hr2)
 refine zz ?_
 obtain rfl:=sj hr2
 refine zz ?_
 exact hG1 _ _ _ _ (zG [0]) (J1 aL hr)
theorem aDh {N:Nat}{stack:List (List Int)}{r:Bool}(hr:pO N stack=some r):
  Vm.Fn Tryz.prog 20 [] [(.row none 1 (stack.map (eL 1 (eI .u8))))] (eB r) []:=by
 refine zf Tryz.func20 Tryz.ntmps20 ?_
 unfold pO at hr
 refine zz ?_
 refine aQv ?_
 refine zz ?_
 refine zk hr rfl (fun h1 hr=> ?_) (fun h1 hr=> ?_)
 ·refine zz ?_
  obtain rfl:=sj hr
  exact bK Tryz.results20 []
 refine zz ?_
 refine aQx fun K1 hK1 hG1=> ?_
 have J1:tR N=some r→K1 (aE 18 []) []:=by
  intro hr
  unfold tR at hr
  refine hK1 _ _ ?_
  refine zz ?_
  obtain rfl:=sj hr
  exact bK Tryz.results20 []
 obtain⟨a9,hL2,hr⟩:=aA hr
 refine zz ?_
 refine aQw<|aQF (fun m s h=> ∃(cC:Int),fJ N stack m cC=some a9∧Ghost 0 s h (aE 18 [(8,(.row none 1 (stack.map (eL 1 (eI .u8))))),(9,(eI .i64 (stack.length:Int))),(10,(eI .i64 cC))]) []) (n:=N) ⟨0,hL2,(zG [])⟩ (by rintro s h ⟨_,h0,_⟩;simp[fJ]at h0) ?_
 rintro m2 s h ⟨cC,hr2,hg⟩
 refine aQD hg ?_
 clear hg hL2
 rw[fJ]at hr2
 refine zz ?_
 refine aQv ?_
 refine zk hr2 rfl (fun h2 hr2=> ?_) (fun h2 hr2=> ?_)
 ·refine zz ?_
  refine aQv<|aQw ?_
  obtain⟨dL,h_3,hr2⟩:=aA hr2
  refine zz ?_
  refine zk hr2 rfl (fun h4 hr2=> ?_) (fun h4 hr2=> ?_)
  ·refine zz ?_
   obtain rfl:=sj hr2
   obtain rfl:=sj hr
   exact bK Tryz.results20 []
  refine zz ?_
  exact⟨aQr.wrap (cC+1),hr2,(zG [])⟩
 refine zz ?_
 obtain rfl:=sj hr2
 refine zz ?_
 exact hG1 _ _ _ _ (zG []) (J1 hr)
theorem u2 {N:Nat}{stack:List (List Int)}{r:(List (List Int))}(hr:nI N stack=some r):
  Vm.Fn Tryz.prog 21 [] [(.row none 1 (stack.map (eL 1 (eI .u8))))] (.sl 0 0 r.length 1 false) [some ⟨31,r.map (eL 1 (eI .u8))⟩]:=by
 refine zf Tryz.func21 Tryz.ntmps21 ?_
 unfold nI at hr
 refine zz ?_
 refine aQx fun K1 hK1 hG1=> ?_
 have J1: ∀(l0:List (List Int)),qF N l0=some r→K1 (aE 20 [(3,(.sl 0 0 l0.length 1 false))]) [some ⟨31,l0.map (eL 1 (eI .u8))⟩]:=by
  intro l0 hr
  unfold qF at hr
  refine hK1 _ _ ?_
  refine zz ?_
  obtain rfl:=sj hr
  exact bK Tryz.results21 [0]
 obtain⟨a9,hL2,hr⟩:=aA hr
 refine zz ?_
 refine aQw<|aQF (fun m s h=> ∃(x8:Int)(aL:List (List Int)),i0 N stack m x8 aL=some a9∧Ghost 0 s h (aE 20 [(3,(.sl 0 0 aL.length 1 false)),(6,(.row none 1 (stack.map (eL 1 (eI .u8))))),(7,(eI .i64 (stack.length:Int))),(8,(eI .i64 x8))]) [some ⟨31,aL.map (eL 1 (eI .u8))⟩]) (n:=N) ⟨0,[],hL2,(zW 31 [0])⟩ (by rintro s h ⟨_,_,h0,_⟩;simp[i0]at h0) ?_
 rintro m2 s h ⟨x8,aL,hr2,hg⟩
 refine aQD hg ?_
 clear hg hL2
 rw[i0]at hr2
 refine zz ?_
 refine aQv ?_
 refine zk hr2 rfl (fun h1 hr2=> ?_) (fun h1 hr2=> ?_)
 ·refine zz ?_
  refine aQv<|aQw ?_
  obtain⟨cC,h_2,hr2⟩:=aA hr2
  obtain⟨x15,h_3,hr2⟩:=aA hr2
  obtain⟨x17,h_4,hr2⟩:=aA hr2
  refine zz ?_
  refine zcL (aB7 h_3) [] [1] ?_
  refine aQK (zv 2) ?_
  refine zz ?_
  exact⟨aQr.wrap (x8+1),x17,hr2,(zG [4])⟩
 refine zz ?_
 obtain rfl:=sj hr2
 refine zz ?_
 exact hG1 _ _ _ _ (zG [0]) (J1 aL hr)
theorem aAj {N:Nat}{aB:List Int}{aD aI:Int}{aF:List (List Int)}{aC:List aG}{aP:Int}{r:Bool}(hr:lN N aB aD aI aF aC aP=some r):
  Vm.Fn Tryz.prog 37 [some ⟨56,(bJ (eI .u8) aB [(eI .i64 aD),(eI .i64 aI),(.sl 1 0 aF.length 1 false),(.sl 2 0 aC.length 2 true),(eI .i64 aP)])⟩,some ⟨31,aF.map (eL 1 (eI .u8))⟩,some ⟨73,aC.flatMap aM⟩] [(.ptr 0 0)] (eB r) [some ⟨56,(bJ (eI .u8) aB [(eI .i64 aD),(eI .i64 aI),(.sl 1 0 aF.length 1 false),(.sl 2 0 aC.length 2 true),(eI .i64 aP)])⟩,some ⟨31,aF.map (eL 1 (eI .u8))⟩,some ⟨73,aC.flatMap aM⟩]:=by
 refine zf Tryz.func37 Tryz.ntmps37 ?_
 unfold lN at hr
 refine zz ?_
 refine aQv ?_
 refine zz ?_
 refine zk hr rfl (fun h1 hr=> ?_) (fun h1 hr=> ?_)
 ·refine zz ?_
  obtain rfl:=sj hr
  exact bK Tryz.results37 [0,1,2]
 refine zz ?_
 refine aQv ?_
 obtain⟨bI,h_2,hr⟩:=aA hr
 refine aQI mixed [] [] [[0,1,2,3,4,5,6,7,8,9,10,11,12,13]] ?_
 refine zz ?_
 refine xw (v:=(.agg [(eB bI.outer),(eB bI.taken)])) (bO rfl (aJp (C:=aM) (K:=2) (fun _=>rfl) rfl h_2 (zN (ds:=[(eB bI.outer),(eB bI.taken)]) aBR rfl zl rfl))) ?_
 refine zz ?_
 refine aQx fun K1 hK1 hG1=> ?_
 have J1: ∀(x2:Bool),gF N aB aD aI aF aC aP x2=some r→K1 (aE 28 [(2,(eB x2))]) [some ⟨56,(bJ (eI .u8) aB [(eI .i64 aD),(eI .i64 aI),(.sl 1 0 aF.length 1 false),(.sl 2 0 aC.length 2 true),(eI .i64 aP)])⟩,some ⟨31,aF.map (eL 1 (eI .u8))⟩,some ⟨73,aC.flatMap aM⟩]:=by
  intro x2 hr
  unfold gF at hr
  refine hK1 _ _ ?_
  refine zz ?_
  obtain rfl:=sj hr
  exact bK Tryz.results37 [0,1,2]
 rcases aQu bI.outer with h3|h3
 ·replace hr:=cU hr h3
  refine xr ?_
  refine zz ?_
  exact hG1 _ _ _ _ (zG [0,1,2]) (J1 bI.taken hr)
 replace hr:=cQ hr h3
 refine xr ?_
 refine zz ?_
 exact hG1 _ _ _ _ (zG [0,1,2]) (J1 false hr)
theorem aEO {N:Nat}{aQ:Int}{bM:List Int}{dJ dC r:Int}(hr:sV N aQ bM dJ dC=some r):
  Vm.Fn Tryz.prog 38 [] [(.agg [(eI .i64 aQ),(.row none 1 (bM.map (eI .u8))),(eI .i64 dJ),(eI .i64 dC)])] (eI .i64 r) []:=by
 refine zf Tryz.func38 Tryz.ntmps38 ?_
 unfold sV at hr
 refine zz ?_
 refine aQv ?_
 refine zz ?_
 refine aQw ?_
 refine zz ?_
 refine zk hr rfl (fun h1 hr=> ?_) (fun h1 hr=> ?_)
 ·refine zz ?_
  obtain rfl:=sj hr
  exact bK Tryz.results38 []
 refine zz ?_
 refine zk hr rfl (fun h2 hr=> ?_) (fun h2 hr=> ?_)
 ·refine zz ?_
  obtain rfl:=sj hr
  exact bK Tryz.results38 []
 refine zz ?_
 refine zk hr rfl (fun h3 hr=> ?_) (fun h3 hr=> ?_)
 ·refine zz ?_
  obtain rfl:=sj hr
  exact bK Tryz.results38 []
 refine zz ?_
 obtain rfl:=sj hr
 exact bK Tryz.results38 []
theorem aEQ {N:Nat}{aQ:Int}{bM:List Int}{dJ dC r:Int}(hr:rY N aQ bM dJ dC=some r):
  Vm.Fn Tryz.prog 39 [] [(.agg [(eI .i64 aQ),(.row none 1 (bM.map (eI .u8))),(eI .i64 dJ),(eI .i64 dC)])] (eI .i64 r) []:=by
 refine zf Tryz.func39 Tryz.ntmps39 ?_
 unfold rY at hr
 refine zz ?_
 refine aQv ?_
 refine zz ?_
 refine aQw ?_
 refine aQx fun K1 hK1 hG1=> ?_
 have J1: ∀(x5:Bool),jM N aQ bM dJ dC x5=some r→K1 (aE 19 [(1,(.ptr 0 0)),(4,(eI .i64 aQ)),(5,(eB x5))]) [some ⟨46,[(eI .i64 aQ),(.row none 1 (bM.map (eI .u8))),(eI .i64 dJ),(eI .i64 dC)]⟩]:=by
  intro x5 hr
  unfold jM at hr
  refine hK1 _ _ ?_
  refine zk hr rfl (fun h1 hr=> ?_) (fun h1 hr=> ?_)
  ·refine zz ?_
   obtain rfl:=sj hr
   exact bK Tryz.results39 []
  refine aQx fun K2 hK2 hG2=> ?_
  have J2: ∀(cC:Bool),lG N aQ bM dJ dC cC=some r→K2 (aE 19 [(1,(.ptr 0 0)),(4,(eI .i64 aQ)),(10,(eB cC))]) [some ⟨46,[(eI .i64 aQ),(.row none 1 (bM.map (eI .u8))),(eI .i64 dJ),(eI .i64 dC)]⟩]:=by
   intro cC hr
   unfold lG at hr
   refine hK2 _ _ ?_
   refine zk hr rfl (fun h2 hr=> ?_) (fun h2 hr=> ?_)
   ·refine zz ?_
    obtain rfl:=sj hr
    exact bK Tryz.results39 []
   refine zz ?_
   refine zk hr rfl (fun h3 hr=> ?_) (fun h3 hr=> ?_)
   ·refine zz ?_
    obtain rfl:=sj hr
    exact bK Tryz.results39 []
   refine zz ?_
   obtain rfl:=sj hr
   exact bK Tryz.results39 []
  refine zz ?_
  refine zk hr rfl (fun h4 hr=> ?_) (fun h4 hr=> ?_)
  ·refine zz ?_
   exact hG2 _ _ _ _ (zG [0]) (J2 (aQ == 4) hr)
  refine zz ?_
  refine zk hr rfl (fun h5 hr=> ?_) (fun h5 hr=> ?_)
  ·refine zz ?_
   exact hG2 _ _ _ _ (zG [0]) (J2 (aQ == 5) hr)
  refine zz ?_
  exact hG2 _ _ _ _ (zG [0]) (J2 (aQ == 10) hr)
 refine zz ?_
 refine zk hr rfl (fun h6 hr=> ?_) (fun h6 hr=> ?_)
 ·refine zz ?_
  exact hG1 _ _ _ _ (zG [0]) (J1 (aQ == 1) hr)
 refine zz ?_
 refine zk hr rfl (fun h7 hr=> ?_) (fun h7 hr=> ?_)
 ·refine zz ?_
  exact hG1 _ _ _ _ (zG [0]) (J1 (aQ == 15) hr)
 refine zz ?_
 refine zk hr rfl (fun h8 hr=> ?_) (fun h8 hr=> ?_)
 ·refine zz ?_
  exact hG1 _ _ _ _ (zG [0]) (J1 (aQ == 16) hr)
 refine zz ?_
 exact hG1 _ _ _ _ (zG [0]) (J1 (aQ == 17) hr)
theorem dG {N:Nat}{aB:List Int}{aD aI:Int}{aF:List (List Int)}{aC:List aG}{aP:Int}{r:(List Int)}(hr:bZ N aB aD aI aF aC aP=some r):
  Vm.Fn Tryz.prog 40 [some ⟨56,(bJ (eI .u8) aB [(eI .i64 aD),(eI .i64 aI),(.sl 1 0 aF.length 1 false),(.sl 2 0 aC.length 2 true),(eI .i64 aP)])⟩,some ⟨31,aF.map (eL 1 (eI .u8))⟩,some ⟨73,aC.flatMap aM⟩] [(.ptr 0 0)] (.row none 1 (r.map (eI .u8))) [some ⟨56,(bJ (eI .u8) aB [(eI .i64 aD),(eI .i64 aI),(.sl 1 0 aF.length 1 false),(.sl 2 0 aC.length 2 true),(eI .i64 aP)])⟩,some ⟨31,aF.map (eL 1 (eI .u8))⟩,some ⟨73,aC.flatMap aM⟩]:=by
 refine zf Tryz.func40 Tryz.ntmps40 ?_
 unfold bZ at hr
 refine zz ?_
 refine aQv ?_
 obtain⟨cB,h_1,hr⟩:=aA hr
 refine aQI mixed [] [] [[0,1,2,3,4,5,6,7,8,9,10,11,12]] ?_
 refine zz ?_
 obtain rfl:=sj hr
 exact bK Tryz.results40 [0,1,2]
theorem vK {N:Nat}{eJ:List Int}{r:Bool}(hr:jL N eJ=some r):
  Vm.Fn Tryz.prog 33 [] [(.row none 1 (eJ.map (eI .u8)))] (eB r) []:=by
 refine zf Tryz.func33 Tryz.ntmps33 ?_
 unfold jL at hr
 refine zz ?_
 refine aQx fun K1 hK1 hG1=> ?_
 have J1:vI N=some r→K1 (aE 14 []) []:=by
  intro hr
  unfold vI at hr
  refine hK1 _ _ ?_
  refine zz ?_
  obtain rfl:=sj hr
  exact bK Tryz.results33 []
 obtain⟨a9,hL2,hr⟩:=aA hr
 refine zz ?_
 refine aQw<|aQF (fun m s h=> ∃(x7:Int),eV N eJ m x7=some a9∧Ghost 0 s h (aE 14 [(5,(.row none 1 (eJ.map (eI .u8)))),(6,(eI .i64 (eJ.length:Int))),(7,(eI .i64 x7))]) []) (n:=N) ⟨0,hL2,(zG [])⟩ (by rintro s h ⟨_,h0,_⟩;simp[eV]at h0) ?_
 rintro m2 s h ⟨x7,hr2,hg⟩
 refine aQD hg ?_
 clear hg hL2
 rw[eV]at hr2
 refine zz ?_
 refine aQv ?_
 refine zk hr2 rfl (fun h1 hr2=> ?_) (fun h1 hr2=> ?_)
 ·refine zz ?_
  refine aQv<|aQw ?_
  obtain⟨x9,h_2,hr2⟩:=aA hr2
  refine zz ?_
  refine zk hr2 rfl (fun h3 hr2=> ?_) (fun h3 hr2=> ?_)
  ·refine zz ?_
   obtain rfl:=sj hr2
   obtain rfl:=sj hr
   exact bK Tryz.results33 []
  refine zz ?_
  exact⟨aQr.wrap (x7+1),hr2,(zG [])⟩
 refine zz ?_
 obtain rfl:=sj hr2
 refine zz ?_
 exact hG1 _ _ _ _ (zG []) (J1 hr)
theorem k4 {N:Nat}{aB:List Int}{aD aI:Int}{aF:List (List Int)}{aC:List aG}{aP vn:Int}{r:(List Int)×Int×Int×(List (List Int))×(List aG)×Int}(hr:dI N aB aD aI aF aC aP vn=some r):
  Vm.Fn Tryz.prog 41 [some ⟨56,(bJ (eI .u8) aB [(eI .i64 aD),(eI .i64 aI),(.sl 1 0 aF.length 1 false),(.sl 2 0 aC.length 2 true),(eI .i64 aP)])⟩,some ⟨31,aF.map (eL 1 (eI .u8))⟩,some ⟨73,aC.flatMap aM⟩] [(.ptr 0 0),(eI .i64 vn)] (.tup []) [some ⟨56,(bJ (eI .u8) r.1 [(eI .i64 r.2.1),(eI .i64 r.2.2.1),(.sl 3 0 r.2.2.2.1.length 1 false),(.sl 4 0 r.2.2.2.2.1.length 2 true),(eI .i64 r.2.2.2.2.2)])⟩,none,none,some ⟨31,r.2.2.2.1.map (eL 1 (eI .u8))⟩,some ⟨73,r.2.2.2.2.1.flatMap aM⟩]:=by
 refine zf Tryz.func41 Tryz.ntmps41 ?_
 unfold dI at hr
 obtain⟨x16,h_1,hr⟩:=aA hr
 refine aQI mixed [] [] [[0,1,2,3,4,5,6,7,8,9,10,11,12],[13,14,15]] ?_
 refine zz ?_
 refine xw (v:=(.sl 1 0 x16.length 1 false)) (b7 rfl rfl rfl (aEC (l:=aF) rfl zE cI rfl rfl rfl h_1)) ?_
 refine zz ?_
 refine⟨_,_,(Ghost.cutM (t:=16) (E:=(eL 1 (eI .u8))) (l:=aF) (h':=[some ⟨56,(bJ (eI .u8) aB [(eI .i64 aD),(eI .i64 aI),(.sl 1 0 aF.length 1 false),(.sl 2 0 aC.length 2 true),(eI .i64 aP)])⟩,some ⟨31,x16.map (eL 1 (eI .u8))⟩,some ⟨73,aC.flatMap aM⟩]) rfl rfl h_1 rfl), ?_⟩
 refine zz ?_
 obtain rfl:=sj hr
 exact zn0 Tryz.results41 (zG [0,1,2,1,2])
theorem oR {N:Nat}{aB:List Int}{aD aI:Int}{aF:List (List Int)}{aC:List aG}{aP:Int}{eJ:List Int}{r:Int×(List Int)×Int×Int×(List (List Int))×(List aG)×Int}(hr:fL N aB aD aI aF aC aP eJ=some r):
  Vm.Fn Tryz.prog 54 [some ⟨56,(bJ (eI .u8) aB [(eI .i64 aD),(eI .i64 aI),(.sl 1 0 aF.length 1 false),(.sl 2 0 aC.length 2 true),(eI .i64 aP)])⟩,some ⟨31,aF.map (eL 1 (eI .u8))⟩,some ⟨73,aC.flatMap aM⟩] [(.ptr 0 0),(.row none 1 (eJ.map (eI .u8)))] (eI .i64 r.1) [some ⟨56,(bJ (eI .u8) r.2.1 [(eI .i64 r.2.2.1),(eI .i64 r.2.2.2.1),(.sl 3 0 r.2.2.2.2.1.length 1 false),(.sl 4 0 r.2.2.2.2.2.1.length 2 true),(eI .i64 r.2.2.2.2.2.2)])⟩,none,none,some ⟨31,r.2.2.2.2.1.map (eL 1 (eI .u8))⟩,some ⟨73,r.2.2.2.2.2.1.flatMap aM⟩]:=by
 refine zf Tryz.func54 Tryz.ntmps54 ?_
 unfold fL at hr
 refine zz ?_
 refine aQv ?_
 refine zz ?_
 refine zk hr rfl (fun h1 hr=> ?_) (fun h1 hr=> ?_)
 ·refine zz ?_
  obtain rfl:=sj hr
  exact bK Tryz.results54 [0,1,2,1,2]
 obtain⟨x18,h_2,hr⟩:=aA hr
 refine zz ?_
 obtain rfl:=sj hr
 exact bK Tryz.results54 [0,1,2,4,2]
theorem aFC {N:Nat}{va b:List Int}{r:Bool}(hr:yF N va b=some r):
  Vm.Fn Tryz.prog 57 [] [(.row none 1 (va.map (eI .u8))),(.row none 1 (b.map (eI .u8)))] (eB r) []:=by
 refine zf Tryz.func57 Tryz.ntmps57 ?_
 unfold yF at hr
 refine zz ?_
 refine xw (v:=(eS (nP va))) (f9 rfl (aGG cI ti9 dA (aA4 (fun _=>rfl)))) ?_
 refine zz ?_
 refine xw (v:=(eS (nP b))) (f9 rfl (aGG cI ti9 dA (aA4 (fun _=>rfl))))<|xw (xT rfl rfl (aHp ..)) ?_
 refine zz ?_
 obtain rfl:=sj hr
 exact bK Tryz.results57 []
theorem tG {N:Nat}{vn:Int}{r:(List Int)}(hr:eU N vn=some r):
  Vm.Fn Tryz.prog 15 [] [(eI .u32 vn)] (.sl 0 0 r.length 1 false) [some ⟨5,r.map (eI .u8)⟩]:=by
 refine zf Tryz.func15 Tryz.ntmps15 ?_
 unfold eU at hr
 refine zz ?_
 refine aQx fun K1 hK1 hG1=> ?_
 have J1: ∀(l0:List Int),s7 N l0=some r→K1 (aE 14 [(3,(.sl 0 0 l0.length 1 false))]) [some ⟨5,l0.map (eI .u8)⟩]:=by
  intro l0 hr
  unfold s7 at hr
  refine hK1 _ _ ?_
  refine zz ?_
  obtain rfl:=sj hr
  exact bK Tryz.results15 [0]
 obtain⟨a9,hL2,hr⟩:=aA hr
 refine aQw<|aQF (fun m s h=> ∃(cZ:Int)(aL:List Int),dR N m cZ aL=some a9∧Ghost 0 s h (aE 14 [(0,(eI .u32 cZ)),(3,(.sl 0 0 aL.length 1 false))]) [some ⟨5,aL.map (eI .u8)⟩]) (n:=N) ⟨vn,[],hL2,(zW 5 [0])⟩ (by rintro s h ⟨_,_,h0,_⟩;simp[dR]at h0) ?_
 rintro m2 s h ⟨cZ,aL,hr2,hg⟩
 refine aQD hg ?_
 clear hg hL2
 rw[dR]at hr2
 refine aQv ?_
 refine zz ?_
 refine zk hr2 rfl (fun h1 hr2=> ?_) (fun h1 hr2=> ?_)
 ·refine zz ?_
  refine aQv<|aQw ?_
  obtain⟨dL,h_2,hr2⟩:=aA hr2
  obtain⟨x7,h_3,hr2⟩:=aA hr2
  refine zz ?_
  exact⟨x7,dL,hr2,(zG [2])⟩
 refine zz ?_
 obtain rfl:=sj hr2
 refine zz ?_
 exact hG1 _ _ _ _ (zG [0]) (J1 aL hr)
theorem wY {N:Nat}{v:Bool}{r:(List Int)}(hr:jF N v=some r):
  Vm.Fn Tryz.prog 56 [] [(eB v)] (.sl 0 0 r.length 1 false) [some ⟨5,r.map (eI .u8)⟩]:=by
 refine zf Tryz.func56 Tryz.ntmps56 ?_
 unfold jF at hr
 refine zz ?_
 refine aQv ?_
 refine zz ?_
 refine zk hr rfl (fun h1 hr=> ?_) (fun h1 hr=> ?_)
 ·obtain⟨x4,h_2,hr⟩:=aA hr
  refine zz ?_
  refine zc (tG h_2) [] ?_
  refine zz ?_
  obtain rfl:=sj hr
  exact bK Tryz.results56 [0]
 obtain⟨x5,h_3,hr⟩:=aA hr
 refine zz ?_
 refine zc (tG h_3) [] ?_
 refine zz ?_
 obtain rfl:=sj hr
 exact bK Tryz.results56 [0]
theorem jC {N:Nat}{aB:List Int}{aD aI:Int}{aF:List (List Int)}{aC:List aG}{aP vn:Int}{eJ:List Int}{r:(List Int)×Int×Int×(List (List Int))×(List aG)×Int}(hr:cJ N aB aD aI aF aC aP vn eJ=some r):
  Vm.Fn Tryz.prog 55 [some ⟨56,(bJ (eI .u8) aB [(eI .i64 aD),(eI .i64 aI),(.sl 1 0 aF.length 1 false),(.sl 2 0 aC.length 2 true),(eI .i64 aP)])⟩,some ⟨31,aF.map (eL 1 (eI .u8))⟩,some ⟨73,aC.flatMap aM⟩] [(.ptr 0 0),(eI .i64 vn),(.row none 1 (eJ.map (eI .u8)))] (.tup []) [some ⟨56,(bJ (eI .u8) r.1 [(eI .i64 r.2.1),(eI .i64 r.2.2.1),(.sl 3 0 r.2.2.2.1.length 1 false),(.sl 4 0 r.2.2.2.2.1.length 2 true),(eI .i64 r.2.2.2.2.2)])⟩,none,none,some ⟨31,r.2.2.2.1.map (eL 1 (eI .u8))⟩,some ⟨73,r.2.2.2.2.1.flatMap aM⟩]:=by
 refine zf Tryz.func55 Tryz.ntmps55 ?_
 unfold cJ at hr
 obtain⟨x8,h_1,hr⟩:=aA hr
 refine zz ?_
 refine zc (k4 h_1) [0,1,2] ?_
 obtain⟨x16,h_2,hr⟩:=aA hr
 refine zz ?_
 obtain rfl:=sj hr
 exact zn0 Tryz.results55 (zG [0,1,2,6,4])
theorem aJe {N:Nat}{vn:Int}{r:(List Int)}(hr:aBi N vn=some r):
  Vm.Fn Tryz.prog 70 [] [(eI .u64 vn)] (.sl 0 0 r.length 1 false) [some ⟨5,r.map (eI .u8)⟩]:=by
 refine zf Tryz.func70 Tryz.ntmps70 ?_
 unfold aBi at hr
 obtain⟨x15,h_1,hr⟩:=aA hr
 refine zz ?_
 refine xw (v:=(.sl 0 0 x15.length 1 false)) (h':=[some ⟨5,x15.map (eI .u8)⟩]) (aLM rfl rfl (mkL (E:=(eI .u8)) (y:=0) cI dA ⟨zl,rfl,rfl⟩ rfl rfl rfl h_1 rfl rfl)) ?_
 obtain⟨x17,h_2,hr⟩:=aA hr
 refine zz ?_
 refine aQx fun K1 hK1 hG1=> ?_
 have J1: ∀(l0:List Int),aBW N l0=some r→K1 (aE 33 [(4,(.sl 0 0 l0.length 1 false))]) [some ⟨5,l0.map (eI .u8)⟩]:=by
  intro l0 hr
  unfold aBW at hr
  refine hK1 _ _ ?_
  refine zz ?_
  obtain rfl:=sj hr
  exact bK Tryz.results70 [0]
 obtain⟨a9,hL2,hr⟩:=aA hr
 refine zz ?_
 refine aQw<|aQF (fun m s h=> ∃(x18:Int)(aL:List Int),oD N vn m x18 aL=some a9∧Ghost 0 s h (aE 33 [(0,(eI .u64 vn)),(4,(.sl 0 0 aL.length 1 false)),(18,(eI .i64 x18))]) [some ⟨5,aL.map (eI .u8)⟩]) (n:=N) ⟨0,x15.set (aQz 0) 128,hL2,(lI [0])⟩ (by rintro s h ⟨_,_,h0,_⟩;simp[oD]at h0) ?_
 rintro m2 s h ⟨x18,aL,hr2,hg⟩
 refine aQD hg ?_
 clear hg hL2
 rw[oD]at hr2
 refine zz ?_
 refine aQv ?_
 refine zk hr2 rfl (fun h3 hr2=> ?_) (fun h3 hr2=> ?_)
 ·refine zz ?_
  refine aQv<|aQw ?_
  obtain⟨x27,h_4,hr2⟩:=aA hr2
  obtain⟨mX,h_5,hr2⟩:=aA hr2
  refine zz ?_
  exact⟨aQr.wrap (x18+1),mX,hr2,(zG [2])⟩
 refine zz ?_
 obtain rfl:=sj hr2
 refine zz ?_
 exact hG1 _ _ _ _ (zG [0]) (J1 aL hr)
theorem aEU {N:Nat}{parts:List (List Int)}{r:(List Int)}(hr:aAa N parts=some r):
  Vm.Fn Tryz.prog 69 [] [(.row none 1 (parts.map (eL 1 (eI .u8))))] (.sl 0 0 r.length 1 false) [some ⟨5,r.map (eI .u8)⟩]:=by
 refine zf Tryz.func69 Tryz.ntmps69 ?_
 unfold aAa at hr
 refine zz ?_
 refine aQx fun K1 hK1 hG1=> ?_
 have J1: ∀(l0:List Int),aBX N l0=some r→K1 (aE 17 [(3,(.sl 0 0 l0.length 1 false))]) [some ⟨5,l0.map (eI .u8)⟩]:=by
  intro l0 hr
  unfold aBX at hr
  refine hK1 _ _ ?_
  refine zz ?_
  obtain rfl:=sj hr
  exact bK Tryz.results69 [0]
 obtain⟨a9,hL2,hr⟩:=aA hr
 refine zz ?_
 refine aQw<|aQF (fun m s h=> ∃(x8:Int)(aL:List Int),oB N parts m x8 aL=some a9∧Ghost 0 s h (aE 17 [(3,(.sl 0 0 aL.length 1 false)),(6,(.row none 1 (parts.map (eL 1 (eI .u8))))),(7,(eI .i64 (parts.length:Int))),(8,(eI .i64 x8))]) [some ⟨5,aL.map (eI .u8)⟩]) (n:=N) ⟨0,[],hL2,(zW 5 [0])⟩ (by rintro s h ⟨_,_,h0,_⟩;simp[oB]at h0) ?_
 rintro m2 s h ⟨x8,aL,hr2,hg⟩
 refine aQD hg ?_
 clear hg hL2
 rw[oB]at hr2
 refine zz ?_
 refine aQv ?_
 refine zk hr2 rfl (fun h1 hr2=> ?_) (fun h1 hr2=> ?_)
 ·refine zz ?_
  refine aQv<|aQw ?_
  obtain⟨cC,h_2,hr2⟩:=aA hr2
  obtain⟨bH,h_3,hr2⟩:=aA hr2
  refine zz ?_
  exact⟨aQr.wrap (x8+1),bH,hr2,(zG [1])⟩
 refine zz ?_
 obtain rfl:=sj hr2
 refine zz ?_
 exact hG1 _ _ _ _ (zG [0]) (J1 aL hr)
theorem rE {N:Nat}{x k r:Int}(hr:iR N x k=some r):
  Vm.Fn Tryz.prog 91 [] [(eI .u32 x),(eI .i64 k)] (eI .u32 r) []:=by
 refine zf Tryz.func91 Tryz.ntmps91 ?_
 unfold iR at hr
 obtain⟨bX,h_1,hr⟩:=aA hr
 obtain⟨x15,h_2,hr⟩:=aA hr
 refine zz ?_
 obtain rfl:=sj hr
 exact bK Tryz.results91 []
theorem jE {N:Nat}{x vn r:Int}(hr:cM N x vn=some r):
  Vm.Fn Tryz.prog 86 [] [(eI .u32 x),(eI .i64 vn)] (eI .u32 r) []:=by
 refine zf Tryz.func86 Tryz.ntmps86 ?_
 unfold cM at hr
 obtain⟨x8,h_1,hr⟩:=aA hr
 refine zz ?_
 refine xw (aHB rfl (aKg ..))<|xp (rE h_1) ?_
 refine zz ?_
 obtain rfl:=sj hr
 exact bK Tryz.results86 []
theorem aEs {N:Nat}{block:List Int}{r:(List Int)}(hr:mT N block=some r):
  Vm.Fn Tryz.prog 85 [] [(.agg (block.map (eI .u8)))] (.agg (r.map (eI .u32))) []:=by
 refine zf Tryz.func85 Tryz.ntmps85 ?_
 unfold mT at hr
 refine zz ?_
 refine aQx fun K1 hK1 hG1=> ?_
 have J1: ∀(l1:List Int),oP N l1=some r→K1 (aE 85 [(2,(.ptr 0 0)),(3,(.ptr 1 0))]) [some ⟨105,(aQs 64 0).map (eI .u32)⟩,some ⟨105,l1.map (eI .u32)⟩]:=by
  intro l1 hr
  unfold oP at hr
  refine hK1 _ _ ?_
  refine aQx fun K2 hK2 hG2=> ?_
  have J2: ∀(d5:List Int),n9 N d5=some r→K2 (aE 85 [(2,(.ptr 0 0)),(3,(.ptr 1 0))]) [some ⟨105,(aQs 64 0).map (eI .u32)⟩,some ⟨105,d5.map (eI .u32)⟩]:=by
   intro d5 hr
   unfold n9 at hr
   refine hK2 _ _ ?_
   obtain⟨q,h_1,hr⟩:=aA hr
   refine zz ?_
   obtain rfl:=sj hr
   exact eW Tryz.results85 aW (zG [])
  obtain⟨rB,hL3,hr⟩:=aA hr
  refine zz ?_
  refine aQw<|aQF (fun m s h=> ∃(vi:Int)(l1_2:List Int),fS N m vi l1_2=some rB∧Ghost 0 s h (aE 85 [(2,(.ptr 0 0)),(3,(.ptr 1 0)),(6,(eI .i64 vi))]) [some ⟨105,(aQs 64 0).map (eI .u32)⟩,some ⟨105,l1_2.map (eI .u32)⟩]) (n:=N) ⟨16,l1,hL3,(zG [0,1])⟩ (by rintro s h ⟨_,_,h0,_⟩;simp[fS]at h0) ?_
  rintro m3 s h ⟨vi,l1_2,hr3,hg⟩
  refine aQD hg ?_
  clear hg hL3
  rw[fS]at hr3
  refine aQv ?_
  refine zz ?_
  refine zk hr3 rfl (fun h2 hr3=> ?_) (fun h2 hr3=> ?_)
  ·refine zz ?_
   refine aQv<|aQw<|aQv ?_
   obtain⟨x37,h_3,hr3⟩:=aA hr3
   obtain⟨x39,h_4,hr3⟩:=aA hr3
   obtain⟨x44,h_6,hr3⟩:=aA hr3
   obtain⟨x50,h_8,hr3⟩:=aA hr3
   refine aQI mixed [86] [] [[0,1,2,3,4,5,6,7,8,9,10,11,12,13,14,15,16,17]] ?_
   refine zz ?_
   refine xu (jE h_4) ?_
   refine zz ?_
   refine xu (jE h_6) ?_
   refine zz ?_
   refine aQv ?_
   obtain⟨x54,h_9,hr3⟩:=aA hr3
   obtain⟨x56,h_10,hr3⟩:=aA hr3
   obtain⟨x61,h_12,hr3⟩:=aA hr3
   obtain⟨x67,h_14,hr3⟩:=aA hr3
   refine aQI mixed [86] [] [[0,1,2,3,4,5,6,7,8,9,10,11,12,13,14,15,16,17]] ?_
   refine zz ?_
   refine xu (jE h_10) ?_
   refine zz ?_
   refine xu (jE h_12) ?_
   obtain⟨x72,h_15,hr3⟩:=aA hr3
   obtain⟨x78,h_16,hr3⟩:=aA hr3
   obtain⟨x83,h_17,hr3⟩:=aA hr3
   refine zz ?_
   refine aQI mixed [] [] [[0,1,2,3,4,5,6,7,8,9,10,11,12,13,14,15]] ?_
   refine zz ?_
   exact⟨aQr.wrap (vi+1),l1_2.set (aQz vi) (aQA.wrap ((aQA.wrap ((aQA.wrap (x72+(bits .xor .u32 (bits .xor .u32 x39 x44) x50)))+x78))+(bits .xor .u32 (bits .xor .u32 x56 x61) x67))),hr3,(zG [0,1])⟩
  refine zz ?_
  obtain rfl:=sj hr3
  refine zz ?_
  exact hG2 _ _ _ _ (zG [0,1]) (J2 l1_2 hr)
 obtain⟨res4,hL4,hr⟩:=aA hr
 refine zz ?_
 refine aQw<|aQF (fun m s h=> ∃(x9:Int)(l2:List Int),eX N block m x9 l2=some res4∧Ghost 0 s h (aE 85 [(1,(.ptr 0 0)),(2,(.ptr 1 0)),(3,(.ptr 2 0)),(9,(eI .i64 x9))]) [some ⟨93,block.map (eI .u8)⟩,some ⟨105,(aQs 64 0).map (eI .u32)⟩,some ⟨105,l2.map (eI .u32)⟩]) (n:=N) ⟨0,aQs 64 0,hL4,(zG [0,1,2])⟩ (by rintro s h ⟨_,_,h0,_⟩;simp[eX]at h0) ?_
 rintro m4 s h ⟨x9,l2,hr4,hg⟩
 refine aQD hg ?_
 clear hg hL4
 rw[eX]at hr4
 refine zz ?_
 refine aQv ?_
 refine zk hr4 rfl (fun h18 hr4=> ?_) (fun h18 hr4=> ?_)
 ·refine zz ?_
  refine aQx fun K5 hK5 hG5=> ?_
  have J5: ∀(fU:List Int),rK N block x9 (eX N block m4) fU=some res4→K5 (aE 85 [(1,(.ptr 0 0)),(2,(.ptr 1 0)),(3,(.ptr 2 0)),(9,(eI .i64 x9))]) [some ⟨93,block.map (eI .u8)⟩,some ⟨105,(aQs 64 0).map (eI .u32)⟩,some ⟨105,fU.map (eI .u32)⟩]:=by
   intro fU hr4
   unfold rK at hr4
   refine hK5 _ _ ?_
   refine zz ?_
   exact⟨aQr.wrap (x9+1),fU,hr4,(zG [0,1,2])⟩
  refine aQw ?_
  obtain⟨res6,hL6,hr4⟩:=aA hr4
  refine zz ?_
  refine aQw<|aQF (fun m s h=> ∃(dL:Int)(g9:List Int),dH N block x9 m dL g9=some res6∧Ghost 0 s h (aE 85 [(1,(.ptr 0 0)),(2,(.ptr 1 0)),(3,(.ptr 2 0)),(4,(eI .i64 x9)),(9,(eI .i64 x9)),(12,(eI .i64 dL))]) [some ⟨93,block.map (eI .u8)⟩,some ⟨105,(aQs 64 0).map (eI .u32)⟩,some ⟨105,g9.map (eI .u32)⟩]) (n:=N) ⟨0,l2,hL6,(zG [0,1,2])⟩ (by rintro s h ⟨_,_,h0,_⟩;simp[dH]at h0) ?_
  rintro m6 s h ⟨dL,g9,hr6,hg⟩
  refine aQD hg ?_
  clear hg hL6
  rw[dH]at hr6
  refine zz ?_
  refine aQv ?_
  refine zk hr6 rfl (fun h19 hr6=> ?_) (fun h19 hr6=> ?_)
  ·refine zz ?_
   refine aQv<|aQw ?_
   obtain⟨x17,h_20,hr6⟩:=aA hr6
   obtain⟨x19,h_21,hr6⟩:=aA hr6
   obtain⟨dO,h_22,hr6⟩:=aA hr6
   refine zz ?_
   refine aQI mixed [] [] [[0,1,2,3,4,5,6,7,8,9,10,11,12,13,14]] ?_
   refine zz ?_
   exact⟨aQr.wrap (dL+1),g9.set (aQz x9) (bits .or .u32 x19 (aQA.wrap dO)),hr6,(zG [0,1,2])⟩
  refine zz ?_
  obtain rfl:=sj hr6
  refine zz ?_
  exact hG5 _ _ _ _ (zG [0,1,2]) (J5 g9 hr4)
 refine zz ?_
 obtain rfl:=sj hr4
 refine zz ?_
 exact hG1 _ _ _ _ (zG [1,2]) (J1 l2 hr)
theorem aEL {N:Nat}{bY block:List Int}{r:(List Int)}(hr:jW N bY block=some r):
  Vm.Fn Tryz.prog 71 [] [(.agg (bY.map (eI .u32))),(.agg (block.map (eI .u8)))] (.agg (r.map (eI .u32))) []:=by
 refine zf Tryz.func71 Tryz.ntmps71 ?_
 unfold jW at hr
 obtain⟨q,h_1,hr⟩:=aA hr
 obtain⟨x18,h_2,hr⟩:=aA hr
 obtain⟨q_1,h_3,hr⟩:=aA hr
 refine zz ?_
 refine xp (aEs h_2) ?_
 refine zz ?_
 refine aQv ?_
 obtain⟨x19,h_4,hr⟩:=aA hr
 obtain⟨dM,h_5,hr⟩:=aA hr
 obtain⟨fR,h_6,hr⟩:=aA hr
 obtain⟨x25,h_7,hr⟩:=aA hr
 refine aQI mixed [] [] [[0,1,2,3,4,5,6,7,8,9,10,11]] ?_
 refine zz ?_
 refine aQv ?_
 obtain⟨x27,h_8,hr⟩:=aA hr
 obtain⟨x29,h_9,hr⟩:=aA hr
 obtain⟨dD,h_10,hr⟩:=aA hr
 obtain⟨lC,h_11,hr⟩:=aA hr
 refine aQI mixed [] [] [[0,1,2,3,4,5,6,7,8,9,10,11]] ?_
 refine zz ?_
 refine aQx fun K1 hK1 hG1=> ?_
 have J1: ∀(va b c d ve f g vh:Int),n6 N bY va b c d ve f g vh=some r→K1 (aE 131 [(2,(.ptr 0 0)),(4,(.ptr 1 0)),(6,(eI .u32 va)),(7,(eI .u32 b)),(8,(eI .u32 c)),(9,(eI .u32 d)),(10,(eI .u32 ve)),(11,(eI .u32 f)),(12,(eI .u32 g)),(13,(eI .u32 vh))]) [some ⟨91,bY.map (eI .u32)⟩,some ⟨91,(aQs 8 0).map (eI .u32)⟩]:=by
  intro va b c d ve f g vh hr
  unfold n6 at hr
  refine hK1 _ _ ?_
  obtain⟨x98,h_12,hr⟩:=aA hr
  obtain⟨aFq,h_13,hr⟩:=aA hr
  obtain⟨rO,h_14,hr⟩:=aA hr
  obtain⟨aLo,h_15,hr⟩:=aA hr
  obtain⟨aFa,h_16,hr⟩:=aA hr
  obtain⟨zD,h_17,hr⟩:=aA hr
  obtain⟨aKB,h_18,hr⟩:=aA hr
  obtain⟨aCz,h_19,hr⟩:=aA hr
  refine zz ?_
  refine xw (v:=(.agg ([aQA.wrap (x98+va),aQA.wrap (aFq+b),aQA.wrap (rO+c),aQA.wrap (aLo+d),aQA.wrap (aFa+ve),aQA.wrap (zD+f),aQA.wrap (aKB+g),aQA.wrap (aCz+vh)].map (eI .u32)))) (cH rfl (lY aFz aCD rfl)) ?_
  refine zz ?_
  obtain rfl:=sj hr
  exact eW Tryz.results71 aW (zG [])
 obtain⟨a9,hL2,hr⟩:=aA hr
 refine zz ?_
 refine aQw<|aQF (fun m s h=> ∃(va_1 b_1 c_1 d_1 ve_1 f_1 g_1 vh_1 x35:Int),fP N bY x18 m va_1 b_1 c_1 d_1 ve_1 f_1 g_1 vh_1 x35=some a9∧Ghost 0 s h (aE 131 [(2,(.ptr 0 0)),(4,(.ptr 1 0)),(5,(.ptr 2 0)),(6,(eI .u32 va_1)),(7,(eI .u32 b_1)),(8,(eI .u32 c_1)),(9,(eI .u32 d_1)),(10,(eI .u32 ve_1)),(11,(eI .u32 f_1)),(12,(eI .u32 g_1)),(13,(eI .u32 vh_1)),(35,(eI .i64 x35))]) [some ⟨91,bY.map (eI .u32)⟩,some ⟨91,(aQs 8 0).map (eI .u32)⟩,some ⟨105,x18.map (eI .u32)⟩]) (n:=N) ⟨x19,dM,fR,x25,x27,x29,dD,lC,0,hL2,(zG [0,2,3])⟩ (by rintro s h ⟨_,_,_,_,_,_,_,_,_,h0,_⟩;simp[fP]at h0) ?_
 rintro m2 s h ⟨va_1,b_1,c_1,d_1,ve_1,f_1,g_1,vh_1,x35,hr2,hg⟩
 refine aQD hg ?_
 clear hg hL2
 rw[fP]at hr2
 refine zz ?_
 refine aQv ?_
 refine zk hr2 rfl (fun h20 hr2=> ?_) (fun h20 hr2=> ?_)
 ·refine zz ?_
  refine aQv<|aQw ?_
  refine zz ?_
  refine aQv ?_
  obtain⟨x40,h_21,hr2⟩:=aA hr2
  obtain⟨x42,h_23,hr2⟩:=aA hr2
  obtain⟨x45,h_25,hr2⟩:=aA hr2
  obtain⟨x58,h_27,hr2⟩:=aA hr2
  obtain⟨x62,h_28,hr2⟩:=aA hr2
  refine aQI mixed [86] [] [[0,1,2,3,4,5,6,7,8,9,10,11,12,13,14,15,16,17,18,19,20,21,22,23,24,25,26,27]] ?_
  refine zz ?_
  refine xu (jE h_21) ?_
  refine zz ?_
  refine xu (jE h_23) ?_
  refine zz ?_
  refine xu (jE h_25) ?_
  refine zz ?_
  refine xw (v:=(eI .u32 (bits .xor .u32 (aQT .u32) ve_1))) (aHB rfl (aIr rfl _)) ?_
  refine zz ?_
  refine xw (v:=(.eptr [(.agg (aA3.map (eI .u32)))] 0 (aQz x35))) (yZ rfl rfl (iaG aJi aCD rfl h_27))<|xw (v:=(eI .u32 x58)) (bO rfl (ldG (E:=(eI .u32)) (y:=x58) aCD rfl (nK h_27))) ?_
  obtain⟨x66,h_29,hr2⟩:=aA hr2
  obtain⟨x68,h_30,hr2⟩:=aA hr2
  obtain⟨x71,h_31,hr2⟩:=aA hr2
  refine zz ?_
  refine xp (jE h_29) ?_
  refine zz ?_
  refine xp (jE h_30) ?_
  refine zz ?_
  refine xp (jE h_31) ?_
  refine zz ?_
  exact⟨aQA.wrap ((aQA.wrap ((aQA.wrap ((aQA.wrap ((aQA.wrap (vh_1+(bits .xor .u32 (bits .xor .u32 x40 x42) x45)))+(bits .xor .u32 (bits .and .u32 ve_1 f_1) (bits .and .u32 (bits .xor .u32 (aQT .u32) ve_1) g_1))))+x58))+x62))+(aQA.wrap ((bits .xor .u32 (bits .xor .u32 x66 x68) x71)+(bits .xor .u32 (bits .xor .u32 (bits .and .u32 va_1 b_1) (bits .and .u32 va_1 c_1)) (bits .and .u32 b_1 c_1))))),va_1,b_1,c_1,aQA.wrap (d_1+(aQA.wrap ((aQA.wrap ((aQA.wrap ((aQA.wrap (vh_1+(bits .xor .u32 (bits .xor .u32 x40 x42) x45)))+(bits .xor .u32 (bits .and .u32 ve_1 f_1) (bits .and .u32 (bits .xor .u32 (aQT .u32) ve_1) g_1))))+x58))+x62))),ve_1,f_1,g_1,aQr.wrap (x35+1),hr2,(zG [0,1,2])⟩
 refine zz ?_
 obtain rfl:=sj hr2
 refine zz ?_
 exact hG1 _ _ _ _ (zG [0,1]) (J1 va_1 b_1 c_1 d_1 ve_1 f_1 g_1 vh_1 hr)
theorem aBF {N:Nat}{b:List Int}{r:(List Int)}(hr:wU N b=some r):
  Vm.Fn Tryz.prog 58 [] [(.row none 1 (b.map (eI .u8)))] (.agg (r.map (eI .u8))) []:=by
 refine zf Tryz.func58 Tryz.ntmps58 ?_
 unfold wU at hr
 obtain⟨dL,h_1,hr⟩:=aA hr
 obtain⟨bH,h_2,hr⟩:=aA hr
 refine zz ?_
 refine zc (aJe h_1) [] ?_
 refine aQK (zv 1) ?_
 refine zz ?_
 refine zcL (aEU h_2) [] [2] ?_
 refine zz ?_
 refine xw (v:=(.agg (tQ.map (eI .u32)))) (bO rfl (aG0 (E:=(eI .u32)) (l:=tQ) aFz rfl rfl)) ?_
 refine zz ?_
 refine aQx fun K1 hK1 hG1=> ?_
 have J1: ∀(l1:List Int),zM N l1=some r→K1 (aE 48 [(2,(.ptr 0 0)),(4,(.ptr 1 0))]) [some ⟨25,(aQs 32 0).map (eI .u8)⟩,some ⟨91,l1.map (eI .u32)⟩]:=by
  intro l1 hr
  unfold zM at hr
  refine hK1 _ _ ?_
  refine zz ?_
  refine aQx fun K2 hK2 hG2=> ?_
  have J2: ∀(d5:List Int),zP N d5=some r→K2 (aE 48 [(2,(.ptr 0 0)),(6,(.ptr 1 0))]) [some ⟨25,(aQs 32 0).map (eI .u8)⟩,some ⟨25,d5.map (eI .u8)⟩]:=by
   intro d5 hr
   unfold zP at hr
   refine hK2 _ _ ?_
   obtain⟨q,h_3,hr⟩:=aA hr
   refine zz ?_
   obtain rfl:=sj hr
   exact eW Tryz.results58 aW (zG [])
  obtain⟨rB,hL3,hr⟩:=aA hr
  refine zz ?_
  refine aQw<|aQF (fun m s h=> ∃(dD:Int)(l2:List Int),qL N l1 m dD l2=some rB∧Ghost 0 s h (aE 48 [(2,(.ptr 0 0)),(4,(.ptr 1 0)),(6,(.ptr 2 0)),(31,(eI .i64 dD))]) [some ⟨25,(aQs 32 0).map (eI .u8)⟩,some ⟨91,l1.map (eI .u32)⟩,some ⟨25,l2.map (eI .u8)⟩]) (n:=N) ⟨0,aQs 32 0,hL3,(zG [0,1,2])⟩ (by rintro s h ⟨_,_,h0,_⟩;simp[qL]at h0) ?_
  rintro m3 s h ⟨dD,l2,hr3,hg⟩
  refine aQD hg ?_
  clear hg hL3
  rw[qL]at hr3
  refine zz ?_
  refine aQv ?_
  refine zk hr3 rfl (fun h4 hr3=> ?_) (fun h4 hr3=> ?_)
  ·refine zz ?_
   refine aQv<|aQw ?_
   obtain⟨x37,h_5,hr3⟩:=aA hr3
   obtain⟨x43,h_6,hr3⟩:=aA hr3
   obtain⟨x45,h_7,hr3⟩:=aA hr3
   refine zz ?_
   exact⟨aQr.wrap (dD+1),l2.set (aQz dD) (IntKind.u8.wrap x43),hr3,(zG [0,1,2])⟩
  refine zz ?_
  obtain rfl:=sj hr3
  refine zz ?_
  exact hG2 _ _ _ _ (zG [0,2]) (J2 l2 hr)
 refine zz ?_
 refine aQD (zv 3) ?_
 obtain⟨res4,hL4,hr⟩:=aA hr
 refine aQw<|aQF (fun m s h=> ∃(x19:Int)(l1_2:List Int),qO N bH m x19 l1_2=some res4∧Ghost 0 s h (aE 48 [(2,(.ptr 0 0)),(3,(.row none 1 (bH.map (eI .u8)))),(4,(.ptr 1 0)),(18,(eI .i64 (aQr.wrap (Int.tdiv (bH.length:Int) 64)))),(19,(eI .i64 x19))]) [some ⟨25,(aQs 32 0).map (eI .u8)⟩,some ⟨91,l1_2.map (eI .u32)⟩]) (n:=N) ⟨0,tQ,hL4,(zG [0,4])⟩ (by rintro s h ⟨_,_,h0,_⟩;simp[qO]at h0) ?_
 rintro m4 s h ⟨x19,l1_2,hr4,hg⟩
 refine aQD hg ?_
 clear hg hL4
 rw[qO]at hr4
 refine zz ?_
 refine aQv ?_
 refine zk hr4 rfl (fun h8 hr4=> ?_) (fun h8 hr4=> ?_)
 ·refine zz ?_
  refine aQv<|aQw ?_
  obtain⟨q_1,h_9,hr4⟩:=aA hr4
  obtain⟨x26,h_10,hr4⟩:=aA hr4
  obtain⟨x27,h_11,hr4⟩:=aA hr4
  obtain⟨x29,h_12,hr4⟩:=aA hr4
  obtain⟨q_2,h_14,hr4⟩:=aA hr4
  refine zz ?_
  refine aQI mixed [71] [] [[0,1,2,3,4,5,6,7,8]] ?_
  refine zz ?_
  refine xw (v:=(.eptr [.agg (x27.map (eI .u8))] 0 0)) (aBw rfl (apR (E:=(eI .u8)) aK4 (fun _=>rfl) zl h_11))<|xw (v:=(.agg (x27.map (eI .u8)))) (bO rfl (aG0 (E:=(eI .u8)) (l:=x27) aK4 rfl (bW h_11)))<|xu (aEL h_12) ?_
  refine zz ?_
  exact⟨aQr.wrap (x19+1),x29,hr4,(zG [0,1])⟩
 refine zz ?_
 obtain rfl:=sj hr4
 refine zz ?_
 exact hG1 _ _ _ _ (zG [0,1]) (J1 l1_2 hr)
theorem o9 {N:Nat}{vh:List Int}{r:(List Int)}(hr:eD N vh=some r):
  Vm.Fn Tryz.prog 87 [] [(.agg (vh.map (eI .u8)))] (.agg (r.map (eI .u64))) []:=by
 refine zf Tryz.func87 Tryz.ntmps87 ?_
 unfold eD at hr
 refine zz ?_
 refine aQx fun K1 hK1 hG1=> ?_
 have J1: ∀(l1:List Int),lX N l1=some r→K1 (aE 26 [(2,(.ptr 0 0)),(3,(.ptr 1 0))]) [some ⟨96,(aQs 4 0).map (eI .u64)⟩,some ⟨96,l1.map (eI .u64)⟩]:=by
  intro l1 hr
  unfold lX at hr
  refine hK1 _ _ ?_
  obtain⟨q,h_1,hr⟩:=aA hr
  refine zz ?_
  obtain rfl:=sj hr
  exact eW Tryz.results87 aW (zG [])
 obtain⟨q_1,h_2,hr⟩:=aA hr
 obtain⟨a9,hL2,hr⟩:=aA hr
 refine zz ?_
 refine aQw<|aQF (fun m s h=> ∃(x8:Int)(d5:List Int),eN N vh m x8 d5=some a9∧Ghost 0 s h (aE 26 [(2,(.ptr 0 0)),(3,(.ptr 1 0)),(7,(.agg (vh.map (eI .u8)))),(8,(eI .i64 x8))]) [some ⟨96,(aQs 4 0).map (eI .u64)⟩,some ⟨96,d5.map (eI .u64)⟩]) (n:=N) ⟨0,aQs 4 0,hL2,(zG [1,2])⟩ (by rintro s h ⟨_,_,h0,_⟩;simp[eN]at h0) ?_
 rintro m2 s h ⟨x8,d5,hr2,hg⟩
 refine aQD hg ?_
 clear hg hL2
 rw[eN]at hr2
 refine zz ?_
 refine aQv ?_
 refine zk hr2 rfl (fun h3 hr2=> ?_) (fun h3 hr2=> ?_)
 ·refine zz ?_
  refine aQv<|aQw ?_
  obtain⟨bX,h_4,hr2⟩:=aA hr2
  refine zz ?_
  refine xw (v:=(eI .u8 bX)) (aKU rfl rfl (ixA (E:=(eI .u8)) y7 dA rfl rfl h_4)) ?_
  obtain⟨x17,h_5,hr2⟩:=aA hr2
  obtain⟨x19,h_6,hr2⟩:=aA hr2
  refine zz ?_
  exact⟨aQr.wrap (x8+1),d5.set (aQz (aQr.wrap (3-(aQr.wrap (Int.tdiv x8 8))))) (bits .or .u64 x19 (aQU.wrap bX)),hr2,(zG [0,1])⟩
 refine zz ?_
 obtain rfl:=sj hr2
 refine zz ?_
 exact hG1 _ _ _ _ (zG [0,1]) (J1 d5 hr)
theorem mJ {N:Nat}{vn:Int}{r:(List Int)}(hr:d6 N vn=some r):
  Vm.Fn Tryz.prog 103 [] [(eI .u64 vn)] (.agg (r.map (eI .u64))) []:=by
 refine zf Tryz.func103 Tryz.ntmps103 ?_
 unfold d6 at hr
 refine zz ?_
 refine xw (v:=(.agg ([vn,0,0,0].map (eI .u64)))) (cH rfl (lY bV kH rfl)) ?_
 refine zz ?_
 obtain rfl:=sj hr
 exact eW Tryz.results103 aW (zG [])
theorem aAc {N:Nat}{r:(List Int)}(hr:nN N=some r):
  Vm.Fn Tryz.prog 120 [] [] (.agg (r.map (eI .u64))) []:=by
 refine zf Tryz.func120 Tryz.ntmps120 ?_
 unfold nN at hr
 refine zz ?_
 refine xw (v:=(.agg ([18446744073709515503,18446744073709551615,18446744073709551615,18446744073709551615].map (eI .u64)))) (cH rfl (lY bV kH rfl)) ?_
 refine zz ?_
 obtain rfl:=sj hr
 exact eW Tryz.results120 aW (zG [])
theorem qZ {N:Nat}{va b:List Int}{r:Int}(hr:lS N va b=some r):
  Vm.Fn Tryz.prog 119 [] [(.agg (va.map (eI .u64))),(.agg (b.map (eI .u64)))] (eI .i64 r) []:=by
 refine zf Tryz.func119 Tryz.ntmps119 ?_
 unfold lS at hr
 refine zz ?_
 refine aQx fun K1 hK1 hG1=> ?_
 have J1:xO N=some r→K1 (aE 24 []) []:=by
  intro hr
  unfold xO at hr
  refine hK1 _ _ ?_
  refine zz ?_
  obtain rfl:=sj hr
  exact bK Tryz.results119 []
 obtain⟨a9,hL2,hr⟩:=aA hr
 refine zz ?_
 refine aQw<|aQF (fun m s h=> ∃(vi:Int),kU N va b m vi=some a9∧Ghost 0 s h (aE 24 [(2,(.ptr 0 0)),(3,(.ptr 1 0)),(5,(eI .i64 vi))]) [some ⟨96,va.map (eI .u64)⟩,some ⟨96,b.map (eI .u64)⟩]) (n:=N) ⟨3,hL2,(zG [0,1])⟩ (by rintro s h ⟨_,h0,_⟩;simp[kU]at h0) ?_
 rintro m2 s h ⟨vi,hr2,hg⟩
 refine aQD hg ?_
 clear hg hL2
 rw[kU]at hr2
 refine aQv ?_
 refine zz ?_
 refine zk hr2 rfl (fun h1 hr2=> ?_) (fun h1 hr2=> ?_)
 ·refine zz ?_
  refine aQv<|aQw<|aQv<|aQv ?_
  obtain⟨bX,h_2,hr2⟩:=aA hr2
  obtain⟨bH,h_3,hr2⟩:=aA hr2
  refine aQI mixed [] [] [[0,1,2,3,4,5,6]] ?_
  refine zz ?_
  refine zk hr2 rfl (fun h4 hr2=> ?_) (fun h4 hr2=> ?_)
  ·refine zz ?_
   obtain rfl:=sj hr2
   obtain rfl:=sj hr
   exact bK Tryz.results119 []
  refine zz ?_
  refine aQv<|aQI mixed [] [] [[0,1,2,3,4,5,6]] ?_
  refine zz ?_
  refine zk hr2 rfl (fun h5 hr2=> ?_) (fun h5 hr2=> ?_)
  ·refine zz ?_
   obtain rfl:=sj hr2
   obtain rfl:=sj hr
   exact bK Tryz.results119 []
  refine zz ?_
  exact⟨aQr.wrap (vi-1),hr2,(zG [0,1])⟩
 refine zz ?_
 obtain rfl:=sj hr2
 refine zz ?_
 exact hG1 _ _ _ _ (zG []) (J1 hr)
theorem tO {N:Nat}{r:(List Int)}(hr:l9 N=some r):
  Vm.Fn Tryz.prog 107 [] [] (.agg (r.map (eI .u64))) []:=by
 refine zf Tryz.func107 Tryz.ntmps107 ?_
 unfold l9 at hr
 refine zz ?_
 refine xw (v:=(.agg ([18446744073709533559,18446744073709551615,18446744073709551615,9223372036854775807].map (eI .u64)))) (cH rfl (lY bV kH rfl)) ?_
 refine zz ?_
 obtain rfl:=sj hr
 exact eW Tryz.results107 aW (zG [])
theorem aCi {N:Nat}{x r:Int}(hr:oC N x=some r):
  Vm.Fn Tryz.prog 134 [] [(eI .u64 x)] (eI .i64 r) []:=by
 refine zf Tryz.func134 Tryz.ntmps134 ?_
 unfold oC at hr
 refine zz ?_
 refine aQx fun K1 hK1 hG1=> ?_
 have J1: ∀(x_1 vn:Int),i8 N x_1 vn=some r→K1 (aE 25 [(0,(eI .u64 x_1)),(2,(eI .i64 vn))]) []:=by
  intro x_1 vn hr
  unfold i8 at hr
  refine hK1 _ _ ?_
  refine aQx fun K2 hK2 hG2=> ?_
  have J2: ∀(x_2 cZ:Int),i5 N x_2 cZ=some r→K2 (aE 25 [(0,(eI .u64 x_2)),(2,(eI .i64 cZ))]) []:=by
   intro x_2 cZ hr
   unfold i5 at hr
   refine hK2 _ _ ?_
   refine aQx fun K3 hK3 hG3=> ?_
   have J3: ∀(x_3 y4:Int),gM N x_3 y4=some r→K3 (aE 25 [(0,(eI .u64 x_3)),(2,(eI .i64 y4))]) []:=by
    intro x_3 y4 hr
    unfold gM at hr
    refine hK3 _ _ ?_
    obtain⟨bN,h_1,hr⟩:=aA hr
    refine zz ?_
    refine xw (v:=(eI .u8 bN)) (aKU rfl rfl (ixT ti9 h_1)) ?_
    refine zz ?_
    obtain rfl:=sj hr
    exact bK Tryz.results134 []
   refine zz ?_
   refine zk hr rfl (fun h2 hr=> ?_) (fun h2 hr=> ?_)
   ·obtain⟨x16,h_3,hr⟩:=aA hr
    refine zz ?_
    exact hG3 _ _ _ _ (zG []) (J3 x16 (aQr.wrap (cZ+8)) hr)
   refine zz ?_
   exact hG3 _ _ _ _ (zG []) (J3 x_2 cZ hr)
  refine zz ?_
  refine zk hr rfl (fun h4 hr=> ?_) (fun h4 hr=> ?_)
  ·obtain⟨cC,h_5,hr⟩:=aA hr
   refine zz ?_
   exact hG2 _ _ _ _ (zG []) (J2 cC (aQr.wrap (vn+16)) hr)
  refine zz ?_
  exact hG2 _ _ _ _ (zG []) (J2 x_1 vn hr)
 refine zz ?_
 refine zk hr rfl (fun h6 hr=> ?_) (fun h6 hr=> ?_)
 ·obtain⟨x6,h_7,hr⟩:=aA hr
  refine zz ?_
  exact hG1 _ _ _ _ (zG []) (J1 x6 32 hr)
 refine zz ?_
 exact hG1 _ _ _ _ (zG []) (J1 x 0 hr)
theorem aIj {N:Nat}{va:List Int}{r:Int}(hr:aAx N va=some r):
  Vm.Fn Tryz.prog 122 [] [(.agg (va.map (eI .u64)))] (eI .i64 r) []:=by
 refine zf Tryz.func122 Tryz.ntmps122 ?_
 unfold aAx at hr
 refine zz ?_
 refine aQx fun K1 hK1 hG1=> ?_
 have J1:yG N=some r→K1 (aE 19 []) []:=by
  intro hr
  unfold yG at hr
  refine hK1 _ _ ?_
  refine zz ?_
  obtain rfl:=sj hr
  exact bK Tryz.results122 []
 obtain⟨a9,hL2,hr⟩:=aA hr
 refine zz ?_
 refine aQw<|aQF (fun m s h=> ∃(vi:Int),oZ N va m vi=some a9∧Ghost 0 s h (aE 19 [(1,(.ptr 0 0)),(3,(eI .i64 vi))]) [some ⟨96,va.map (eI .u64)⟩]) (n:=N) ⟨3,hL2,(zG [0])⟩ (by rintro s h ⟨_,h0,_⟩;simp[oZ]at h0) ?_
 rintro m2 s h ⟨vi,hr2,hg⟩
 refine aQD hg ?_
 clear hg hL2
 rw[oZ]at hr2
 refine aQv ?_
 refine zz ?_
 refine zk hr2 rfl (fun h1 hr2=> ?_) (fun h1 hr2=> ?_)
 ·refine zz ?_
  refine aQv<|aQw ?_
  obtain⟨x9,h_2,hr2⟩:=aA hr2
  refine zz ?_
  refine zk hr2 rfl (fun h3 hr2=> ?_) (fun h3 hr2=> ?_)
  ·obtain⟨x17,h_4,hr2⟩:=aA hr2
   refine zz ?_
   refine xp (aCi h_4) ?_
   refine zz ?_
   obtain rfl:=sj hr2
   obtain rfl:=sj hr
   exact bK Tryz.results122 []
  refine zz ?_
  exact⟨aQr.wrap (vi-1),hr2,(zG [0])⟩
 refine zz ?_
 obtain rfl:=sj hr2
 refine zz ?_
 exact hG1 _ _ _ _ (zG []) (J1 hr)
theorem yM {N:Nat}{x y:Int}{r:Int×Int}(hr:jJ N x y=some r):
  Vm.Fn Tryz.prog 127 [] [(eI .u64 x),(eI .u64 y)] (.tup [(eI .u64 r.1),(eI .u64 r.2)]) []:=by
 refine zf Tryz.func127 Tryz.ntmps127 ?_
 unfold jJ at hr
 obtain⟨x17,h_1,hr⟩:=aA hr
 obtain⟨dM,h_2,hr⟩:=aA hr
 obtain⟨x29,h_3,hr⟩:=aA hr
 obtain⟨fB,h_4,hr⟩:=aA hr
 obtain⟨x46,h_5,hr⟩:=aA hr
 refine zz ?_
 obtain rfl:=sj hr
 exact u6 Tryz.results127 []
theorem jB {N:Nat}{x y c:Int}{r:Int×Int}(hr:cV N x y c=some r):Vm.Fn Tryz.prog 128 [] [(eI .u64 x),(eI .u64 y),(eI .u64 c)] (.tup [(eI .u64 r.1),(eI .u64 r.2)]) []:=
 aLd Tryz.func128 (by kernel_rfl) (by kernel_rfl) (by kernel_rfl) (by kernel_rfl) hr
theorem aH2 {N:Nat}{va b:List Int}{r:(List Int)×(List Int)}(hr:uV N va b=some r):
  Vm.Fn Tryz.prog 131 [] [(.agg (va.map (eI .u64))),(.agg (b.map (eI .u64)))] (.tup [(.agg (r.1.map (eI .u64))),(.agg (r.2.map (eI .u64)))]) []:=by
 refine zf Tryz.func131 Tryz.ntmps131 ?_
 unfold uV at hr
 refine zz ?_
 refine aQx fun K1 hK1 hG1=> ?_
 have J1: ∀(l2:List Int),t3 N l2=some r→K1 (aE 69 [(4,(.ptr 0 0)),(5,(.ptr 1 0)),(6,(.ptr 2 0))]) [some ⟨96,(aQs 4 0).map (eI .u64)⟩,some ⟨96,(aQs 4 0).map (eI .u64)⟩,some ⟨131,l2.map (eI .u64)⟩]:=by
  intro l2 hr
  unfold t3 at hr
  refine hK1 _ _<|aQv ?_
  obtain⟨q,h_1,hr⟩:=aA hr
  obtain⟨x63,h_2,hr⟩:=aA hr
  obtain⟨x64,h_3,hr⟩:=aA hr
  obtain⟨x66,h_4,hr⟩:=aA hr
  obtain⟨x67,h_5,hr⟩:=aA hr
  refine AB.rd (eE []) (eE []) mixed<|aQt (n:=7) (i:=0) (by decide +kernel) rfl (gS (v:=(.sl 2 (aQz 4*1) x63.length 1 false)) (sv (b7 rfl rfl rfl (aHC (E:=(eI .u64)) (l:=l2) aC8 kH rfl rfl rfl (aV h_1) zl rfl rfl h_2))))<|aQt (n:=6) (i:=1) (by decide +kernel) rfl (gS (v:=(.ptr 2 (aQz 4*1))) (sv (aBw rfl (apS bV zl rfl h_3))))<|aQt (n:=5) (i:=2) (by decide +kernel) rfl (gS (v:=(.agg (x64.map (eI .u64)))) (sv (bO rfl (aIO (E:=(eI .u64)) (l:=l2) bV rfl rfl h_2 h_3)))) ?_
  refine aQR (m:=1) (L:=lst [0,1,2,3,4,5,6] 8) (s1:=aE 69 [(4,(.ptr 0 0)),(5,(.ptr 1 0)),(68,(.agg (x67.map (eI .u64))))]) (h1:=[some ⟨96,x64.map (eI .u64)⟩,some ⟨96,(aQs 4 0).map (eI .u64)⟩]) ?_ (fun J=> ?_)
  ·refine aQt (n:=0) (i:=7) (by decide +kernel) rfl (gN (h':=[some ⟨96,x64.map (eI .u64)⟩,some ⟨96,x67.map (eI .u64)⟩]) (sv (aY rfl rfl (t8 (E:=(eI .u64)) (l:=aQs 4 0) bV rfl rfl (fun _=>rfl) rfl (bW h_5) rfl))))<|aQP (by decide +kernel) ?_
   refine zz ?_
   obtain rfl:=sj hr
   exact mZ Tryz.results131 aW aW (lI [])
  refine aQH (n:=4) [3,6] (by decide +kernel) (by decide) ?_
  refine(aQC rfl (gS (v:=(.sl 2 (aQz 0*1) x66.length 1 false)) (sv (b7 rfl rfl rfl (aHC (E:=(eI .u64)) (l:=l2) aC8 kH rfl rfl rfl (aV h_1) zl rfl rfl h_4)))) ?_ (aQC rfl (gN (h':=[some ⟨96,x64.map (eI .u64)⟩,some ⟨96,(aQs 4 0).map (eI .u64)⟩,some ⟨131,l2.map (eI .u64)⟩]) (sv (aY rfl rfl (t8 (E:=(eI .u64)) (l:=aQs 4 0) bV rfl rfl (fun _=>rfl) rfl (bW h_3) rfl)))) ?_ aQJ))
  ·refine aQt (n:=3) (i:=4) (by decide +kernel) rfl (gS (v:=(.ptr 2 (aQz 0*1))) (sv (aBw rfl (apS bV zl rfl h_5))))<|aQH (n:=2) [5,6] (by decide +kernel) (by decide) ?_
   refine(aQC rfl (gS (v:=(.agg (x67.map (eI .u64)))) (sv (bO rfl (aIO (E:=(eI .u64)) (l:=l2) bV rfl rfl h_4 h_5)))) ?_ (aQC rfl (gN (h':=[some ⟨96,x64.map (eI .u64)⟩,some ⟨96,(aQs 4 0).map (eI .u64)⟩,some ⟨131,l2.map (eI .u64)⟩]) (sv (aY rfl rfl (t8 (E:=(eI .u64)) (l:=aQs 4 0) bV rfl rfl (fun _=>rfl) rfl (bW h_3) rfl)))) ?_ aQJ))
   ·refine aQt (n:=1) (i:=6) (by decide +kernel) rfl (gN (h':=[some ⟨96,x64.map (eI .u64)⟩,some ⟨96,(aQs 4 0).map (eI .u64)⟩,some ⟨131,l2.map (eI .u64)⟩]) (sv (aY rfl rfl (t8 (E:=(eI .u64)) (l:=aQs 4 0) bV rfl rfl (fun _=>rfl) rfl (bW h_3) rfl)))) ?_
    exact aQG (by decide +kernel) (by decide +kernel) (zG [0,1]) J
   refine aQt (n:=1) (i:=5) (by decide +kernel) rfl (gS (v:=(.agg (x67.map (eI .u64)))) (sv (bO rfl (aIO (E:=(eI .u64)) (l:=l2) bV rfl rfl h_4 h_5)))) ?_
   exact aQG (by decide +kernel) (by decide +kernel) (zG [0,1]) J
  refine aQt (n:=3) (i:=3) (by decide +kernel) rfl (gS (v:=(.sl 2 (aQz 0*1) x66.length 1 false)) (sv (b7 rfl rfl rfl (aHC (E:=(eI .u64)) (l:=l2) aC8 kH rfl rfl rfl (aV h_1) zl rfl rfl h_4))))<|aQt (n:=2) (i:=4) (by decide +kernel) rfl (gS (v:=(.ptr 2 (aQz 0*1))) (sv (aBw rfl (apS bV zl rfl h_5))))<|aQt (n:=1) (i:=5) (by decide +kernel) rfl (gS (v:=(.agg (x67.map (eI .u64)))) (sv (bO rfl (aIO (E:=(eI .u64)) (l:=l2) bV rfl rfl h_4 h_5)))) ?_
  exact aQG (by decide +kernel) (by decide +kernel) (zG [0,1]) J
 obtain⟨a9,hL2,hr⟩:=aA hr
 refine zz ?_
 refine aQw<|aQF (fun m s h=> ∃(bH:Int)(l4:List Int),iT N va b m bH l4=some a9∧Ghost 0 s h (aE 69 [(2,(.ptr 0 0)),(3,(.ptr 1 0)),(4,(.ptr 2 0)),(5,(.ptr 3 0)),(6,(.ptr 4 0)),(14,(eI .i64 bH))]) [some ⟨96,va.map (eI .u64)⟩,some ⟨96,b.map (eI .u64)⟩,some ⟨96,(aQs 4 0).map (eI .u64)⟩,some ⟨96,(aQs 4 0).map (eI .u64)⟩,some ⟨131,l4.map (eI .u64)⟩]) (n:=N) ⟨0,aQs 8 0,hL2,(zG [0,1,2,3,4])⟩ (by rintro s h ⟨_,_,h0,_⟩;simp[iT]at h0) ?_
 rintro m2 s h ⟨bH,l4,hr2,hg⟩
 refine aQD hg ?_
 clear hg hL2
 rw[iT]at hr2
 refine zz ?_
 refine aQv ?_
 refine zk hr2 rfl (fun h6 hr2=> ?_) (fun h6 hr2=> ?_)
 ·refine zz ?_
  refine aQx fun K3 hK3 hG3=> ?_
  have J3: ∀(pS:List Int),tW N va b bH (iT N va b m2) pS=some a9→K3 (aE 69 [(2,(.ptr 0 0)),(3,(.ptr 1 0)),(4,(.ptr 2 0)),(5,(.ptr 3 0)),(6,(.ptr 4 0)),(14,(eI .i64 bH))]) [some ⟨96,va.map (eI .u64)⟩,some ⟨96,b.map (eI .u64)⟩,some ⟨96,(aQs 4 0).map (eI .u64)⟩,some ⟨96,(aQs 4 0).map (eI .u64)⟩,some ⟨131,pS.map (eI .u64)⟩]:=by
   intro pS hr2
   unfold tW at hr2
   refine hK3 _ _ ?_
   refine zz ?_
   exact⟨aQr.wrap (bH+1),pS,hr2,(zG [0,1,2,3,4])⟩
  refine aQw ?_
  refine zz ?_
  refine aQx fun K4 hK4 hG4=> ?_
  have J4: ∀(iY:Int)(uX:List Int),t0 N va b bH (iT N va b m2) iY uX=some a9→K4 (aE 69 [(2,(.ptr 0 0)),(3,(.ptr 1 0)),(4,(.ptr 2 0)),(5,(.ptr 3 0)),(6,(.ptr 4 0)),(7,(eI .i64 bH)),(8,(eI .u64 iY)),(14,(eI .i64 bH))]) [some ⟨96,va.map (eI .u64)⟩,some ⟨96,b.map (eI .u64)⟩,some ⟨96,(aQs 4 0).map (eI .u64)⟩,some ⟨96,(aQs 4 0).map (eI .u64)⟩,some ⟨131,uX.map (eI .u64)⟩]:=by
   intro iY uX hr2
   unfold t0 at hr2
   refine hK4 _ _ ?_
   obtain⟨x61,h_7,hr2⟩:=aA hr2
   refine zz ?_
   exact hG3 _ _ _ _ (zG [0,1,2,3,4]) (J3 (uX.set (aQz (aQr.wrap (bH+4))) iY) hr2)
  obtain⟨res5,hL5,hr2⟩:=aA hr2
  refine zz ?_
  refine aQw<|aQF (fun m s h=> ∃(carry_1 x17:Int)(l4_3:List Int),cD N va b bH m carry_1 x17 l4_3=some res5∧Ghost 0 s h (aE 69 [(2,(.ptr 0 0)),(3,(.ptr 1 0)),(4,(.ptr 2 0)),(5,(.ptr 3 0)),(6,(.ptr 4 0)),(7,(eI .i64 bH)),(8,(eI .u64 carry_1)),(14,(eI .i64 bH)),(17,(eI .i64 x17))]) [some ⟨96,va.map (eI .u64)⟩,some ⟨96,b.map (eI .u64)⟩,some ⟨96,(aQs 4 0).map (eI .u64)⟩,some ⟨96,(aQs 4 0).map (eI .u64)⟩,some ⟨131,l4_3.map (eI .u64)⟩]) (n:=N) ⟨0,0,l4,hL5,(zG [0,1,2,3,4])⟩ (by rintro s h ⟨_,_,_,h0,_⟩;simp[cD]at h0) ?_
  rintro m5 s h ⟨carry_1,x17,l4_3,hr5,hg⟩
  refine aQD hg ?_
  clear hg hL5
  rw[cD]at hr5
  refine zz ?_
  refine aQv ?_
  refine zk hr5 rfl (fun h8 hr5=> ?_) (fun h8 hr5=> ?_)
  ·refine zz ?_
   refine aQv<|aQw ?_
   refine zz ?_
   refine aQv ?_
   obtain⟨bN,h_9,hr5⟩:=aA hr5
   obtain⟨x25,h_10,hr5⟩:=aA hr5
   obtain⟨x27,h_11,hr5⟩:=aA hr5
   refine aQI mixed [127] [] [[0,1,2,3,4,5,6,7,8,9,10,11]] ?_
   refine zz ?_
   refine xu (yM h_11) ?_
   obtain⟨x35,h_13,hr5⟩:=aA hr5
   obtain⟨x37,h_14,hr5⟩:=aA hr5
   refine zz ?_
   refine xp (jB h_14) ?_
   obtain⟨x46,h_15,hr5⟩:=aA hr5
   refine zz ?_
   refine xp (jB h_15) ?_
   refine zz ?_
   exact⟨aQU.wrap ((aQU.wrap (x27.1+x37.2))+x46.2),aQr.wrap (x17+1),l4_3.set (aQz (aQr.wrap (bH+x17))) x46.1,hr5,(zG [0,1,2,3,4])⟩
  refine zz ?_
  obtain rfl:=sj hr5
  refine zz ?_
  exact hG4 _ _ _ _ (zG [0,1,2,3,4]) (J4 carry_1 l4_3 hr2)
 refine zz ?_
 obtain rfl:=sj hr2
 refine zz ?_
 exact hG1 _ _ _ _ (zG [2,3,4]) (J1 l4 hr)
theorem aBl {N:Nat}{va:List Int}{low:Int}{r:(List Int)×Int}(hr:oS N va low=some r):
  Vm.Fn Tryz.prog 136 [] [(.agg (va.map (eI .u64))),(eI .u64 low)] (.tup [(.agg (r.1.map (eI .u64))),(eI .u64 r.2)]) []:=by
 refine zf Tryz.func136 Tryz.ntmps136 ?_
 unfold oS at hr
 refine zz ?_
 refine aQx fun K1 hK1 hG1=> ?_
 have J1: ∀(aEf:Int)(l0:List Int),tN N aEf l0=some r→K1 (aE 25 [(1,(eI .u64 aEf)),(2,(.ptr 0 0)),(4,(.ptr 1 0))]) [some ⟨96,l0.map (eI .u64)⟩,some ⟨96,(aQs 4 0).map (eI .u64)⟩]:=by
  intro aEf l0 hr
  unfold tN at hr
  refine hK1 _ _ ?_
  obtain⟨q,h_1,hr⟩:=aA hr
  refine zz ?_
  obtain rfl:=sj hr
  exact mZ Tryz.results136 aW aW (lI [])
 obtain⟨a9,hL2,hr⟩:=aA hr
 refine zz ?_
 refine aQw<|aQF (fun m s h=> ∃(low_2 x7:Int)(aL:List Int),kN N m low_2 x7 aL=some a9∧Ghost 0 s h (aE 25 [(1,(eI .u64 low_2)),(2,(.ptr 0 0)),(4,(.ptr 1 0)),(7,(eI .i64 x7))]) [some ⟨96,aL.map (eI .u64)⟩,some ⟨96,(aQs 4 0).map (eI .u64)⟩]) (n:=N) ⟨low,0,va,hL2,(zG [0,1])⟩ (by rintro s h ⟨_,_,_,h0,_⟩;simp[kN]at h0) ?_
 rintro m2 s h ⟨low_2,x7,aL,hr2,hg⟩
 refine aQD hg ?_
 clear hg hL2
 rw[kN]at hr2
 refine zz ?_
 refine aQv ?_
 refine zk hr2 rfl (fun h2 hr2=> ?_) (fun h2 hr2=> ?_)
 ·refine zz ?_
  refine aQv<|aQw ?_
  obtain⟨dL,h_3,hr2⟩:=aA hr2
  obtain⟨bH,h_4,hr2⟩:=aA hr2
  obtain⟨bI,h_5,hr2⟩:=aA hr2
  refine zz ?_
  refine aQI mixed [] [] [[0,1,2,3,4,5,6,7,8,9,10,11,12,13]] ?_
  refine zz ?_
  exact⟨bI,aQr.wrap (x7+1),aL.set (aQz x7) (bits .or .u64 bH low_2),hr2,(zG [0,1])⟩
 refine zz ?_
 obtain rfl:=sj hr2
 refine zz ?_
 exact hG1 _ _ _ _ (zG [0,1]) (J1 low_2 aL hr)
theorem yO {N:Nat}{x y c:Int}{r:Int×Int}(hr:nZ N x y c=some r):Vm.Fn Tryz.prog 96 [] [(eI .u64 x),(eI .u64 y),(eI .u64 c)] (.tup [(eI .u64 r.1),(eI .u64 r.2)]) []:=
 aLf Tryz.func96 (by kernel_rfl) (by kernel_rfl) (by kernel_rfl) (by kernel_rfl) hr
theorem aA7 {N:Nat}{va b:List Int}{r:(List Int)×Bool}(hr:o5 N va b=some r):
  Vm.Fn Tryz.prog 106 [] [(.agg (va.map (eI .u64))),(.agg (b.map (eI .u64)))] (.tup [(.agg (r.1.map (eI .u64))),(eB r.2)]) []:=by
 refine zf Tryz.func106 Tryz.ntmps106 ?_
 unfold o5 at hr
 refine zz ?_
 refine aQx fun K1 hK1 hG1=> ?_
 have J1: ∀(borrow:Int)(l1:List Int),uB N borrow l1=some r→K1 (aE 29 [(4,(.ptr 0 0)),(6,(.ptr 1 0)),(7,(eI .u64 borrow))]) [some ⟨96,(aQs 4 0).map (eI .u64)⟩,some ⟨96,l1.map (eI .u64)⟩]:=by
  intro borrow l1 hr
  unfold uB at hr
  refine hK1 _ _ ?_
  obtain⟨q,h_1,hr⟩:=aA hr
  refine zz ?_
  obtain rfl:=sj hr
  exact mZ Tryz.results106 aW aW (lI [])
 obtain⟨a9,hL2,hr⟩:=aA hr
 refine zz ?_
 refine aQw<|aQF (fun m s h=> ∃(borrow_1 x9:Int)(l3:List Int),iP N va b m borrow_1 x9 l3=some a9∧Ghost 0 s h (aE 29 [(2,(.ptr 0 0)),(3,(.ptr 1 0)),(4,(.ptr 2 0)),(6,(.ptr 3 0)),(7,(eI .u64 borrow_1)),(9,(eI .i64 x9))]) [some ⟨96,va.map (eI .u64)⟩,some ⟨96,b.map (eI .u64)⟩,some ⟨96,(aQs 4 0).map (eI .u64)⟩,some ⟨96,l3.map (eI .u64)⟩]) (n:=N) ⟨0,0,aQs 4 0,hL2,(zG [0,1,2,3])⟩ (by rintro s h ⟨_,_,_,h0,_⟩;simp[iP]at h0) ?_
 rintro m2 s h ⟨borrow_1,x9,l3,hr2,hg⟩
 refine aQD hg ?_
 clear hg hL2
 rw[iP]at hr2
 refine zz ?_
 refine aQv ?_
 refine zk hr2 rfl (fun h2 hr2=> ?_) (fun h2 hr2=> ?_)
 ·refine zz ?_
  refine aQv<|aQw ?_
  obtain⟨x15,h_3,hr2⟩:=aA hr2
  obtain⟨x18,h_4,hr2⟩:=aA hr2
  obtain⟨dM,h_5,hr2⟩:=aA hr2
  obtain⟨dO,h_7,hr2⟩:=aA hr2
  refine zz ?_
  refine aQI mixed [96] [] [[0,1,2,3,4,5,6,7,8,9,10,11,12,13,14]] ?_
  refine zz ?_
  refine xu (yO h_5) ?_
  refine zz ?_
  exact⟨dM.2,aQr.wrap (x9+1),l3.set (aQz x9) dM.1,hr2,(zG [0,1,2,3])⟩
 refine zz ?_
 obtain rfl:=sj hr2
 refine zz ?_
 exact hG1 _ _ _ _ (zG [2,3]) (J1 borrow_1 l3 hr)
theorem aDm {N:Nat}{hi lo b:List Int}{r:(List Int)×(List Int)×Bool}(hr:xK N hi lo b=some r):
  Vm.Fn Tryz.prog 132 [] [(.agg (hi.map (eI .u64))),(.agg (lo.map (eI .u64))),(.agg (b.map (eI .u64)))] (.tup [(.agg (r.1.map (eI .u64))),(.agg (r.2.1.map (eI .u64))),(eB r.2.2)]) []:=by
 refine zf Tryz.func132 Tryz.ntmps132 ?_
 unfold xK at hr
 refine zz ?_
 refine AB.scope<|aQv ?_
 obtain⟨q,h_1,hr⟩:=aA hr
 obtain⟨q_1,h_2,hr⟩:=aA hr
 obtain⟨x16,h_3,hr⟩:=aA hr
 refine zz ?_
 refine xp (qZ h_3) ?_
 refine zz ?_
 refine zk hr rfl (fun h4 hr=> ?_) (fun h4 hr=> ?_)
 ·refine zz ?_
  refine xw (v:=(.agg ([0,0,0,0].map (eI .u64)))) (cH rfl (lY bV kH rfl))<|xw (v:=(.agg ([0,0,0,0].map (eI .u64)))) (cH rfl (lY bV kH rfl)) ?_
  refine zz ?_
  obtain rfl:=sj hr
  exact sK Tryz.results132 aW aW aW (lI [])
 refine zz ?_
 refine xw (v:=(.agg ([0,0,0,0].map (eI .u64)))) (cH rfl (lY bV kH rfl)) ?_
 refine zz ?_
 refine aQv<|AB.label ?_
 refine zz ?_
 refine aQx fun K1 hK1 hG1=> ?_
 have J1: ∀(l0 l1:List Int),xQ N l0 l1=some r→K1 (aE 72 [(6,(.ptr 0 0)),(7,(.ptr 1 0))]) [some ⟨96,l0.map (eI .u64)⟩,some ⟨96,l1.map (eI .u64)⟩]:=by
  intro l0 l1 hr
  unfold xQ at hr
  refine hK1 _ _<|aQv ?_
  obtain⟨q_2,h_5,hr⟩:=aA hr
  obtain⟨q_3,h_6,hr⟩:=aA hr
  refine AB.rd (eE []) (eE []) mixed<|aQt (n:=4) (i:=0) (by decide +kernel) rfl (gS (v:=(.agg (l0.map (eI .u64)))) (sv (bO rfl (vS (E:=(eI .u64)) (l:=l0) bV rfl rfl (aV h_5))))) ?_
  refine aQR (m:=2) (L:=lst [0,1,2] 5) (s1:=aE 72 [(6,(.ptr 0 0)),(7,(.ptr 1 0)),(71,(.agg (l1.map (eI .u64))))]) (h1:=[some ⟨96,l0.map (eI .u64)⟩,some ⟨96,l1.map (eI .u64)⟩]) ?_ (fun J=> ?_)
  ·refine aQt (n:=1) (i:=3) (by decide +kernel) rfl (gN (h':=[some ⟨96,l0.map (eI .u64)⟩,some ⟨96,l1.map (eI .u64)⟩]) (sv (aY rfl rfl (t8 (E:=(eI .u64)) (l:=l1) bV rfl rfl (fun _=>rfl) (aV h_6) (aV h_6) rfl))))<|aQt (n:=0) (i:=4) (by decide +kernel) rfl (gS (v:=(eB true)) (sv (qG rfl)))<|aQP (by decide +kernel) ?_
   refine zz ?_
   obtain rfl:=sj hr
   exact sK Tryz.results132 aW aW aW (lI [])
  refine aQH (n:=3) [1,2] (by decide +kernel) (by decide) ?_
  refine(aQC rfl (gS (v:=(.agg (l1.map (eI .u64)))) (sv (bO rfl (vS (E:=(eI .u64)) (l:=l1) bV rfl rfl (aV h_6))))) ?_ (aQC rfl (gN (h':=[some ⟨96,l0.map (eI .u64)⟩,some ⟨96,l1.map (eI .u64)⟩]) (sv (aY rfl rfl (t8 (E:=(eI .u64)) (l:=l0) bV rfl rfl (fun _=>rfl) (aV h_5) (aV h_5) rfl)))) ?_ aQJ))
  ·refine aQt (n:=2) (i:=2) (by decide +kernel) rfl (gN (h':=[some ⟨96,l0.map (eI .u64)⟩,some ⟨96,l1.map (eI .u64)⟩]) (sv (aY rfl rfl (t8 (E:=(eI .u64)) (l:=l0) bV rfl rfl (fun _=>rfl) (aV h_5) (aV h_5) rfl)))) ?_
   exact aQG (by decide +kernel) (by decide +kernel) (zG [0,1]) J
  refine aQt (n:=2) (i:=1) (by decide +kernel) rfl (gS (v:=(.agg (l1.map (eI .u64)))) (sv (bO rfl (vS (E:=(eI .u64)) (l:=l1) bV rfl rfl (aV h_6))))) ?_
  exact aQG (by decide +kernel) (by decide +kernel) (zG [0,1]) J
 obtain⟨a9,hL2,hr⟩:=aA hr
 refine zz ?_
 refine aQw<|aQF (fun m s h=> ∃(b9:Int)(aL l2 l3:List Int),kY N b m b9 aL l2 l3=some a9∧Ghost 0 s h (aE 72 [(4,(.ptr 0 0)),(5,(.ptr 1 0)),(6,(.ptr 2 0)),(7,(.ptr 3 0)),(9,(.ptr 4 0)),(10,(eI .i64 b9))]) [some ⟨96,aL.map (eI .u64)⟩,some ⟨96,b.map (eI .u64)⟩,some ⟨96,l2.map (eI .u64)⟩,some ⟨96,l3.map (eI .u64)⟩,some ⟨96,[0,0,0,0].map (eI .u64)⟩]) (n:=N) ⟨3,lo,aQs 4 0,hi,hL2,(zG [1,2,3,4,5])⟩ (by rintro s h ⟨_,_,_,_,h0,_⟩;simp[kY]at h0) ?_
 rintro m2 s h ⟨b9,aL,l2,l3,hr2,hg⟩
 refine aQD hg ?_
 clear hg hL2
 rw[kY]at hr2
 refine aQv ?_
 refine zz ?_
 refine zk hr2 rfl (fun h7 hr2=> ?_) (fun h7 hr2=> ?_)
 ·refine zz ?_
  refine aQx fun K3 hK3 hG3=> ?_
  have J3: ∀(iZ fU jS:List Int),xP N b b9 (kY N b m2) iZ fU jS=some a9→K3 (aE 72 [(4,(.ptr 0 0)),(5,(.ptr 1 0)),(6,(.ptr 2 0)),(7,(.ptr 3 0)),(9,(.ptr 4 0)),(10,(eI .i64 b9))]) [some ⟨96,iZ.map (eI .u64)⟩,some ⟨96,b.map (eI .u64)⟩,some ⟨96,fU.map (eI .u64)⟩,some ⟨96,jS.map (eI .u64)⟩,some ⟨96,[0,0,0,0].map (eI .u64)⟩]:=by
   intro iZ fU jS hr2
   unfold xP at hr2
   refine hK3 _ _ ?_
   refine zz ?_
   exact⟨aQr.wrap (b9-1),iZ,fU,jS,hr2,(zG [0,1,2,3,4])⟩
  refine aQw ?_
  obtain⟨res4,hL4,hr2⟩:=aA hr2
  refine zz ?_
  refine aQw<|aQF (fun m s h=> ∃(bit:Int)(k9 g9 gH:List Int),cN N b b9 m bit k9 g9 gH=some res4∧Ghost 0 s h (aE 72 [(4,(.ptr 0 0)),(5,(.ptr 1 0)),(6,(.ptr 2 0)),(7,(.ptr 3 0)),(9,(.ptr 4 0)),(10,(eI .i64 b9)),(11,(eI .i64 bit))]) [some ⟨96,k9.map (eI .u64)⟩,some ⟨96,b.map (eI .u64)⟩,some ⟨96,g9.map (eI .u64)⟩,some ⟨96,gH.map (eI .u64)⟩,some ⟨96,[0,0,0,0].map (eI .u64)⟩]) (n:=N) ⟨63,aL,l2,l3,hL4,(zG [0,1,2,3,4])⟩ (by rintro s h ⟨_,_,_,_,h0,_⟩;simp[cN]at h0) ?_
  rintro m4 s h ⟨bit,k9,g9,gH,hr4,hg⟩
  refine aQD hg ?_
  clear hg hL4
  rw[cN]at hr4
  refine aQv ?_
  refine zz ?_
  refine zk hr4 rfl (fun h8 hr4=> ?_) (fun h8 hr4=> ?_)
  ·refine zz ?_
   refine aQx fun K5 hK5 hG5=> ?_
   have J5: ∀(aFg aFj aFl:List Int),qY N b b9 bit (cN N b b9 m4) aFg aFj aFl=some res4→K5 (aE 72 [(4,(.ptr 0 0)),(5,(.ptr 1 0)),(6,(.ptr 2 0)),(7,(.ptr 3 0)),(9,(.ptr 4 0)),(10,(eI .i64 b9)),(11,(eI .i64 bit))]) [some ⟨96,aFg.map (eI .u64)⟩,some ⟨96,b.map (eI .u64)⟩,some ⟨96,aFj.map (eI .u64)⟩,some ⟨96,aFl.map (eI .u64)⟩,some ⟨96,[0,0,0,0].map (eI .u64)⟩]:=by
    intro aFg aFj aFl hr4
    unfold qY at hr4
    refine hK5 _ _ ?_
    refine zz ?_
    exact⟨aQr.wrap (bit-1),aFg,aFj,aFl,hr4,(zG [0,1,2,3,4])⟩
   refine aQw<|aQv ?_
   refine aQx fun K6 hK6 hG6=> ?_
   have J6: ∀(x37:Bool),q7 N b b9 bit k9 g9 gH (cN N b b9 m4) x37=some res4→K6 (aE 72 [(4,(.ptr 0 0)),(5,(.ptr 1 0)),(6,(.ptr 2 0)),(7,(.ptr 3 0)),(9,(.ptr 4 0)),(10,(eI .i64 b9)),(11,(eI .i64 bit)),(37,(eB x37))]) [some ⟨96,k9.map (eI .u64)⟩,some ⟨96,b.map (eI .u64)⟩,some ⟨96,g9.map (eI .u64)⟩,some ⟨96,gH.map (eI .u64)⟩,some ⟨96,[0,0,0,0].map (eI .u64)⟩]:=by
    intro x37 hr4
    unfold q7 at hr4
    refine hK6 _ _ ?_
    refine zk hr4 rfl (fun h9 hr4=> ?_) (fun h9 hr4=> ?_)
    ·refine zz ?_
     obtain rfl:=sj hr4
     obtain rfl:=sj hr2
     refine zz ?_
     exact hG1 _ _ _ _ (zG [2,3]) (J1 g9 gH hr)
    obtain⟨q_4,h_10,hr4⟩:=aA hr4
    obtain⟨x40,h_11,hr4⟩:=aA hr4
    obtain⟨q_5,h_12,hr4⟩:=aA hr4
    refine zz ?_
    refine xp (aBl h_11) ?_
    obtain⟨q_6,h_13,hr4⟩:=aA hr4
    obtain⟨x46,h_14,hr4⟩:=aA hr4
    obtain⟨q_7,h_15,hr4⟩:=aA hr4
    refine zz ?_
    refine xp (aBl h_14) ?_
    refine zz ?_
    refine aQx fun K7 hK7 hG7=> ?_
    have J7: ∀(x56:Bool),oT N b b9 bit g9 x40 x46 (cN N b b9 m4) x56=some res4→K7 (aE 72 [(4,(.ptr 0 0)),(5,(.ptr 1 0)),(6,(.ptr 2 0)),(7,(.ptr 3 0)),(9,(.ptr 4 0)),(10,(eI .i64 b9)),(11,(eI .i64 bit)),(56,(eB x56))]) [some ⟨96,x40.1.map (eI .u64)⟩,some ⟨96,b.map (eI .u64)⟩,some ⟨96,g9.map (eI .u64)⟩,some ⟨96,x46.1.map (eI .u64)⟩,some ⟨96,[0,0,0,0].map (eI .u64)⟩]:=by
     intro x56 hr4
     unfold oT at hr4
     refine hK7 _ _ ?_
     refine zk hr4 rfl (fun h16 hr4=> ?_) (fun h16 hr4=> ?_)
     ·obtain⟨x60,h_17,hr4⟩:=aA hr4
      obtain⟨q_8,h_18,hr4⟩:=aA hr4
      refine zz ?_
      refine xp (aA7 h_17) ?_
      obtain⟨x64,h_19,hr4⟩:=aA hr4
      obtain⟨x67,h_20,hr4⟩:=aA hr4
      refine zz ?_
      refine aQI mixed [] [] [[0,1,2,3,4,5,6,7]] ?_
      refine zz ?_
      exact hG5 _ _ _ _ (zG [0,1,2,3,4]) (J5 x40.1 (g9.set (aQz b9) (bits .or .u64 x64 x67)) x60.1 hr4)
     refine zz ?_
     exact hG5 _ _ _ _ (zG [0,1,2,3,4]) (J5 x40.1 g9 x46.1 hr4)
    rcases aQu (x46.2 != 0)with h21|h21
    ·replace hr4:=cU hr4 h21
     refine xr ?_
     refine zz ?_
     exact hG7 _ _ _ _ (zG [0,1,2,3,4]) (J7 true hr4)
    replace hr4:=cQ hr4 h21
    obtain⟨x54,h_22,hr4⟩:=aA hr4
    refine xr ?_
    refine zz ?_
    refine wQ (v:=(eI .i64 x54)) (h':=[some ⟨96,x40.1.map (eI .u64)⟩,some ⟨96,b.map (eI .u64)⟩,some ⟨96,g9.map (eI .u64)⟩,some ⟨96,x46.1.map (eI .u64)⟩,some ⟨96,[0,0,0,0].map (eI .u64)⟩]) rfl rfl h21 rfl (Vm.Fn.pure (qZ h_22) zR rfl) ?_
    refine zz ?_
    exact hG7 _ _ _ _ (zG [0,1,2,3,4]) (J7 (decide (0≤x54)) hr4)
   obtain⟨q_9,h_23,hr4⟩:=aA hr4
   rcases aQu (gH == [0,0,0,0])with h24|h24
   ·replace hr4:=cU hr4 h24
    obtain⟨aPs,h_25,hr4⟩:=aA hr4
    refine xr ?_
    refine zz ?_
    exact hG6 _ _ _ _ (zG [0,1,2,3,4]) (J6 (k9 == [0,0,0,0]) hr4)
   replace hr4:=cQ hr4 h24
   refine xr ?_
   refine zz ?_
   exact hG6 _ _ _ _ (zG [0,1,2,3,4]) (J6 false hr4)
  refine zz ?_
  obtain rfl:=sj hr4
  refine zz ?_
  exact hG3 _ _ _ _ (zG [0,1,2,3,4]) (J3 k9 g9 gH hr2)
 refine zz ?_
 obtain rfl:=sj hr2
 refine zz ?_
 exact hG1 _ _ _ _ (zG [2,3]) (J1 l2 l3 hr)
theorem wV {N:Nat}{va vm:List Int}{r:(List Int)}(hr:o6 N va vm=some r):
  Vm.Fn Tryz.prog 133 [] [(.agg (va.map (eI .u64))),(.agg (vm.map (eI .u64)))] (.agg (r.map (eI .u64))) []:=by
 refine zf Tryz.func133 Tryz.ntmps133 ?_
 unfold o6 at hr
 refine zz ?_
 refine aQv ?_
 obtain⟨q,h_1,hr⟩:=aA hr
 obtain⟨q_1,h_2,hr⟩:=aA hr
 obtain⟨cC,h_3,hr⟩:=aA hr
 refine zz ?_
 refine xp (qZ h_3) ?_
 refine zz ?_
 refine zk hr rfl (fun h4 hr=> ?_) (fun h4 hr=> ?_)
 ·refine zz ?_
  obtain rfl:=sj hr
  exact eW Tryz.results133 aW (zG [])
 obtain⟨x17,h_5,hr⟩:=aA hr
 obtain⟨q_2,h_6,hr⟩:=aA hr
 obtain⟨q_3,h_7,hr⟩:=aA hr
 refine zz ?_
 refine xw (v:=(.agg ([0,0,0,0].map (eI .u64)))) (cH rfl (lY bV kH rfl)) ?_
 refine zz ?_
 refine xp (aDm h_5) ?_
 refine zz ?_
 obtain rfl:=sj hr
 exact eW Tryz.results133 aW (zG [])
theorem aFt {N:Nat}{va b vm:List Int}{r:(List Int)}(hr:uF N va b vm=some r):
  Vm.Fn Tryz.prog 121 [] [(.agg (va.map (eI .u64))),(.agg (b.map (eI .u64))),(.agg (vm.map (eI .u64)))] (.agg (r.map (eI .u64))) []:=by
 refine zf Tryz.func121 Tryz.ntmps121 ?_
 unfold uF at hr
 refine zz ?_
 refine aQv ?_
 obtain⟨q,h_1,hr⟩:=aA hr
 refine zz ?_
 refine xw (v:=(.agg ([0,0,0,0].map (eI .u64)))) (cH rfl (lY bV kH rfl)) ?_
 refine zz ?_
 refine zk hr rfl (fun h2 hr=> ?_) (fun h2 hr=> ?_)
 ·refine zz ?_
  refine xw (v:=(.agg ([0,0,0,0].map (eI .u64)))) (cH rfl (lY bV kH rfl)) ?_
  refine zz ?_
  obtain rfl:=sj hr
  exact eW Tryz.results121 aW (zG [])
 obtain⟨q_1,h_3,hr⟩:=aA hr
 obtain⟨q_2,h_4,hr⟩:=aA hr
 obtain⟨x19,h_5,hr⟩:=aA hr
 obtain⟨q_3,h_6,hr⟩:=aA hr
 obtain⟨q_4,h_7,hr⟩:=aA hr
 refine zz ?_
 refine xp (aH2 h_5) ?_
 refine zz ?_
 refine aQv ?_
 obtain⟨x25,h_8,hr⟩:=aA hr
 obtain⟨x28,h_10,hr⟩:=aA hr
 obtain⟨q_5,h_12,hr⟩:=aA hr
 obtain⟨q_6,h_13,hr⟩:=aA hr
 refine AB.rd (eE [132,133]) (eE []) mixed<|aQt (n:=14) (i:=0) (by decide +kernel) rfl (gS (v:=(.agg (x19.1.map (eI .u64)))) (sv (bO rfl (vS (E:=(eI .u64)) (l:=x19.1) bV rfl rfl (aV h_6)))))<|aQt (n:=13) (i:=1) (by decide +kernel) rfl (gS (v:=(.agg (vm.map (eI .u64)))) (sv (bO rfl (vS (E:=(eI .u64)) (l:=vm) bV rfl rfl (aV h_1)))))<|aQt (n:=12) (i:=2) (by decide +kernel) rfl (gU (fun _=>(Vm.Fn.pure (wV h_8) zR zR)) rfl (sv (m9 rfl r5)))<|aQt (n:=11) (i:=3) (by decide +kernel) rfl (gS (v:=(.agg (x19.2.map (eI .u64)))) (sv (bO rfl (vS (E:=(eI .u64)) (l:=x19.2) bV rfl rfl (aV h_7))))) ?_
 refine aQt (n:=10) (i:=4) (by decide +kernel) rfl (gS (v:=(.agg (vm.map (eI .u64)))) (sv (bO rfl (vS (E:=(eI .u64)) (l:=vm) bV rfl rfl (aV h_1)))))<|aQt (n:=9) (i:=5) (by decide +kernel) rfl (gU (fun _=>(Vm.Fn.pure (aDm h_10) zR zR)) rfl (sv (m9 rfl r5)))<|aQt (n:=8) (i:=6) (by decide +kernel) rfl (gS (v:=(.tup [(.agg (x28.1.map (eI .u64))),(.agg (x28.2.1.map (eI .u64))),(eB x28.2.2)])) (sv (kK rfl)))<|aQt (n:=7) (i:=7) (by decide +kernel) rfl (gS (v:=(.agg (x28.1.map (eI .u64)))) (sv (aC5 rfl rfl)))<|aQt (n:=6) (i:=8) (by decide +kernel) rfl (gS (v:=(.agg (x28.2.1.map (eI .u64)))) (sv (aC5 rfl rfl))) ?_
 refine aQt (n:=5) (i:=9) (by decide +kernel) rfl (gS (v:=(eB x28.2.2)) (sv (aC5 rfl rfl))) ?_
 refine aQR (m:=1) (L:=lst [0,1,2,3,4,5,6,7,8,9,10,11,12,13] 15) (s1:=aE 33 [(6,(.ptr 0 0)),(10,(.ptr 1 0)),(31,(eB x28.2.2))]) (h1:=[some ⟨96,(aQs 4 0).map (eI .u64)⟩,some ⟨96,x28.2.1.map (eI .u64)⟩]) ?_ (fun J=> ?_)
 ·refine aQt (n:=0) (i:=14) (by decide +kernel) rfl (gS (v:=(eB x28.2.2)) (sv (qG rfl)))<|aQP (by decide +kernel) ?_
  refine zz ?_
  obtain rfl:=sj hr
  exact eW Tryz.results121 aW (zG [])
 refine aQH (n:=4) [10,11] (by decide +kernel) (by decide) ?_
 refine(aQC rfl (gS (v:=(.ptr 6 0)) (h':=[some ⟨96,va.map (eI .u64)⟩,some ⟨96,b.map (eI .u64)⟩,some ⟨96,vm.map (eI .u64)⟩,some ⟨96,(aQs 4 0).map (eI .u64)⟩,some ⟨96,x19.1.map (eI .u64)⟩,some ⟨96,x19.2.map (eI .u64)⟩,some ⟨96,(aQs 4 0).map (eI .u64)⟩]) (sv (iL bV rfl rfl rfl))) ?_ (aQC rfl (gS (v:=(.ptr 6 0)) (h':=[some ⟨96,va.map (eI .u64)⟩,some ⟨96,b.map (eI .u64)⟩,some ⟨96,vm.map (eI .u64)⟩,some ⟨96,(aQs 4 0).map (eI .u64)⟩,some ⟨96,x19.1.map (eI .u64)⟩,some ⟨96,x19.2.map (eI .u64)⟩,some ⟨96,(aQs 4 0).map (eI .u64)⟩]) (sv (iL bV rfl rfl rfl))) ?_ aQJ))
 ·refine aQt (n:=3) (i:=11) (by decide +kernel) rfl (gS (v:=(.ptr 7 0)) (h':=[some ⟨96,va.map (eI .u64)⟩,some ⟨96,b.map (eI .u64)⟩,some ⟨96,vm.map (eI .u64)⟩,some ⟨96,(aQs 4 0).map (eI .u64)⟩,some ⟨96,x19.1.map (eI .u64)⟩,some ⟨96,x19.2.map (eI .u64)⟩,some ⟨96,(aQs 4 0).map (eI .u64)⟩,some ⟨96,(aQs 4 0).map (eI .u64)⟩]) (sv (iL bV rfl rfl rfl)))<|aQt (n:=2) (i:=12) (by decide +kernel) rfl (gN (h':=[some ⟨96,va.map (eI .u64)⟩,some ⟨96,b.map (eI .u64)⟩,some ⟨96,vm.map (eI .u64)⟩,some ⟨96,(aQs 4 0).map (eI .u64)⟩,some ⟨96,x19.1.map (eI .u64)⟩,some ⟨96,x19.2.map (eI .u64)⟩,some ⟨96,x28.1.map (eI .u64)⟩,some ⟨96,(aQs 4 0).map (eI .u64)⟩]) (sv (aY rfl rfl (t8 (E:=(eI .u64)) (l:=aQs 4 0) bV rfl rfl (fun _=>rfl) rfl (aV h_12) rfl)))) ?_
  refine aQt (n:=1) (i:=13) (by decide +kernel) rfl (gN (h':=[some ⟨96,va.map (eI .u64)⟩,some ⟨96,b.map (eI .u64)⟩,some ⟨96,vm.map (eI .u64)⟩,some ⟨96,(aQs 4 0).map (eI .u64)⟩,some ⟨96,x19.1.map (eI .u64)⟩,some ⟨96,x19.2.map (eI .u64)⟩,some ⟨96,x28.1.map (eI .u64)⟩,some ⟨96,x28.2.1.map (eI .u64)⟩]) (sv (aY rfl rfl (t8 (E:=(eI .u64)) (l:=aQs 4 0) bV rfl rfl (fun _=>rfl) rfl (aV h_13) rfl)))) ?_
  exact aQG (by decide +kernel) (by decide +kernel) (zG [3,7]) J
 refine aQt (n:=3) (i:=10) (by decide +kernel) rfl (gS (v:=(.ptr 7 0)) (h':=[some ⟨96,va.map (eI .u64)⟩,some ⟨96,b.map (eI .u64)⟩,some ⟨96,vm.map (eI .u64)⟩,some ⟨96,(aQs 4 0).map (eI .u64)⟩,some ⟨96,x19.1.map (eI .u64)⟩,some ⟨96,x19.2.map (eI .u64)⟩,some ⟨96,(aQs 4 0).map (eI .u64)⟩,some ⟨96,(aQs 4 0).map (eI .u64)⟩]) (sv (iL bV rfl rfl rfl)))<|aQt (n:=2) (i:=12) (by decide +kernel) rfl (gN (h':=[some ⟨96,va.map (eI .u64)⟩,some ⟨96,b.map (eI .u64)⟩,some ⟨96,vm.map (eI .u64)⟩,some ⟨96,(aQs 4 0).map (eI .u64)⟩,some ⟨96,x19.1.map (eI .u64)⟩,some ⟨96,x19.2.map (eI .u64)⟩,some ⟨96,(aQs 4 0).map (eI .u64)⟩,some ⟨96,x28.1.map (eI .u64)⟩]) (sv (aY rfl rfl (t8 (E:=(eI .u64)) (l:=aQs 4 0) bV rfl rfl (fun _=>rfl) rfl (aV h_12) rfl)))) ?_
 refine aQt (n:=1) (i:=13) (by decide +kernel) rfl (gN (h':=[some ⟨96,va.map (eI .u64)⟩,some ⟨96,b.map (eI .u64)⟩,some ⟨96,vm.map (eI .u64)⟩,some ⟨96,(aQs 4 0).map (eI .u64)⟩,some ⟨96,x19.1.map (eI .u64)⟩,some ⟨96,x19.2.map (eI .u64)⟩,some ⟨96,x28.2.1.map (eI .u64)⟩,some ⟨96,x28.1.map (eI .u64)⟩]) (sv (aY rfl rfl (t8 (E:=(eI .u64)) (l:=aQs 4 0) bV rfl rfl (fun _=>rfl) rfl (aV h_13) rfl)))) ?_
 exact aQG (by decide +kernel) (by decide +kernel) (zG [3,6]) J
theorem aAG {N:Nat}{va b:List Int}{r:(List Int)}(hr:sA N va b=some r):
  Vm.Fn Tryz.prog 108 [] [(.agg (va.map (eI .u64))),(.agg (b.map (eI .u64)))] (.agg (r.map (eI .u64))) []:=by
 refine zf Tryz.func108 Tryz.ntmps108 ?_
 unfold sA at hr
 refine zz ?_
 refine aQv ?_
 obtain⟨q,h_1,hr⟩:=aA hr
 obtain⟨q_1,h_2,hr⟩:=aA hr
 obtain⟨x7,h_3,hr⟩:=aA hr
 obtain⟨x8,h_5,hr⟩:=aA hr
 obtain⟨q_2,h_7,hr⟩:=aA hr
 refine aQI mixed [120,121] [] [[0,1,2,3,4]] ?_
 refine zz ?_
 refine xu (aAc h_3)<|xu (aFt h_5) ?_
 refine zz ?_
 obtain rfl:=sj hr
 exact eW Tryz.results108 aW (zG [])
theorem aAw {N:Nat}{va ve:List Int}{r:(List Int)}(hr:rT N va ve=some r):
  Vm.Fn Tryz.prog 110 [] [(.agg (va.map (eI .u64))),(.agg (ve.map (eI .u64)))] (.agg (r.map (eI .u64))) []:=by
 refine zf Tryz.func110 Tryz.ntmps110 ?_
 unfold rT at hr
 obtain⟨x9,h_1,hr⟩:=aA hr
 obtain⟨q,h_2,hr⟩:=aA hr
 refine zz ?_
 refine xp (mJ h_1) ?_
 obtain⟨q_1,h_3,hr⟩:=aA hr
 obtain⟨bX,h_4,hr⟩:=aA hr
 refine zz ?_
 refine xp (aIj h_4) ?_
 refine zz ?_
 refine aQx fun K1 hK1 hG1=> ?_
 have J1: ∀(l1:List Int),v5 N l1=some r→K1 (aE 37 [(4,(.ptr 0 0)),(5,(.ptr 1 0))]) [some ⟨96,(aQs 4 0).map (eI .u64)⟩,some ⟨96,l1.map (eI .u64)⟩]:=by
  intro l1 hr
  unfold v5 at hr
  refine hK1 _ _ ?_
  obtain⟨q_2,h_5,hr⟩:=aA hr
  refine zz ?_
  obtain rfl:=sj hr
  exact eW Tryz.results110 aW (zG [])
 obtain⟨a9,hL2,hr⟩:=aA hr
 refine zz ?_
 refine aQw<|aQF (fun m s h=> ∃(cB:Int)(l3:List Int),jR N va ve bX m cB l3=some a9∧Ghost 0 s h (aE 37 [(2,(.ptr 0 0)),(3,(.ptr 1 0)),(4,(.ptr 2 0)),(5,(.ptr 3 0)),(6,(eI .i64 bX)),(12,(eI .i64 bX)),(13,(eI .i64 cB))]) [some ⟨96,va.map (eI .u64)⟩,some ⟨96,ve.map (eI .u64)⟩,some ⟨96,(aQs 4 0).map (eI .u64)⟩,some ⟨96,l3.map (eI .u64)⟩]) (n:=N) ⟨0,x9,hL2,(zG [0,1,2,3])⟩ (by rintro s h ⟨_,_,h0,_⟩;simp[jR]at h0) ?_
 rintro m2 s h ⟨cB,l3,hr2,hg⟩
 refine aQD hg ?_
 clear hg hL2
 rw[jR]at hr2
 refine zz ?_
 refine aQv ?_
 refine zk hr2 rfl (fun h6 hr2=> ?_) (fun h6 hr2=> ?_)
 ·refine zz ?_
  refine aQx fun K3 hK3 hG3=> ?_
  have J3: ∀(jS:List Int),pE N va ve bX cB (jR N va ve bX m2) jS=some a9→K3 (aE 37 [(2,(.ptr 0 0)),(3,(.ptr 1 0)),(4,(.ptr 2 0)),(5,(.ptr 3 0)),(6,(eI .i64 bX)),(12,(eI .i64 bX)),(13,(eI .i64 cB))]) [some ⟨96,va.map (eI .u64)⟩,some ⟨96,ve.map (eI .u64)⟩,some ⟨96,(aQs 4 0).map (eI .u64)⟩,some ⟨96,jS.map (eI .u64)⟩]:=by
   intro jS hr2
   unfold pE at hr2
   refine hK3 _ _ ?_
   refine zz ?_
   exact⟨aQr.wrap (cB+1),jS,hr2,(zG [0,1,2,3])⟩
  refine aQw ?_
  obtain⟨q_3,h_7,hr2⟩:=aA hr2
  obtain⟨bN,h_8,hr2⟩:=aA hr2
  obtain⟨q_4,h_9,hr2⟩:=aA hr2
  refine zz ?_
  refine xp (aAG h_8) ?_
  obtain⟨x25,h_10,hr2⟩:=aA hr2
  obtain⟨x29,h_11,hr2⟩:=aA hr2
  refine zz ?_
  refine zk hr2 rfl (fun h12 hr2=> ?_) (fun h12 hr2=> ?_)
  ·obtain⟨q_5,h_13,hr2⟩:=aA hr2
   obtain⟨fB,h_14,hr2⟩:=aA hr2
   obtain⟨q_6,h_15,hr2⟩:=aA hr2
   refine zz ?_
   refine xp (aAG h_14) ?_
   refine zz ?_
   exact hG3 _ _ _ _ (zG [0,1,2,3]) (J3 fB hr2)
  refine zz ?_
  exact hG3 _ _ _ _ (zG [0,1,2,3]) (J3 bN hr2)
 refine zz ?_
 obtain rfl:=sj hr2
 refine zz ?_
 exact hG1 _ _ _ _ (zG [2,3]) (J1 l3 hr)
theorem aES {N:Nat}{va:List Int}{r:Bool}(hr:mS N va=some r):
  Vm.Fn Tryz.prog 104 [] [(.agg (va.map (eI .u64)))] (eB r) []:=by
 refine zf Tryz.func104 Tryz.ntmps104 ?_
 unfold mS at hr
 refine zz ?_
 refine aQv ?_
 refine aQx fun K1 hK1 hG1=> ?_
 have J1: ∀(bX:Bool),jI N va bX=some r→K1 (aE 17 [(1,(.ptr 0 0)),(11,(eB bX))]) [some ⟨96,va.map (eI .u64)⟩]:=by
  intro bX hr
  unfold jI at hr
  refine hK1 _ _ ?_
  refine zk hr rfl (fun h1 hr=> ?_) (fun h1 hr=> ?_)
  ·refine zz ?_
   obtain rfl:=sj hr
   exact bK Tryz.results104 []
  refine zz ?_
  refine aQv ?_
  obtain⟨q,h_2,hr⟩:=aA hr
  obtain⟨cB,h_3,hr⟩:=aA hr
  obtain⟨bH,h_5,hr⟩:=aA hr
  obtain⟨x15,h_7,hr⟩:=aA hr
  obtain⟨q_1,h_9,hr⟩:=aA hr
  obtain⟨q_2,h_10,hr⟩:=aA hr
  refine aQI mixed [103,107,110] [] [[0,1,2,3,4,5]] ?_
  refine zz ?_
  refine xu (tO h_3)<|xu (aAw h_5)<|xu (mJ h_7) ?_
  refine zz ?_
  obtain rfl:=sj hr
  exact bK Tryz.results104 []
 obtain⟨q_3,h_11,hr⟩:=aA hr
 rcases aQu (va == [0,0,0,0])with h12|h12
 ·replace hr:=cU hr h12
  refine aQI mixed [119,120] [] [[0,1,2,3,4,5,6,7,8]] ?_
  refine zz ?_
  refine xw (v:=(.agg ([0,0,0,0].map (eI .u64)))) (cH rfl (lY bV kH rfl)) ?_
  refine zz ?_
  exact hG1 _ _ _ _ (zG [0]) (J1 true hr)
 replace hr:=cQ hr h12
 obtain⟨x8,h_13,hr⟩:=aA hr
 obtain⟨x9,h_15,hr⟩:=aA hr
 refine aQI mixed [119,120] [] [[0,1,2,3,4,5,6,7,8]] ?_
 refine zz ?_
 refine xw (v:=(.agg ([0,0,0,0].map (eI .u64)))) (cH rfl (lY bV kH rfl)) ?_
 refine zz ?_
 refine xu (aAc h_13)<|xu (qZ h_15) ?_
 refine zz ?_
 exact hG1 _ _ _ _ (zG [0]) (J1 (decide (0≤x9)) hr)
theorem aB8 {N:Nat}{p:List Int}{r:Bool}(hr:nX N p=some r):
  Vm.Fn Tryz.prog 88 [] [(.agg (p.map (eI .u64)))] (eB r) []:=by
 refine zf Tryz.func88 Tryz.ntmps88 ?_
 unfold nX at hr
 refine zz ?_
 refine aQx fun K1 hK1 hG1=> ?_
 have J1: ∀(x2:Bool),uR N x2=some r→K1 (aE 10 [(2,(eB x2))]) []:=by
  intro x2 hr
  unfold uR at hr
  refine hK1 _ _ ?_
  refine zz ?_
  obtain rfl:=sj hr
  exact bK Tryz.results88 []
 obtain⟨q,h_1,hr⟩:=aA hr
 obtain⟨x4,h_2,hr⟩:=aA hr
 obtain⟨q_1,h_4,hr⟩:=aA hr
 rcases aQu (!(p == x4))with h5|h5
 ·replace hr:=cU hr h5
  obtain⟨x8,h_6,hr⟩:=aA hr
  refine aQI mixed [103,104] [] [[0,1,2,3,4,5,6,7]] ?_
  refine zz ?_
  refine xu (mJ h_2) ?_
  refine zz ?_
  refine xu (aES h_6) ?_
  refine zz ?_
  exact hG1 _ _ _ _ (zG []) (J1 x8 hr)
 replace hr:=cQ hr h5
 refine aQI mixed [103,104] [] [[0,1,2,3,4,5,6,7]] ?_
 refine zz ?_
 refine xu (mJ h_2) ?_
 refine zz ?_
 exact hG1 _ _ _ _ (zG []) (J1 false hr)
theorem i7 {N:Nat}{va:List Int}{r:Bool}(hr:mA N va=some r):
  Vm.Fn Tryz.prog 105 [] [(.agg (va.map (eI .u64)))] (eB r) []:=by
 refine zf Tryz.func105 Tryz.ntmps105 ?_
 unfold mA at hr
 refine zz ?_
 refine aQv ?_
 obtain⟨q,h_1,hr⟩:=aA hr
 obtain⟨x4,h_2,hr⟩:=aA hr
 obtain⟨x5,h_4,hr⟩:=aA hr
 refine aQI mixed [107,119] [] [[0,1,2,3,4]] ?_
 refine zz ?_
 refine xu (tO h_2)<|xu (qZ h_4) ?_
 refine zz ?_
 obtain rfl:=sj hr
 exact bK Tryz.results105 []
theorem aFo {N:Nat}{b:List Int}{r:(List Int)×(List Int)×Int}(hr:oY N b=some r):
  Vm.Fn Tryz.prog 89 [] [(.row none 1 (b.map (eI .u8)))] (.tup [(.agg (cA (eI .u64) r.1 (cA (eI .u64) r.2.1 []))),(eI .i64 r.2.2)]) []:=by
 refine zf Tryz.func89 Tryz.ntmps89 ?_
 unfold oY at hr
 refine zz ?_
 refine xw (v:=(.ptr 0 0)) (h':=[some ⟨100,(cA (eI .u64) (aQs 4 0) (cA (eI .u64) (aQs 4 0) []))⟩]) (iL nT rfl rfl rfl) ?_
 refine zz ?_
 refine aQv ?_
 refine zz ?_
 refine zk hr rfl (fun h1 hr=> ?_) (fun h1 hr=> ?_)
 ·refine zz ?_
  refine xw (v:=(.agg (cA (eI .u64) (aQs 4 0) (cA (eI .u64) (aQs 4 0) [])))) (cH rfl (aA6 nT aBv rfl)) ?_
  refine zz ?_
  obtain rfl:=sj hr
  exact mZ Tryz.results89 aW aW (zG [])
 refine zz ?_
 refine aQv ?_
 obtain⟨cC,h_2,hr⟩:=aA hr
 obtain⟨bX,h_3,hr⟩:=aA hr
 obtain⟨cB,h_4,hr⟩:=aA hr
 obtain⟨x15,h_6,hr⟩:=aA hr
 obtain⟨x16,h_7,hr⟩:=aA hr
 obtain⟨x18,h_8,hr⟩:=aA hr
 obtain⟨q,h_10,hr⟩:=aA hr
 obtain⟨q_1,h_11,hr⟩:=aA hr
 refine aQI mixed [87] [] [[0,1,2,3,4,5,6,7,8,9,10,11,12]] ?_
 refine zz ?_
 refine xw (v:=(.eptr [.agg (bX.map (eI .u8))] 0 0)) (aBw rfl (apR (E:=(eI .u8)) y7 (fun _=>rfl) zl h_3))<|xw (v:=(.agg (bX.map (eI .u8)))) (bO rfl (aG0 (E:=(eI .u8)) (l:=bX) y7 rfl (bW h_3)))<|xu (o9 h_4) ?_
 refine zz ?_
 refine xw (v:=(.eptr [.agg (x16.map (eI .u8))] 0 0)) (aBw rfl (apR (E:=(eI .u8)) y7 (fun _=>rfl) zl h_7))<|xw (v:=(.agg (x16.map (eI .u8)))) (bO rfl (aG0 (E:=(eI .u8)) (l:=x16) y7 rfl (bW h_7)))<|xu (o9 h_8)<|xw (v:=(.agg (cA (eI .u64) cB (cA (eI .u64) x18 [])))) (cH rfl (aNW (ps':=[(0,(.agg (cA (eI .u64) cB []))),(1,(.agg (cA (eI .u64) x18 [])))]) (by simp only[aBg (l:=cB) (aV h_10),aBg (l:=x18) (aV h_11)]) (aA6 nT aBv rfl)))<|xw (v:=(.ptr 1 0)) (h':=[some ⟨100,(cA (eI .u64) (aQs 4 0) (cA (eI .u64) (aQs 4 0) []))⟩,some ⟨100,(cA (eI .u64) (aQs 4 0) (cA (eI .u64) (aQs 4 0) []))⟩]) (iL nT rfl rfl rfl) ?_
 refine zz ?_
 refine aQv ?_
 refine aQx fun K1 hK1 hG1=> ?_
 have J1: ∀(x29:Bool),mF N cB x18 x29=some r→K1 (aE 32 [(2,(.ptr 0 0)),(4,(.ptr 1 0)),(29,(eB x29))]) [some ⟨100,(cA (eI .u64) (aQs 4 0) (cA (eI .u64) (aQs 4 0) []))⟩,some ⟨100,(cA (eI .u64) cB (cA (eI .u64) x18 []))⟩]:=by
  intro x29 hr
  unfold mF at hr
  refine hK1 _ _ ?_
  refine zk hr rfl (fun h12 hr=> ?_) (fun h12 hr=> ?_)
  ·refine zz ?_
   refine xw (v:=(.agg (cA (eI .u64) (aQs 4 0) (cA (eI .u64) (aQs 4 0) [])))) (cH rfl (aA6 nT aBv rfl)) ?_
   refine zz ?_
   obtain rfl:=sj hr
   exact mZ Tryz.results89 aW aW (zG [])
  refine zz ?_
  obtain rfl:=sj hr
  exact mZ Tryz.results89 aW aW (zG [])
 obtain⟨bN,h_13,hr⟩:=aA hr
 rcases aQu (!bN)with h14|h14
 ·replace hr:=cU hr h14
  refine xr ?_
  refine zz ?_
  refine xp (i7 h_13) ?_
  refine zz ?_
  exact hG1 _ _ _ _ (zG [0,1]) (J1 true hr)
 replace hr:=cQ hr h14
 obtain⟨x27,h_15,hr⟩:=aA hr
 refine xr ?_
 refine zz ?_
 refine xp (i7 h_13) ?_
 refine zz ?_
 refine wQ (v:=(eB x27)) (h':=[some ⟨100,(cA (eI .u64) (aQs 4 0) (cA (eI .u64) (aQs 4 0) []))⟩,some ⟨100,(cA (eI .u64) cB (cA (eI .u64) x18 []))⟩]) rfl rfl h14 rfl (Vm.Fn.pure (i7 h_15) zR rfl) ?_
 refine zz ?_
 exact hG1 _ _ _ _ (zG [0,1]) (J1 (!x27) hr)
theorem aFs {N:Nat}{ve:List Int}{r:(List Int)}(hr:q6 N ve=some r):
  Vm.Fn Tryz.prog 109 [] [(.agg (ve.map (eI .u64)))] (.agg (r.map (eI .u64))) []:=by
 refine zf Tryz.func109 Tryz.ntmps109 ?_
 unfold q6 at hr
 refine zz ?_
 refine aQv ?_
 obtain⟨x3,h_1,hr⟩:=aA hr
 obtain⟨q,h_3,hr⟩:=aA hr
 obtain⟨x5,h_4,hr⟩:=aA hr
 obtain⟨q_1,h_6,hr⟩:=aA hr
 refine aQI mixed [103,110] [] [[0,1,2,3]]<|xu (mJ h_1) ?_
 refine zz ?_
 refine xu (aAw h_4) ?_
 refine zz ?_
 obtain rfl:=sj hr
 exact eW Tryz.results109 aW (zG [])
theorem aB9 {N:Nat}{va:List Int}{r:(List Int)}(hr:qN N va=some r):
  Vm.Fn Tryz.prog 126 [] [(.agg (va.map (eI .u64)))] (.agg (r.map (eI .u8))) []:=by
 refine zf Tryz.func126 Tryz.ntmps126 ?_
 unfold qN at hr
 refine zz ?_
 refine aQx fun K1 hK1 hG1=> ?_
 have J1: ∀(l1:List Int),uP N l1=some r→K1 (aE 23 [(2,(.ptr 0 0)),(3,(.ptr 1 0))]) [some ⟨25,(aQs 32 0).map (eI .u8)⟩,some ⟨25,l1.map (eI .u8)⟩]:=by
  intro l1 hr
  unfold uP at hr
  refine hK1 _ _ ?_
  obtain⟨q,h_1,hr⟩:=aA hr
  refine zz ?_
  obtain rfl:=sj hr
  exact eW Tryz.results126 aW (zG [])
 obtain⟨a9,hL2,hr⟩:=aA hr
 refine zz ?_
 refine aQw<|aQF (fun m s h=> ∃(x5:Int)(l2:List Int),iX N va m x5 l2=some a9∧Ghost 0 s h (aE 23 [(1,(.ptr 0 0)),(2,(.ptr 1 0)),(3,(.ptr 2 0)),(5,(eI .i64 x5))]) [some ⟨96,va.map (eI .u64)⟩,some ⟨25,(aQs 32 0).map (eI .u8)⟩,some ⟨25,l2.map (eI .u8)⟩]) (n:=N) ⟨0,aQs 32 0,hL2,(zG [0,1,2])⟩ (by rintro s h ⟨_,_,h0,_⟩;simp[iX]at h0) ?_
 rintro m2 s h ⟨x5,l2,hr2,hg⟩
 refine aQD hg ?_
 clear hg hL2
 rw[iX]at hr2
 refine zz ?_
 refine aQv ?_
 refine zk hr2 rfl (fun h2 hr2=> ?_) (fun h2 hr2=> ?_)
 ·refine zz ?_
  refine aQv<|aQw ?_
  obtain⟨dL,h_3,hr2⟩:=aA hr2
  obtain⟨x18,h_4,hr2⟩:=aA hr2
  obtain⟨bI,h_5,hr2⟩:=aA hr2
  refine zz ?_
  exact⟨aQr.wrap (x5+1),l2.set (aQz x5) (IntKind.u8.wrap x18),hr2,(zG [0,1,2])⟩
 refine zz ?_
 obtain rfl:=sj hr2
 refine zz ?_
 exact hG1 _ _ _ _ (zG [1,2]) (J1 l2 hr)
theorem aId {N:Nat}{parts:List (List Int)}{r:(List Int)}(hr:uZ N parts=some r):
  Vm.Fn Tryz.prog 125 [] [(.row none 32 (parts.map (eA (eI .u8))))] (.sl 0 0 r.length 1 false) [some ⟨5,r.map (eI .u8)⟩]:=by
 refine zf Tryz.func125 Tryz.ntmps125 ?_
 unfold uZ at hr
 refine zz ?_
 refine aQx fun K1 hK1 hG1=> ?_
 have J1: ∀(l0:List Int),aA5 N l0=some r→K1 (aE 17 [(3,(.sl 0 0 l0.length 1 false))]) [some ⟨5,l0.map (eI .u8)⟩]:=by
  intro l0 hr
  unfold aA5 at hr
  refine hK1 _ _ ?_
  refine zz ?_
  obtain rfl:=sj hr
  exact bK Tryz.results125 [0]
 obtain⟨a9,hL2,hr⟩:=aA hr
 refine zz ?_
 refine aQw<|aQF (fun m s h=> ∃(x8:Int)(aL:List Int),mC N parts m x8 aL=some a9∧Ghost 0 s h (aE 17 [(3,(.sl 0 0 aL.length 1 false)),(6,(.row none 32 (parts.map (eA (eI .u8))))),(7,(eI .i64 (parts.length:Int))),(8,(eI .i64 x8))]) [some ⟨5,aL.map (eI .u8)⟩]) (n:=N) ⟨0,[],hL2,(zW 5 [0])⟩ (by rintro s h ⟨_,_,h0,_⟩;simp[mC]at h0) ?_
 rintro m2 s h ⟨x8,aL,hr2,hg⟩
 refine aQD hg ?_
 clear hg hL2
 rw[mC]at hr2
 refine zz ?_
 refine aQv ?_
 refine zk hr2 rfl (fun h1 hr2=> ?_) (fun h1 hr2=> ?_)
 ·refine zz ?_
  refine aQv<|aQw ?_
  obtain⟨cC,h_2,hr2⟩:=aA hr2
  obtain⟨q,h_3,hr2⟩:=aA hr2
  refine zz ?_
  refine xw (v:=(.agg (cC.map (eI .u8)))) (bO rfl (aPY (E:=(eI .u8)) y7 rfl h_2 (aV h_3))) ?_
  obtain⟨bH,h_4,hr2⟩:=aA hr2
  refine zz ?_
  exact⟨aQr.wrap (x8+1),bH,hr2,(zG [2])⟩
 refine zz ?_
 obtain rfl:=sj hr2
 refine zz ?_
 exact hG1 _ _ _ _ (zG [0]) (J1 aL hr)
theorem aGu {N:Nat}{tag:ByteArray}{b:List Int}{r:(List Int)}(hr:wF N tag b=some r):
  Vm.Fn Tryz.prog 124 [] [(eS tag),(.row none 1 (b.map (eI .u8)))] (.agg (r.map (eI .u8))) []:=by
 refine zf Tryz.func124 Tryz.ntmps124 ?_
 unfold wF at hr
 obtain⟨x7,h_1,hr⟩:=aA hr
 obtain⟨x8,h_2,hr⟩:=aA hr
 obtain⟨q,h_3,hr⟩:=aA hr
 refine zz ?_
 refine aN2 (h':=[some ⟨25,(aQs 32 0).map (eI .u8)⟩,some ⟨5,x7.map (eI .u8)⟩]) rfl ti9 cI dA h_1 rfl rfl<|zcL (aBF h_2) [] [1] ?_
 refine zz ?_
 refine aQv ?_
 obtain⟨cB,h_4,hr⟩:=aA hr
 obtain⟨bH,h_6,hr⟩:=aA hr
 obtain⟨q_1,h_8,hr⟩:=aA hr
 refine aQI mixed [] [58,69] [[0,1,2],[3,4,5,6]] ?_
 refine zz ?_
 refine⟨_,_,(zv 2), ?_⟩
 refine zz ?_
 refine zgL (aEU h_4) [] [3] ?_
 refine zgL (aBF h_6) [] [4] ?_
 refine zz ?_
 obtain rfl:=sj hr
 exact eW Tryz.results124 aW (zG [])
theorem aH7 {N:Nat}{va b:List Int}{r:(List Int)×Bool}(hr:sS N va b=some r):
  Vm.Fn Tryz.prog 138 [] [(.agg (va.map (eI .u64))),(.agg (b.map (eI .u64)))] (.tup [(.agg (r.1.map (eI .u64))),(eB r.2)]) []:=by
 refine zf Tryz.func138 Tryz.ntmps138 ?_
 unfold sS at hr
 refine zz ?_
 refine aQx fun K1 hK1 hG1=> ?_
 have J1: ∀(iY:Int)(l1:List Int),t9 N iY l1=some r→K1 (aE 29 [(4,(.ptr 0 0)),(6,(.ptr 1 0)),(7,(eI .u64 iY))]) [some ⟨96,(aQs 4 0).map (eI .u64)⟩,some ⟨96,l1.map (eI .u64)⟩]:=by
  intro iY l1 hr
  unfold t9 at hr
  refine hK1 _ _ ?_
  obtain⟨q,h_1,hr⟩:=aA hr
  refine zz ?_
  obtain rfl:=sj hr
  exact mZ Tryz.results138 aW aW (lI [])
 obtain⟨a9,hL2,hr⟩:=aA hr
 refine zz ?_
 refine aQw<|aQF (fun m s h=> ∃(carry_1 x9:Int)(l3:List Int),iW N va b m carry_1 x9 l3=some a9∧Ghost 0 s h (aE 29 [(2,(.ptr 0 0)),(3,(.ptr 1 0)),(4,(.ptr 2 0)),(6,(.ptr 3 0)),(7,(eI .u64 carry_1)),(9,(eI .i64 x9))]) [some ⟨96,va.map (eI .u64)⟩,some ⟨96,b.map (eI .u64)⟩,some ⟨96,(aQs 4 0).map (eI .u64)⟩,some ⟨96,l3.map (eI .u64)⟩]) (n:=N) ⟨0,0,aQs 4 0,hL2,(zG [0,1,2,3])⟩ (by rintro s h ⟨_,_,_,h0,_⟩;simp[iW]at h0) ?_
 rintro m2 s h ⟨carry_1,x9,l3,hr2,hg⟩
 refine aQD hg ?_
 clear hg hL2
 rw[iW]at hr2
 refine zz ?_
 refine aQv ?_
 refine zk hr2 rfl (fun h2 hr2=> ?_) (fun h2 hr2=> ?_)
 ·refine zz ?_
  refine aQv<|aQw ?_
  obtain⟨x15,h_3,hr2⟩:=aA hr2
  obtain⟨x18,h_4,hr2⟩:=aA hr2
  obtain⟨dM,h_5,hr2⟩:=aA hr2
  obtain⟨dO,h_7,hr2⟩:=aA hr2
  refine zz ?_
  refine aQI mixed [128] [] [[0,1,2,3,4,5,6,7,8,9,10,11,12,13,14]] ?_
  refine zz ?_
  refine xu (jB h_5) ?_
  refine zz ?_
  exact⟨dM.2,aQr.wrap (x9+1),l3.set (aQz x9) dM.1,hr2,(zG [0,1,2,3])⟩
 refine zz ?_
 obtain rfl:=sj hr2
 refine zz ?_
 exact hG1 _ _ _ _ (zG [2,3]) (J1 carry_1 l3 hr)
theorem aFD {N:Nat}{va b vm:List Int}{r:(List Int)}(hr:uA N va b vm=some r):
  Vm.Fn Tryz.prog 137 [] [(.agg (va.map (eI .u64))),(.agg (b.map (eI .u64))),(.agg (vm.map (eI .u64)))] (.agg (r.map (eI .u64))) []:=by
 refine zf Tryz.func137 Tryz.ntmps137 ?_
 unfold uA at hr
 refine zz ?_
 refine aQv ?_
 obtain⟨q,h_1,hr⟩:=aA hr
 refine zz ?_
 refine xw (v:=(.agg ([0,0,0,0].map (eI .u64)))) (cH rfl (lY bV kH rfl)) ?_
 refine zz ?_
 refine zk hr rfl (fun h2 hr=> ?_) (fun h2 hr=> ?_)
 ·refine zz ?_
  refine xw (v:=(.agg ([0,0,0,0].map (eI .u64)))) (cH rfl (lY bV kH rfl)) ?_
  refine zz ?_
  obtain rfl:=sj hr
  exact eW Tryz.results137 aW (zG [])
 refine zz ?_
 refine aQv ?_
 obtain⟨q_1,h_3,hr⟩:=aA hr
 obtain⟨x16,h_4,hr⟩:=aA hr
 obtain⟨q_2,h_6,hr⟩:=aA hr
 obtain⟨x19,h_7,hr⟩:=aA hr
 obtain⟨bI,h_9,hr⟩:=aA hr
 obtain⟨q_3,h_11,hr⟩:=aA hr
 refine aQI mixed [133,138] [] [[0,1,2,3,4,5,6,7,8,9,10,11,12]] ?_
 refine zz ?_
 refine xu (wV h_4) ?_
 refine zz ?_
 refine xu (wV h_7)<|xu (aH7 h_9) ?_
 refine zz ?_
 refine aQx fun K1 hK1 hG1=> ?_
 have J1: ∀(l1:List Int),kS N l1=some r→K1 (aE 37 [(6,(.ptr 0 0)),(7,(.ptr 1 0))]) [some ⟨96,(aQs 4 0).map (eI .u64)⟩,some ⟨96,l1.map (eI .u64)⟩]:=by
  intro l1 hr
  unfold kS at hr
  refine hK1 _ _ ?_
  obtain⟨q_4,h_12,hr⟩:=aA hr
  refine zz ?_
  obtain rfl:=sj hr
  exact eW Tryz.results137 aW (zG [])
 refine aQx fun K2 hK2 hG2=> ?_
 have J2: ∀(x29:Bool),kO N vm bI x29=some r→K2 (aE 37 [(5,(.ptr 0 0)),(6,(.ptr 1 0)),(7,(.ptr 2 0)),(29,(eB x29))]) [some ⟨96,vm.map (eI .u64)⟩,some ⟨96,(aQs 4 0).map (eI .u64)⟩,some ⟨96,bI.1.map (eI .u64)⟩]:=by
  intro x29 hr
  unfold kO at hr
  refine hK2 _ _ ?_
  refine zk hr rfl (fun h13 hr=> ?_) (fun h13 hr=> ?_)
  ·obtain⟨lC,h_14,hr⟩:=aA hr
   obtain⟨q_5,h_15,hr⟩:=aA hr
   refine zz ?_
   refine xp (aA7 h_14) ?_
   refine zz ?_
   exact hG1 _ _ _ _ (zG [1,2]) (J1 lC.1 hr)
  refine zz ?_
  exact hG1 _ _ _ _ (zG [1,2]) (J1 bI.1 hr)
 rcases aQu bI.2 with h16|h16
 ·replace hr:=cU hr h16
  refine xr ?_
  refine zz ?_
  exact hG2 _ _ _ _ (zG [2,3,4]) (J2 true hr)
 replace hr:=cQ hr h16
 obtain⟨x27,h_17,hr⟩:=aA hr
 refine xr ?_
 refine zz ?_
 refine wQ (v:=(eI .i64 x27)) (h':=[some ⟨96,va.map (eI .u64)⟩,some ⟨96,b.map (eI .u64)⟩,some ⟨96,vm.map (eI .u64)⟩,some ⟨96,(aQs 4 0).map (eI .u64)⟩,some ⟨96,bI.1.map (eI .u64)⟩]) rfl rfl h16 rfl (Vm.Fn.pure (qZ h_17) zR rfl) ?_
 refine zz ?_
 exact hG2 _ _ _ _ (zG [2,3,4]) (J2 (decide (0≤x27)) hr)
theorem aCH {N:Nat}{va b:List Int}{r:(List Int)}(hr:lM N va b=some r):
  Vm.Fn Tryz.prog 135 [] [(.agg (va.map (eI .u64))),(.agg (b.map (eI .u64)))] (.agg (r.map (eI .u64))) []:=by
 refine zf Tryz.func135 Tryz.ntmps135 ?_
 unfold lM at hr
 refine zz ?_
 refine aQv ?_
 obtain⟨q,h_1,hr⟩:=aA hr
 obtain⟨q_1,h_2,hr⟩:=aA hr
 obtain⟨x7,h_3,hr⟩:=aA hr
 obtain⟨x8,h_5,hr⟩:=aA hr
 obtain⟨q_2,h_7,hr⟩:=aA hr
 refine aQI mixed [107,137] [] [[0,1,2,3,4]] ?_
 refine zz ?_
 refine xu (tO h_3)<|xu (aFD h_5) ?_
 refine zz ?_
 obtain rfl:=sj hr
 exact eW Tryz.results135 aW (zG [])
theorem aEr {N:Nat}{vh:List Int}{r:(List Int)}(hr:nB N vh=some r):
  Vm.Fn Tryz.prog 123 [] [(.agg (vh.map (eI .u8)))] (.agg (r.map (eI .u64))) []:=by
 refine zf Tryz.func123 Tryz.ntmps123 ?_
 unfold nB at hr
 obtain⟨q,h_1,hr⟩:=aA hr
 obtain⟨x4,h_2,hr⟩:=aA hr
 obtain⟨x6,h_3,hr⟩:=aA hr
 obtain⟨q_1,h_4,hr⟩:=aA hr
 refine zz ?_
 refine xp (o9 h_2)<|xw (v:=(.agg ([0,0,0,0].map (eI .u64)))) (cH rfl (lY bV kH rfl))<|xp (aCH h_3) ?_
 refine zz ?_
 obtain rfl:=sj hr
 exact eW Tryz.results123 aW (zG [])
theorem aDg {N:Nat}{vr p vm:List Int}{r:(List Int)}(hr:kP N vr p vm=some r):
  Vm.Fn Tryz.prog 111 [] [(.agg (vr.map (eI .u64))),(.agg (p.map (eI .u64))),(.agg (vm.map (eI .u8)))] (.agg (r.map (eI .u64))) []:=by
 refine zf Tryz.func111 Tryz.ntmps111 ?_
 unfold kP at hr
 refine zz ?_
 refine aQv ?_
 obtain⟨q,h_1,hr⟩:=aA hr
 obtain⟨x8,h_2,hr⟩:=aA hr
 obtain⟨q_1,h_4,hr⟩:=aA hr
 obtain⟨cC,h_5,hr⟩:=aA hr
 obtain⟨q_2,h_7,hr⟩:=aA hr
 obtain⟨q_3,h_8,hr⟩:=aA hr
 obtain⟨q_4,h_9,hr⟩:=aA hr
 obtain⟨cB,h_10,hr⟩:=aA hr
 obtain⟨bH,h_12,hr⟩:=aA hr
 obtain⟨x15,h_14,hr⟩:=aA hr
 obtain⟨q_5,h_16,hr⟩:=aA hr
 refine aQI mixed [123,126] [124,125] [[0,1,2,3,4,5],[6,7,8,9]] ?_
 refine zz ?_
 refine xu (aB9 h_2) ?_
 refine zz ?_
 refine xu (aB9 h_5) ?_
 refine zz ?_
 refine xw (v:=(.sl 4 0 3 32 true)) (h':=[some ⟨96,vr.map (eI .u64)⟩,some ⟨96,p.map (eI .u64)⟩,some ⟨25,vm.map (eI .u8)⟩,some ⟨96,(aQs 4 0).map (eI .u64)⟩,some ⟨25,[x8,cC,vm].flatMap (aBt (eI .u8))⟩]) (qM rfl (aO0 (ps':=[(0,.agg (aBt (eI .u8) x8)),(1,.agg (aBt (eI .u8) cC)),(2,.agg (aBt (eI .u8) vm))]) (by simp only[aLh,aBt,uY (l:=x8) (aV h_8),uY (l:=cC) (aV h_9),uY (l:=vm) (aV h_7)]) (aCU (len:=3) (C:=(aBt (eI .u8))) (xs:=[x8,cC,vm]) (K:=32) (fun _=>rfl) (fun _=>rfl) aL2 y7 ⟨zl,zl,zl⟩ rfl rfl rfl rfl rfl rfl))) ?_
 refine zz ?_
 refine⟨_,_,(Ghost.conv (fr':=[(0,(.agg (vr.map (eI .u64)))),(1,(.agg (p.map (eI .u64)))),(2,(.agg (vm.map (eI .u8)))),(3,(.ptr 0 0)),(4,(.ptr 1 0)),(5,(.ptr 2 0)),(6,(.ptr 3 0)),(7,(.agg (vr.map (eI .u64)))),(8,(.agg (x8.map (eI .u8)))),(9,(.agg (p.map (eI .u64)))),(10,(.agg (cC.map (eI .u8)))),(11,(.agg (vm.map (eI .u8)))),(12,(.row none 32 ([x8,cC,vm].map (eA (eI .u8)))))]) (h':=[some ⟨96,vr.map (eI .u64)⟩,some ⟨96,p.map (eI .u64)⟩,some ⟨25,vm.map (eI .u8)⟩,some ⟨96,(aQs 4 0).map (eI .u64)⟩,none]) (aQE rfl (aQy (aH rfl)) (aQE rfl (aQy (aH rfl)) (aQE rfl (aQy (aH rfl)) (aQE rfl (aQy (aH rfl)) (aQE rfl (aQy (aH rfl)) (aQE rfl (aQy (aH rfl)) (aQE rfl (aQy (aH rfl)) (aQE rfl (aQy (aH rfl)) (aQE rfl (aQy (aH rfl)) (aQE rfl (aQy (aH rfl)) (aQE rfl (aQy (aH rfl)) (aQE rfl (aQy (aH rfl)) (aQE rfl (Conv.rowKA (C:=(aBt (eI .u8))) (E:=(eI .u8)) (fun _=>rfl) (fun _=>rfl) (fun _=>rfl) (aQM.2 ⟨uY (aV h_8),aQM.2 ⟨uY (aV h_9),aQM.2 ⟨uY (aV h_7),List.forall_mem_nil _⟩⟩⟩) (aH rfl) rfl rfl rfl) FCv.nil))))))))))))) (aQQ (aQO (aH rfl)) (all_map (fun _=>rfl) _) (aQQ (aQO (aH rfl)) (all_map (fun _=>rfl) _) (aQQ (aQO (aH rfl)) (all_map (fun _=>rfl) _) (aQQ (aQO (aH rfl)) (all_map (fun _=>rfl) _) (HCv.dead HCv.nil)))))), ?_⟩
 refine zg (aId h_10) [] ?_
 refine zgL (aGu h_12) [] [5] ?_
 refine xu (aEr h_14) ?_
 refine zz ?_
 obtain rfl:=sj hr
 exact eW Tryz.results111 aW (zG [])
theorem aEW {N:Nat}{p vm s_E s_S:List Int}{r:Bool}(hr:oX N p vm s_E s_S=some r):
  Vm.Fn Tryz.prog 90 [] [(.agg (p.map (eI .u64))),(.agg (vm.map (eI .u8))),(.agg (cA (eI .u64) s_E (cA (eI .u64) s_S [])))] (eB r) []:=by
 refine zf Tryz.func90 Tryz.ntmps90 ?_
 unfold oX at hr
 refine zz ?_
 refine aQv ?_
 refine aQx fun K1 hK1 hG1=> ?_
 have J1: ∀(dO:Bool),g8 N p vm s_E s_S dO=some r→K1 (aE 46 [(3,(.ptr 0 0)),(4,(.ptr 1 0)),(5,(.ptr 2 0)),(24,(eB dO))]) [some ⟨96,p.map (eI .u64)⟩,some ⟨25,vm.map (eI .u8)⟩,some ⟨100,(cA (eI .u64) s_E (cA (eI .u64) s_S []))⟩]:=by
  intro dO hr
  unfold g8 at hr
  refine hK1 _ _ ?_
  refine zk hr rfl (fun h1 hr=> ?_) (fun h1 hr=> ?_)
  ·refine zz ?_
   obtain rfl:=sj hr
   exact bK Tryz.results90 []
  refine zz ?_
  refine aQv ?_
  obtain⟨x26,h_2,hr⟩:=aA hr
  obtain⟨q,h_4,hr⟩:=aA hr
  obtain⟨x29,h_5,hr⟩:=aA hr
  obtain⟨q_1,h_7,hr⟩:=aA hr
  refine aQI mixed [106,107] [] [[0,1,2,3,4,5,6,7,8,9]]<|xu (tO h_2) ?_
  refine zz ?_
  refine xu (aA7 h_5) ?_
  refine zz ?_
  refine aQv ?_
  obtain⟨q_2,h_8,hr⟩:=aA hr
  obtain⟨fB,h_9,hr⟩:=aA hr
  obtain⟨q_3,h_11,hr⟩:=aA hr
  obtain⟨x37,h_12,hr⟩:=aA hr
  obtain⟨x38,h_14,hr⟩:=aA hr
  obtain⟨q_4,h_16,hr⟩:=aA hr
  refine aQI mixed [108,109,110] [] [[0,1,2,3,4,5,6,7,8]] ?_
  refine zz ?_
  refine xu (aFs h_9) ?_
  refine zz ?_
  refine xu (aAw h_12)<|xu (aAG h_14) ?_
  refine zz ?_
  refine aQv ?_
  obtain⟨q_5,h_17,hr⟩:=aA hr
  obtain⟨x44,h_18,hr⟩:=aA hr
  obtain⟨q_6,h_20,hr⟩:=aA hr
  refine aQI mixed [111] [] [[0,1,2,3,4,5,6,7]] ?_
  refine zz ?_
  refine xu (aDg h_18) ?_
  refine zz ?_
  obtain rfl:=sj hr
  exact bK Tryz.results90 []
 obtain⟨q_7,h_21,hr⟩:=aA hr
 obtain⟨dL,h_22,hr⟩:=aA hr
 rcases aQu (!dL)with h23|h23
 ·replace hr:=cU hr h23
  refine xr ?_
  refine zz ?_
  refine xp (i7 h_22) ?_
  refine zz ?_
  refine xX rfl<|xX rfl<|xX rfl ?_
  refine zz ?_
  exact hG1 _ _ _ _ (zG [0,1,2]) (J1 true hr)
 replace hr:=cQ hr h23
 obtain⟨q_8,h_24,hr⟩:=aA hr
 obtain⟨x17,h_25,hr⟩:=aA hr
 rcases aQu (!x17)with h26|h26
 ·replace hr:=cU hr h26
  refine xr ?_
  refine zz ?_
  refine xp (i7 h_22) ?_
  refine zz ?_
  refine wQ (v:=(eB x17)) (h':=[some ⟨96,p.map (eI .u64)⟩,some ⟨25,vm.map (eI .u8)⟩,some ⟨100,(cA (eI .u64) s_E (cA (eI .u64) s_S []))⟩]) rfl rfl h23 rfl (Vm.Fn.pure (i7 h_25) zR rfl) ?_
  refine zz ?_
  exact hG1 _ _ _ _ (zG [0,1,2]) (J1 true hr)
 replace hr:=cQ hr h26
 obtain⟨q_9,h_27,hr⟩:=aA hr
 obtain⟨bN,h_28,hr⟩:=aA hr
 refine xr ?_
 refine zz ?_
 refine xp (i7 h_22) ?_
 refine zz ?_
 refine wQ (v:=(eB x17)) (h':=[some ⟨96,p.map (eI .u64)⟩,some ⟨25,vm.map (eI .u8)⟩,some ⟨100,(cA (eI .u64) s_E (cA (eI .u64) s_S []))⟩]) rfl rfl h23 rfl (Vm.Fn.pure (i7 h_25) zR rfl) ?_
 refine zz ?_
 refine wQ (v:=(eB bN)) (h':=[some ⟨96,p.map (eI .u64)⟩,some ⟨25,vm.map (eI .u8)⟩,some ⟨100,(cA (eI .u64) s_E (cA (eI .u64) s_S []))⟩]) rfl rfl h26 rfl (Vm.Fn.pure (aB8 h_28) zR rfl) ?_
 refine zz ?_
 exact hG1 _ _ _ _ (zG [0,1,2]) (J1 (!bN) hr)
theorem aAk {N:Nat}{aB:List Int}{aD aI:Int}{aF:List (List Int)}{aC:List aG}{aP:Int}{key yH:List Int}{r:Int}(hr:cE N aB aD aI aF aC aP key yH=some r):
  Vm.Fn Tryz.prog 72 [some ⟨56,(bJ (eI .u8) aB [(eI .i64 aD),(eI .i64 aI),(.sl 1 0 aF.length 1 false),(.sl 2 0 aC.length 2 true),(eI .i64 aP)])⟩,some ⟨31,aF.map (eL 1 (eI .u8))⟩,some ⟨73,aC.flatMap aM⟩] [(.ptr 0 0),(.row none 1 (key.map (eI .u8))),(.row none 1 (yH.map (eI .u8)))] (eI .i64 r) [some ⟨56,(bJ (eI .u8) aB [(eI .i64 aD),(eI .i64 aI),(.sl 1 0 aF.length 1 false),(.sl 2 0 aC.length 2 true),(eI .i64 aP)])⟩,some ⟨31,aF.map (eL 1 (eI .u8))⟩,some ⟨73,aC.flatMap aM⟩]:=by
 refine zf Tryz.func72 Tryz.ntmps72 ?_
 unfold cE at hr
 refine zz ?_
 refine aQv ?_
 refine zz ?_
 refine zk hr rfl (fun h1 hr=> ?_) (fun h1 hr=> ?_)
 ·refine zz ?_
  obtain rfl:=sj hr
  exact bK Tryz.results72 [0,1,2]
 obtain⟨bH,h_2,hr⟩:=aA hr
 obtain⟨x16,h_3,hr⟩:=aA hr
 obtain⟨q,h_4,hr⟩:=aA hr
 refine zz ?_
 refine xw (v:=(.eptr [.agg (bH.map (eI .u8))] 0 0)) (aBw rfl (apR (E:=(eI .u8)) y7 (fun _=>rfl) zl h_2))<|xw (v:=(.agg (bH.map (eI .u8)))) (bO rfl (aG0 (E:=(eI .u8)) (l:=bH) y7 rfl (bW h_2)))<|xp (o9 h_3) ?_
 refine zz ?_
 refine aQv ?_
 obtain⟨x18,h_5,hr⟩:=aA hr
 refine zz ?_
 refine xp (aB8 h_5) ?_
 refine zz ?_
 refine zk hr rfl (fun h6 hr=> ?_) (fun h6 hr=> ?_)
 ·refine zz ?_
  obtain rfl:=sj hr
  exact bK Tryz.results72 [0,1,2]
 refine zz ?_
 refine aQv ?_
 refine zz ?_
 refine zk hr rfl (fun h7 hr=> ?_) (fun h7 hr=> ?_)
 ·refine zz ?_
  obtain rfl:=sj hr
  exact bK Tryz.results72 [0,1,2]
 obtain⟨x25,h_8,hr⟩:=aA hr
 refine zz ?_
 refine xp (aFo h_8) ?_
 refine zz ?_
 refine xw (v:=(.ptr 4 0)) (h':=[some ⟨56,(bJ (eI .u8) aB [(eI .i64 aD),(eI .i64 aI),(.sl 1 0 aF.length 1 false),(.sl 2 0 aC.length 2 true),(eI .i64 aP)])⟩,some ⟨31,aF.map (eL 1 (eI .u8))⟩,some ⟨73,aC.flatMap aM⟩,some ⟨96,x16.map (eI .u64)⟩,some ⟨100,(cA (eI .u64) (aQs 4 0) (cA (eI .u64) (aQs 4 0) []))⟩]) (iL nT rfl rfl rfl) ?_
 refine zz ?_
 refine aQv ?_
 refine aQx fun K1 hK1 hG1=> ?_
 have J1: ∀(x40:Bool),eP N aB aD aI aF aC aP x40=some r→K1 (aE 41 [(40,(eB x40))]) [some ⟨56,(bJ (eI .u8) aB [(eI .i64 aD),(eI .i64 aI),(.sl 1 0 aF.length 1 false),(.sl 2 0 aC.length 2 true),(eI .i64 aP)])⟩,some ⟨31,aF.map (eL 1 (eI .u8))⟩,some ⟨73,aC.flatMap aM⟩]:=by
  intro x40 hr
  unfold eP at hr
  refine hK1 _ _ ?_
  refine zk hr rfl (fun h9 hr=> ?_) (fun h9 hr=> ?_)
  ·refine zz ?_
   obtain rfl:=sj hr
   exact bK Tryz.results72 [0,1,2]
  refine zz ?_
  obtain rfl:=sj hr
  exact bK Tryz.results72 [0,1,2]
 rcases aQu (x25.2.2 != 0)with h10|h10
 ·replace hr:=cU hr h10
  refine aQI mixed [90] [] [[0,1,2,3,4,5,6,7,8,9,10,11,12]] ?_
  refine zz ?_
  exact hG1 _ _ _ _ (zG [0,1,2]) (J1 true hr)
 replace hr:=cQ hr h10
 obtain⟨q_1,h_11,hr⟩:=aA hr
 obtain⟨x38,h_12,hr⟩:=aA hr
 refine aQI mixed [90] [] [[0,1,2,3,4,5,6,7,8,9,10,11,12]] ?_
 refine zz ?_
 refine xu (aEW h_12) ?_
 refine zz ?_
 exact hG1 _ _ _ _ (zG [0,1,2]) (J1 (!x38) hr)
theorem sH {N:Nat}{aB:List Int}{aD aI:Int}{aF:List (List Int)}{aC:List aG}{aP dS vn:Int}{r:Int×(List Int)×Int×Int×(List (List Int))×(List aG)×Int}(hr:fX N aB aD aI aF aC aP dS vn=some r):
  Vm.Fn Tryz.prog 59 [some ⟨56,(bJ (eI .u8) aB [(eI .i64 aD),(eI .i64 aI),(.sl 1 0 aF.length 1 false),(.sl 2 0 aC.length 2 true),(eI .i64 aP)])⟩,some ⟨31,aF.map (eL 1 (eI .u8))⟩,some ⟨73,aC.flatMap aM⟩] [(.ptr 0 0),(eI .i64 dS),(eI .i64 vn)] (eI .i64 r.1) [some ⟨56,(bJ (eI .u8) r.2.1 [(eI .i64 r.2.2.1),(eI .i64 r.2.2.2.1),(.sl 3 0 r.2.2.2.2.1.length 1 false),(.sl 4 0 r.2.2.2.2.2.1.length 2 true),(eI .i64 r.2.2.2.2.2.2)])⟩,none,none,some ⟨31,r.2.2.2.2.1.map (eL 1 (eI .u8))⟩,some ⟨73,r.2.2.2.2.2.1.flatMap aM⟩]:=by
 refine zf Tryz.func59 Tryz.ntmps59 ?_
 unfold fX at hr
 refine zz ?_
 refine aQv ?_
 obtain⟨fR,h_1,hr⟩:=aA hr
 refine aQI mixed [] [] [[0,1,2,3,4,5,6,7,8,9,10,11,12]] ?_
 refine zz ?_
 refine xw (v:=(.sl 1 (aQz (aQr.wrap ((aF.length:Int)-vn))*1) fR.length 1 false)) (b7 rfl rfl rfl (aN5 (l:=aF) rfl zE cI rfl rfl rfl h_1)) ?_
 refine zz ?_
 refine aQv ?_
 obtain⟨x43,h_2,hr⟩:=aA hr
 refine aQI mixed [] [] [[0,1,2,3,4,5,6,7,8,9,10,11,12,13,14,15,16,17,18,19,20]] ?_
 refine zz ?_
 refine xw (v:=(.sl 1 (aQz (aQr.wrap ((aF.length:Int)-(aQr.wrap (2*vn))))*1) x43.length 1 false)) (b7 rfl rfl rfl (aN5 (l:=aF) rfl zE cI rfl rfl rfl h_2)) ?_
 refine zz ?_
 refine aQx fun K1 hK1 hG1=> ?_
 have J1: ∀(count:Int),j5 N aB aD aI aF aC aP dS vn count=some r→K1 (aE 78 [(0,(.ptr 0 0)),(1,(eI .i64 dS)),(2,(eI .i64 vn)),(9,(eI .i64 count))]) [some ⟨56,(bJ (eI .u8) aB [(eI .i64 aD),(eI .i64 aI),(.sl 1 0 aF.length 1 false),(.sl 2 0 aC.length 2 true),(eI .i64 aP)])⟩,some ⟨31,aF.map (eL 1 (eI .u8))⟩,some ⟨73,aC.flatMap aM⟩]:=by
  intro count hr
  unfold j5 at hr
  refine hK1 _ _ ?_
  obtain⟨x76,h_3,hr⟩:=aA hr
  obtain⟨x77,h_4,hr⟩:=aA hr
  refine zz ?_
  refine zc (wY h_3) [] ?_
  refine aQK (zv 3) ?_
  refine zc (jC h_4) [0,1,2] ?_
  refine zz ?_
  obtain rfl:=sj hr
  exact bK Tryz.results59 [0,1,2,4,5]
 obtain⟨a9,hL2,hr⟩:=aA hr
 refine zz ?_
 refine aQw<|aQF (fun m s h=> ∃(count_1 x45:Int),cL N aB aD aI aF aC aP dS vn fR x43 m count_1 x45=some a9∧Ghost 3 s h (aE 78 [(0,(.ptr 0 0)),(1,(eI .i64 dS)),(2,(eI .i64 vn)),(7,(.sl 1 (aQz (aQr.wrap ((aF.length:Int)-vn))*1) fR.length 1 false)),(8,(.sl 1 (aQz (aQr.wrap ((aF.length:Int)-(aQr.wrap (2*vn))))*1) x43.length 1 false)),(9,(eI .i64 count_1)),(44,(eI .i64 vn)),(45,(eI .i64 x45))]) [some ⟨56,(bJ (eI .u8) aB [(eI .i64 aD),(eI .i64 aI),(.sl 1 0 aF.length 1 false),(.sl 2 0 aC.length 2 true),(eI .i64 aP)])⟩,some ⟨31,aF.map (eL 1 (eI .u8))⟩,some ⟨73,aC.flatMap aM⟩]) (n:=N) ⟨0,0,hL2,(zG [0,1,2])⟩ (by rintro s h ⟨_,_,h0,_⟩;simp[cL]at h0) ?_
 rintro m2 s h ⟨count_1,x45,hr2,hg⟩
 refine aQD hg ?_
 clear hg hL2
 rw[cL]at hr2
 refine zz ?_
 refine aQv ?_
 refine zk hr2 rfl (fun h5 hr2=> ?_) (fun h5 hr2=> ?_)
 ·refine zz ?_
  refine aQx fun K3 hK3 hG3=> ?_
  have J3: ∀(z7:Int),gB N aB aD aI aF aC aP dS vn fR x43 x45 (cL N aB aD aI aF aC aP dS vn fR x43 m2) z7=some a9→K3 (aE 78 [(0,(.ptr 0 0)),(1,(eI .i64 dS)),(2,(eI .i64 vn)),(7,(.sl 1 (aQz (aQr.wrap ((aF.length:Int)-vn))*1) fR.length 1 false)),(8,(.sl 1 (aQz (aQr.wrap ((aF.length:Int)-(aQr.wrap (2*vn))))*1) x43.length 1 false)),(9,(eI .i64 z7)),(44,(eI .i64 vn)),(45,(eI .i64 x45))]) [some ⟨56,(bJ (eI .u8) aB [(eI .i64 aD),(eI .i64 aI),(.sl 1 0 aF.length 1 false),(.sl 2 0 aC.length 2 true),(eI .i64 aP)])⟩,some ⟨31,aF.map (eL 1 (eI .u8))⟩,some ⟨73,aC.flatMap aM⟩]:=by
   intro z7 hr2
   unfold gB at hr2
   refine hK3 _ _ ?_
   refine zz ?_
   exact⟨z7,aQr.wrap (x45+1),hr2,(zG [0,1,2])⟩
  refine aQw ?_
  refine zz ?_
  refine aQv<|aQv ?_
  obtain⟨x51,h_6,hr2⟩:=aA hr2
  obtain⟨x55,h_7,hr2⟩:=aA hr2
  obtain⟨x57,h_8,hr2⟩:=aA hr2
  refine aQI mixed [] [72] [[0,1,2,3,4,5,6,7,8,9,10]] ?_
  refine zz ?_
  refine xw (v:=(.ptr 1 (aQz (aQr.wrap ((aF.length:Int)-vn))+aQz x45))) (yZ rfl rfl (iaY rfl zE cI rfl h_6))<|xw (v:=(.row none 1 (x51.map (eI .u8)))) (bO rfl (ldY (E:=(eL 1 (eI .u8))) (l:=aF) (y:=x51) cI rfl rfl h_1 h_6)) ?_
  refine zz ?_
  refine xw (v:=(.ptr 1 (aQz (aQr.wrap ((aF.length:Int)-(aQr.wrap (2*vn))))+aQz x45))) (yZ rfl rfl (iaY rfl zE cI rfl h_7))<|xw (v:=(.row none 1 (x55.map (eI .u8)))) (bO rfl (ldY (E:=(eL 1 (eI .u8))) (l:=aF) (y:=x55) cI rfl rfl h_2 h_7))<|zg (aAk h_8) [0,1,2] ?_
  refine zz ?_
  refine zk hr2 rfl (fun h10 hr2=> ?_) (fun h10 hr2=> ?_)
  ·refine zz ?_
   obtain rfl:=sj hr2
   obtain rfl:=sj hr
   exact bK Tryz.results59 [0,1,2,1,2]
  refine zz ?_
  refine xw (v:=(.ptr 1 (aQz (aQr.wrap ((aF.length:Int)-(aQr.wrap (2*vn))))+aQz x45))) (yZ rfl rfl (iaY rfl zE cI rfl h_7))<|xw (v:=(.row none 1 (x55.map (eI .u8)))) (bO rfl (ldY (E:=(eL 1 (eI .u8))) (l:=aF) (y:=x55) cI rfl rfl h_2 h_7)) ?_
  refine zz ?_
  refine zk hr2 rfl (fun h11 hr2=> ?_) (fun h11 hr2=> ?_)
  ·refine zz ?_
   exact hG3 _ _ _ _ (zG [0,1,2]) (J3 (aQr.wrap (count_1+1)) hr2)
  refine zz ?_
  exact hG3 _ _ _ _ (zG [0,1,2]) (J3 count_1 hr2)
 refine zz ?_
 obtain rfl:=sj hr2
 refine zz ?_
 exact hG1 _ _ _ _ (zG [0,1,2]) (J1 count_1 hr)
theorem aAC {N:Nat}{b:List Int}{r:Int×Int}(hr:gO N b=some r):
  Vm.Fn Tryz.prog 14 [] [(.row none 1 (b.map (eI .u8)))] (.tup [(eI .u32 r.1),(eI .i64 r.2)]) []:=by
 refine zf Tryz.func14 Tryz.ntmps14 ?_
 unfold gO at hr
 refine zz ?_
 refine aQv ?_
 refine aQx fun K1 hK1 hG1=> ?_
 have J1: ∀(fR:Bool),eH N b fR=some r→K1 (aE 40 [(0,(.row none 1 (b.map (eI .u8)))),(23,(eB fR))]) []:=by
  intro fR hr
  unfold eH at hr
  refine hK1 _ _ ?_
  refine zk hr rfl (fun h1 hr=> ?_) (fun h1 hr=> ?_)
  ·refine zz ?_
   obtain rfl:=sj hr
   exact u6 Tryz.results14 []
  refine zz ?_
  refine aQx fun K2 hK2 hG2=> ?_
  have J2: ∀(vn:Int),qR N vn=some r→K2 (aE 40 [(4,(eI .u32 vn))]) []:=by
   intro vn hr
   unfold qR at hr
   refine hK2 _ _ ?_
   refine zz ?_
   obtain rfl:=sj hr
   exact u6 Tryz.results14 []
  obtain⟨rB,hL3,hr⟩:=aA hr
  refine zz ?_
  refine aQw<|aQF (fun m s h=> ∃(cZ x26:Int),eY N b m cZ x26=some rB∧Ghost 0 s h (aE 40 [(4,(eI .u32 cZ)),(24,(.row none 1 (b.map (eI .u8)))),(25,(eI .i64 (b.length:Int))),(26,(eI .i64 x26))]) []) (n:=N) ⟨0,0,hL3,(zG [])⟩ (by rintro s h ⟨_,_,h0,_⟩;simp[eY]at h0) ?_
  rintro m3 s h ⟨cZ,x26,hr3,hg⟩
  refine aQD hg ?_
  clear hg hL3
  rw[eY]at hr3
  refine zz ?_
  refine aQv ?_
  refine zk hr3 rfl (fun h2 hr3=> ?_) (fun h2 hr3=> ?_)
  ·refine zz ?_
   refine aQv<|aQw ?_
   obtain⟨x29,h_3,hr3⟩:=aA hr3
   obtain⟨x36,h_4,hr3⟩:=aA hr3
   refine zz ?_
   exact⟨bits .or .u32 cZ x36,aQr.wrap (x26+1),hr3,(zG [])⟩
  refine zz ?_
  obtain rfl:=sj hr3
  refine zz ?_
  exact hG2 _ _ _ _ (zG []) (J2 cZ hr)
 rcases aQu (decide (4<(b.length:Int)))with h5|h5
 ·replace hr:=cU hr h5
  refine xr ?_
  refine zz ?_
  exact hG1 _ _ _ _ (zG []) (J1 true hr)
 replace hr:=cQ hr h5
 rcases aQu (decide (0<(b.length:Int)))with h6|h6
 ·replace hr:=cU hr h6
  obtain⟨x19,h_7,hr⟩:=aA hr
  refine xr ?_
  refine zz ?_
  exact hG1 _ _ _ _ (zG []) (J1 (x19 == 0) hr)
 replace hr:=cQ hr h6
 refine xr ?_
 refine zz ?_
 exact hG1 _ _ _ _ (zG []) (J1 false hr)
theorem aAB {N:Nat}{eJ:List Int}{now r:Int}(hr:j8 N eJ now=some r):
  Vm.Fn Tryz.prog 60 [] [(.row none 1 (eJ.map (eI .u8))),(eI .i64 now)] (eI .i64 r) []:=by
 refine zf Tryz.func60 Tryz.ntmps60 ?_
 unfold j8 at hr
 obtain⟨x9,h_1,hr⟩:=aA hr
 refine zz ?_
 refine xp (aAC h_1) ?_
 refine zz ?_
 refine aQv ?_
 refine zz ?_
 refine zk hr rfl (fun h2 hr=> ?_) (fun h2 hr=> ?_)
 ·refine zz ?_
  obtain rfl:=sj hr
  exact bK Tryz.results60 []
 refine zz ?_
 refine aQv ?_
 refine zz ?_
 refine zk hr rfl (fun h3 hr=> ?_) (fun h3 hr=> ?_)
 ·refine zz ?_
  obtain rfl:=sj hr
  exact bK Tryz.results60 []
 refine zz ?_
 obtain rfl:=sj hr
 exact bK Tryz.results60 []
theorem aAH {N:Nat}{aB:List Int}{aD aI:Int}{aF:List (List Int)}{aC:List aG}{aP aQ:Int}{bM:List Int}{dJ dC:Int}{r:Int×(List Int)×Int×Int×(List (List Int))×(List aG)×Int}(hr:jT N aB aD aI aF aC aP aQ bM dJ dC=some r):
  Vm.Fn Tryz.prog 42 [some ⟨56,(bJ (eI .u8) aB [(eI .i64 aD),(eI .i64 aI),(.sl 1 0 aF.length 1 false),(.sl 2 0 aC.length 2 true),(eI .i64 aP)])⟩,some ⟨31,aF.map (eL 1 (eI .u8))⟩,some ⟨73,aC.flatMap aM⟩] [(.ptr 0 0),(.agg [(eI .i64 aQ),(.row none 1 (bM.map (eI .u8))),(eI .i64 dJ),(eI .i64 dC)])] (eI .i64 r.1) [some ⟨56,(bJ (eI .u8) r.2.1 [(eI .i64 r.2.2.1),(eI .i64 r.2.2.2.1),(.sl 3 0 r.2.2.2.2.1.length 1 false),(.sl 4 0 r.2.2.2.2.2.1.length 2 true),(eI .i64 r.2.2.2.2.2.2)])⟩,none,none,some ⟨31,r.2.2.2.2.1.map (eL 1 (eI .u8))⟩,some ⟨73,r.2.2.2.2.2.1.flatMap aM⟩]:=by
 refine zf Tryz.func42 Tryz.ntmps42 ?_
 unfold jT at hr
 refine zz ?_
 refine aQx fun K1 hK1 hG1=> ?_
 have J1: ∀(c0:List Int)(rU rZ rC:Int)(l3:List (List Int))(l4:List aG),cP N c0 rU rZ rC l3 l4=some r→K1 (aE 150 []) [some ⟨56,(bJ (eI .u8) c0 [(eI .i64 rU),(eI .i64 rZ),(.sl 3 0 l3.length 1 false),(.sl 4 0 l4.length 2 true),(eI .i64 rC)])⟩,none,none,some ⟨31,l3.map (eL 1 (eI .u8))⟩,some ⟨73,l4.flatMap aM⟩]:=by
  intro c0 rU rZ rC l3 l4 hr
  unfold cP at hr
  refine hK1 _ _ ?_
  refine zz ?_
  obtain rfl:=sj hr
  exact bK Tryz.results42 [0,1,2,3,4]
 refine zz ?_
 refine aQw ?_
 refine zz ?_
 refine zk hr rfl (fun h1 hr=> ?_) (fun h1 hr=> ?_)
 ·obtain⟨bH,h_2,hr⟩:=aA hr
  refine zz ?_
  refine zc (oR h_2) [0,1,2] ?_
  refine zz ?_
  obtain rfl:=sj hr
  exact bK Tryz.results42 [0,1,2,4,5]
 refine zz ?_
 refine zk hr rfl (fun h3 hr=> ?_) (fun h3 hr=> ?_)
 ·obtain⟨x19,h_4,hr⟩:=aA hr
  obtain⟨bI,h_5,hr⟩:=aA hr
  refine zz ?_
  refine zc (dG h_4) [0,1,2] ?_
  refine zc (oR h_5) [0,1,2] ?_
  refine zz ?_
  obtain rfl:=sj hr
  exact bK Tryz.results42 [0,1,2,4,5]
 refine zz ?_
 refine zk hr rfl (fun h6 hr=> ?_) (fun h6 hr=> ?_)
 ·obtain⟨dO,h_7,hr⟩:=aA hr
  refine zz ?_
  refine zc (k4 h_7) [0,1,2] ?_
  refine zz ?_
  exact hG1 _ _ _ _ (zG [0,1,2,4,5]) (J1 dO.1 dO.2.1 dO.2.2.1 dO.2.2.2.2.2 dO.2.2.2.1 dO.2.2.2.2.1 hr)
 refine zz ?_
 refine zk hr rfl (fun h8 hr=> ?_) (fun h8 hr=> ?_)
 ·obtain⟨x50,h_9,hr⟩:=aA hr
  obtain⟨x58,h_10,hr⟩:=aA hr
  obtain⟨x61,h_11,hr⟩:=aA hr
  refine zz ?_
  refine aQI mixed [] [] [[0,1,2,3,4,5,6,7,8,9,10,11,12,13,14,15,16,17,18,19,20,21,22,23,24,25,26,27,28,29,30,31]] ?_
  refine zz ?_
  exact hG1 _ _ _ _ (lI [0,1,2,1,2]) (J1 aB aD aI aP ((aF.set (aQz (aQr.wrap ((aF.length:Int)-1))) x50).set (aQz (aQr.wrap ((aF.length:Int)-2))) x58) aC hr)
 refine zz ?_
 refine zk hr rfl (fun h12 hr=> ?_) (fun h12 hr=> ?_)
 ·obtain⟨x66,h_13,hr⟩:=aA hr
  obtain⟨x77,h_15,hr⟩:=aA hr
  obtain⟨x79,h_16,hr⟩:=aA hr
  obtain⟨x80,h_18,hr⟩:=aA hr
  obtain⟨x81,h_20,hr⟩:=aA hr
  refine aQI mixed [57] [40,56] [[0,1,2,3,4,5,6,7,8,9,10,11,12,13,14,15,16],[17]] ?_
  refine zz ?_
  refine zg (dG h_13) [0,1,2] ?_
  refine zz ?_
  refine xu (aFC h_16)<|zg (wY h_18) [] ?_
  refine zz ?_
  refine⟨_,_,(zv 4), ?_⟩
  refine zg (jC h_20) [0,1,2] ?_
  refine zz ?_
  exact hG1 _ _ _ _ (zG [0,1,2,5,6]) (J1 x81.1 x81.2.1 x81.2.2.1 x81.2.2.2.2.2 x81.2.2.2.1 x81.2.2.2.2.1 hr)
 refine zz ?_
 refine zk hr rfl (fun h22 hr=> ?_) (fun h22 hr=> ?_)
 ·obtain⟨x86,h_23,hr⟩:=aA hr
  obtain⟨x87,h_24,hr⟩:=aA hr
  obtain⟨x89,h_25,hr⟩:=aA hr
  obtain⟨x90,h_26,hr⟩:=aA hr
  refine zz ?_
  refine zc (dG h_23) [0,1,2] ?_
  refine xp (vK h_24) ?_
  refine zz ?_
  refine zc (wY h_25) [] ?_
  refine aQK (zv 4) ?_
  refine zc (jC h_26) [0,1,2] ?_
  refine zz ?_
  exact hG1 _ _ _ _ (zG [0,1,2,5,6]) (J1 x90.1 x90.2.1 x90.2.2.1 x90.2.2.2.2.2 x90.2.2.2.1 x90.2.2.2.2.1 hr)
 refine zz ?_
 refine zk hr rfl (fun h27 hr=> ?_) (fun h27 hr=> ?_)
 ·refine aQv ?_
  obtain⟨x94,h_28,hr⟩:=aA hr
  obtain⟨x95,h_29,hr⟩:=aA hr
  refine zz ?_
  refine zc (dG h_28) [0,1,2] ?_
  refine xp (vK h_29) ?_
  refine zz ?_
  refine zk hr rfl (fun h30 hr=> ?_) (fun h30 hr=> ?_)
  ·refine zz ?_
   obtain rfl:=sj hr
   exact bK Tryz.results42 [0,1,2,1,2]
  obtain⟨x98,h_31,hr⟩:=aA hr
  refine zz ?_
  refine zc (k4 h_31) [0,1,2] ?_
  refine zz ?_
  exact hG1 _ _ _ _ (zG [0,1,2,4,5]) (J1 x98.1 x98.2.1 x98.2.2.1 x98.2.2.2.2.2 x98.2.2.2.1 x98.2.2.2.2.1 hr)
 refine zz ?_
 refine zk hr rfl (fun h32 hr=> ?_) (fun h32 hr=> ?_)
 ·obtain⟨aFq,h_33,hr⟩:=aA hr
  obtain⟨aDD,h_34,hr⟩:=aA hr
  obtain⟨q,h_35,hr⟩:=aA hr
  refine zz ?_
  refine zc (dG h_33) [0,1,2] ?_
  refine xp (aBF h_34) ?_
  obtain⟨rO,h_36,hr⟩:=aA hr
  refine zz ?_
  refine aQK (zv 4) ?_
  refine zc (jC h_36) [0,1,2] ?_
  refine zz ?_
  exact hG1 _ _ _ _ (zG [0,1,2,5,6]) (J1 rO.1 rO.2.1 rO.2.2.1 rO.2.2.2.2.2 rO.2.2.2.1 rO.2.2.2.2.1 hr)
 refine zz ?_
 refine zk hr rfl (fun h37 hr=> ?_) (fun h37 hr=> ?_)
 ·obtain⟨aG5,h_38,hr⟩:=aA hr
  obtain⟨aFa,h_39,hr⟩:=aA hr
  obtain⟨aCf,h_40,hr⟩:=aA hr
  refine zz ?_
  refine zc (dG h_38) [0,1,2] ?_
  refine zz ?_
  refine zc (tG h_39) [] ?_
  refine aQK (zv 4) ?_
  refine zc (oR h_40) [0,1,2] ?_
  refine zz ?_
  obtain rfl:=sj hr
  exact bK Tryz.results42 [0,1,2,5,6]
 refine zz ?_
 refine zk hr rfl (fun h41 hr=> ?_) (fun h41 hr=> ?_)
 ·obtain⟨aCL,h_42,hr⟩:=aA hr
  refine zz ?_
  refine zc (sH h_42) [0,1,2] ?_
  refine zz ?_
  obtain rfl:=sj hr
  exact bK Tryz.results42 [0,1,2,4,5]
 refine zz ?_
 refine zk hr rfl (fun h43 hr=> ?_) (fun h43 hr=> ?_)
 ·obtain⟨aCq,h_44,hr⟩:=aA hr
  refine zz ?_
  refine zc (sH h_44) [0,1,2] ?_
  refine zz ?_
  obtain rfl:=sj hr
  exact bK Tryz.results42 [0,1,2,4,5]
 refine zz ?_
 refine zk hr rfl (fun h45 hr=> ?_) (fun h45 hr=> ?_)
 ·refine aQv ?_
  obtain⟨aOz,h_46,hr⟩:=aA hr
  obtain⟨aN9,h_48,hr⟩:=aA hr
  refine aQI mixed [60] [40] [[0,1,2,3,4,5,6,7,8]] ?_
  refine zz ?_
  refine zg (dG h_46) [0,1,2] ?_
  refine zz ?_
  refine xu (aAB h_48) ?_
  refine zz ?_
  obtain rfl:=sj hr
  exact bK Tryz.results42 [0,1,2,1,2]
 refine zz ?_
 refine zk hr rfl (fun h50 hr=> ?_) (fun h50 hr=> ?_)
 ·refine aQv ?_
  obtain⟨aOk,h_51,hr⟩:=aA hr
  obtain⟨aCA,h_53,hr⟩:=aA hr
  refine aQI mixed [60] [40] [[0,1,2,3,4,5,6,7,8]] ?_
  refine zz ?_
  refine zg (dG h_51) [0,1,2] ?_
  refine zz ?_
  refine xu (aAB h_53) ?_
  refine zz ?_
  obtain rfl:=sj hr
  exact bK Tryz.results42 [0,1,2,1,2]
 refine zz ?_
 refine zk hr rfl (fun h55 hr=> ?_) (fun h55 hr=> ?_)
 ·refine zz ?_
  obtain rfl:=sj hr
  exact bK Tryz.results42 [0,1,2,1,2]
 refine zz ?_
 exact hG1 _ _ _ _ (zG [0,1,2,1,2]) (J1 aB aD aI aP aF aC hr)
theorem aAW {N:Nat}{aB:List Int}{aD aI:Int}{aF:List (List Int)}{aC:List aG}{aP aQ:Int}{bM:List Int}{dJ dC:Int}{r:Int×(List Int)×Int×Int×(List (List Int))×(List aG)×Int}(hr:fN N aB aD aI aF aC aP aQ bM dJ dC=some r):
  Vm.Fn Tryz.prog 22 [some ⟨56,(bJ (eI .u8) aB [(eI .i64 aD),(eI .i64 aI),(.sl 1 0 aF.length 1 false),(.sl 2 0 aC.length 2 true),(eI .i64 aP)])⟩,some ⟨31,aF.map (eL 1 (eI .u8))⟩,some ⟨73,aC.flatMap aM⟩] [(.ptr 0 0),(.agg [(eI .i64 aQ),(.row none 1 (bM.map (eI .u8))),(eI .i64 dJ),(eI .i64 dC)])] (eI .i64 r.1) [some ⟨56,(bJ (eI .u8) r.2.1 [(eI .i64 r.2.2.1),(eI .i64 r.2.2.2.1),(.sl 3 0 r.2.2.2.2.1.length 1 false),(.sl 4 0 r.2.2.2.2.2.1.length 2 true),(eI .i64 r.2.2.2.2.2.2)])⟩,none,none,some ⟨31,r.2.2.2.2.1.map (eL 1 (eI .u8))⟩,some ⟨73,r.2.2.2.2.2.1.flatMap aM⟩]:=by
 refine zf Tryz.func22 Tryz.ntmps22 ?_
 unfold fN at hr
 obtain⟨x8,h_1,hr⟩:=aA hr
 refine zz ?_
 refine zc (aAj h_1) [0,1,2] ?_
 refine zz ?_
 refine aQx fun K1 hK1 hG1=> ?_
 have J1: ∀(counted:Bool),fE N aB aD aI aF aC aP aQ bM dJ dC counted=some r→K1 (aE 116 [(0,(.ptr 0 0)),(3,(.ptr 3 0)),(5,(eB counted))]) [some ⟨56,(bJ (eI .u8) aB [(eI .i64 aD),(eI .i64 aI),(.sl 1 0 aF.length 1 false),(.sl 2 0 aC.length 2 true),(eI .i64 aP)])⟩,some ⟨31,aF.map (eL 1 (eI .u8))⟩,some ⟨73,aC.flatMap aM⟩,some ⟨46,[(eI .i64 aQ),(.row none 1 (bM.map (eI .u8))),(eI .i64 dJ),(eI .i64 dC)]⟩]:=by
  intro counted hr
  unfold fE at hr
  refine hK1 _ _ ?_
  refine aQx fun K2 hK2 hG2=> ?_
  have J2: ∀(c0:Int),fH N aB aD aI aF aC aQ bM dJ dC counted c0=some r→K2 (aE 116 [(0,(.ptr 0 0)),(3,(.ptr 3 0)),(5,(eB counted))]) [some ⟨56,(bJ (eI .u8) aB [(eI .i64 aD),(eI .i64 aI),(.sl 1 0 aF.length 1 false),(.sl 2 0 aC.length 2 true),(eI .i64 c0)])⟩,some ⟨31,aF.map (eL 1 (eI .u8))⟩,some ⟨73,aC.flatMap aM⟩,some ⟨46,[(eI .i64 aQ),(.row none 1 (bM.map (eI .u8))),(eI .i64 dJ),(eI .i64 dC)]⟩]:=by
   intro c0 hr
   unfold fH at hr
   refine hK2 _ _ ?_
   refine zz ?_
   refine aQx fun K3 hK3 hG3=> ?_
   have J3: ∀(rU:List Int)(rZ rC wT:Int)(l3:List (List Int))(l4:List aG),eK N rU rZ rC wT l3 l4=some r→K3 (aE 116 []) [some ⟨56,(bJ (eI .u8) rU [(eI .i64 rZ),(eI .i64 rC),(.sl 3 0 l3.length 1 false),(.sl 4 0 l4.length 2 true),(eI .i64 wT)])⟩,none,none,some ⟨31,l3.map (eL 1 (eI .u8))⟩,some ⟨73,l4.flatMap aM⟩]:=by
    intro rU rZ rC wT l3 l4 hr
    unfold eK at hr
    refine hK3 _ _ ?_
    refine zz ?_
    obtain rfl:=sj hr
    exact bK Tryz.results22 [0,1,2,3,4]
   refine zz ?_
   refine aQw ?_
   refine zz ?_
   refine zk hr rfl (fun h2 hr=> ?_) (fun h2 hr=> ?_)
   ·refine aQx fun K4 hK4 hG4=> ?_
    have J4: ∀(jS:List aG),iS N aB aD aI aF counted c0 jS=some r→K4 (aE 116 [(0,(.ptr 0 0)),(5,(eB counted))]) [some ⟨56,(bJ (eI .u8) aB [(eI .i64 aD),(eI .i64 aI),(.sl 1 0 aF.length 1 false),(.sl 3 0 jS.length 2 true),(eI .i64 c0)])⟩,some ⟨31,aF.map (eL 1 (eI .u8))⟩,none,some ⟨73,jS.flatMap aM⟩]:=by
     intro jS hr
     unfold iS at hr
     refine hK4 _ _ ?_
     refine zz ?_
     refine zk hr rfl (fun h3 hr=> ?_) (fun h3 hr=> ?_)
     ·obtain⟨x86,h_4,hr⟩:=aA hr
      refine zz ?_
      refine zc (k4 h_4) [0,1,3] ?_
      refine zz ?_
      exact hG3 _ _ _ _ (zG [0,1,2,4,5]) (J3 x86.1 x86.2.1 x86.2.2.1 x86.2.2.2.2.2 x86.2.2.2.1 x86.2.2.2.2.1 hr)
     refine zz ?_
     exact hG3 _ _ _ _ (zG [0,1,2,1,3]) (J3 aB aD aI c0 aF jS hr)
    rcases aQu counted with h5|h5
    ·replace hr:=cU hr h5
     obtain⟨x76,h_6,hr⟩:=aA hr
     obtain⟨x77,h_8,hr⟩:=aA hr
     obtain⟨x81,h_10,hr⟩:=aA hr
     refine aQI mixed [33] [40] [[0,1,2,3,4,5,6,7,8,9,10,11,12,13,14,15,16,17]] ?_
     refine zz ?_
     refine zg (dG h_6) [0,1,2] ?_
     refine xu (vK h_8) ?_
     refine zz ?_
     refine xw (v:=(.sl 4 0 1 2 true)) (h':=[some ⟨56,(bJ (eI .u8) aB [(eI .i64 aD),(eI .i64 aI),(.sl 1 0 aF.length 1 false),(.sl 2 0 aC.length 2 true),(eI .i64 c0)])⟩,some ⟨31,aF.map (eL 1 (eI .u8))⟩,some ⟨73,aC.flatMap aM⟩,some ⟨46,[(eI .i64 aQ),(.row none 1 (bM.map (eI .u8))),(eI .i64 dJ),(eI .i64 dC)]⟩,some ⟨73,[(aG.mk counted x77)].flatMap aM⟩]) (qM rfl (aCU (C:=aM) (xs:=[(aG.mk counted x77)]) (K:=2) (fun _=>rfl) (fun _=>rfl) aFH aBR ⟨zl,zl,zl⟩ rfl rfl rfl rfl rfl rfl)) ?_
     refine zz ?_
     exact hG4 _ _ _ _ (zG [0,1,2,5]) (J4 x81 hr)
    replace hr:=cQ hr h5
    obtain⟨aJu,h_11,hr⟩:=aA hr
    refine aQI mixed [33] [40] [[0,1,2,3,4,5,6,7,8,9,10,11,12,13,14,15,16,17]] ?_
    refine zz ?_
    refine xw (v:=(.sl 4 0 1 2 true)) (h':=[some ⟨56,(bJ (eI .u8) aB [(eI .i64 aD),(eI .i64 aI),(.sl 1 0 aF.length 1 false),(.sl 2 0 aC.length 2 true),(eI .i64 c0)])⟩,some ⟨31,aF.map (eL 1 (eI .u8))⟩,some ⟨73,aC.flatMap aM⟩,some ⟨46,[(eI .i64 aQ),(.row none 1 (bM.map (eI .u8))),(eI .i64 dJ),(eI .i64 dC)]⟩,some ⟨73,[(aG.mk counted false)].flatMap aM⟩]) (qM rfl (aCU (C:=aM) (xs:=[(aG.mk counted false)]) (K:=2) (fun _=>rfl) (fun _=>rfl) aFH aBR ⟨zl,zl,zl⟩ rfl rfl rfl rfl rfl rfl)) ?_
    refine zz ?_
    exact hG4 _ _ _ _ (zG [0,1,2,5]) (J4 aJu hr)
   refine zz ?_
   refine zk hr rfl (fun h12 hr=> ?_) (fun h12 hr=> ?_)
   ·obtain⟨x99,h_13,hr⟩:=aA hr
    refine aQI mixed [] [] [[0,1,2,3,4,5,6,7,8,9,10,11,12,13,14,15,16]] ?_
    refine zz ?_
    refine xw (v:=(eB x99.taken)) (bO rfl (aGJ (C:=aM) (K:=2) (off:=1) (fun _=>rfl) rfl h_13 zl (l5 yP rfl rfl))) ?_
    refine zz ?_
    refine xy (h':=[some ⟨56,(bJ (eI .u8) aB [(eI .i64 aD),(eI .i64 aI),(.sl 1 0 aF.length 1 false),(.sl 2 0 aC.length 2 true),(eI .i64 c0)])⟩,some ⟨31,aF.map (eL 1 (eI .u8))⟩,some ⟨73,(aC.set (aQz (aQr.wrap ((aC.length:Int)-1))) (aG.mk x99.outer (!x99.taken))).flatMap aM⟩,some ⟨46,[(eI .i64 aQ),(.row none 1 (bM.map (eI .u8))),(eI .i64 dJ),(eI .i64 dC)]⟩]) (aY rfl rfl (aNI (C:=aM) (K:=2) (off:=1) (fun _=>rfl) yP rfl h_13 rfl rfl zl rfl rfl)) ?_
    refine zz ?_
    exact hG3 _ _ _ _ (lI [0,1,2,1,2]) (J3 aB aD aI c0 aF (aC.set (aQz (aQr.wrap ((aC.length:Int)-1))) (aG.mk x99.outer (!x99.taken))) hr)
   refine zz ?_
   refine zk hr rfl (fun h14 hr=> ?_) (fun h14 hr=> ?_)
   ·obtain⟨aCF,h_15,hr⟩:=aA hr
    refine zz ?_
    refine xw (v:=(.sl 2 0 aCF.length 2 true)) (b7 rfl rfl rfl (aEC (l:=aC) rfl aFH aBR rfl rfl rfl h_15)) ?_
    refine aQK (Ghost.cutF (t:=113) (C:=aM) (l:=aC) (K:=2) (h':=[some ⟨56,(bJ (eI .u8) aB [(eI .i64 aD),(eI .i64 aI),(.sl 1 0 aF.length 1 false),(.sl 2 0 aC.length 2 true),(eI .i64 c0)])⟩,some ⟨31,aF.map (eL 1 (eI .u8))⟩,some ⟨73,aCF.flatMap aM⟩,some ⟨46,[(eI .i64 aQ),(.row none 1 (bM.map (eI .u8))),(eI .i64 dJ),(eI .i64 dC)]⟩]) (fun _=>rfl) rfl rfl h_15 rfl) ?_
    refine zz ?_
    exact hG3 _ _ _ _ (zG [0,1,2,1,2]) (J3 aB aD aI c0 aF aCF hr)
   refine zz ?_
   refine zk hr rfl (fun h16 hr=> ?_) (fun h16 hr=> ?_)
   ·obtain⟨x64,h_17,hr⟩:=aA hr
    refine zz ?_
    refine zc (aAH h_17) [0,1,2] ?_
    refine zz ?_
    obtain rfl:=sj hr
    exact bK Tryz.results22 [0,1,2,4,5]
   refine zz ?_
   exact hG3 _ _ _ _ (zG [0,1,2,1,2]) (J3 aB aD aI c0 aF aC hr)
  refine zz ?_
  refine zk hr rfl (fun h18 hr=> ?_) (fun h18 hr=> ?_)
  ·refine aQv ?_
   obtain⟨x36,h_19,hr⟩:=aA hr
   refine aQI mixed [38] [] [[0,1,2,3,4,5,6,7,8,9]] ?_
   refine zz ?_
   refine xu (aEO h_19) ?_
   refine zz ?_
   refine aQv ?_
   refine zz ?_
   refine zk hr rfl (fun h21 hr=> ?_) (fun h21 hr=> ?_)
   ·refine zz ?_
    obtain rfl:=sj hr
    exact bK Tryz.results22 [0,1,2,1,2]
   refine zz ?_
   refine aQv ?_
   obtain⟨x51,h_22,hr⟩:=aA hr
   refine aQI mixed [39] [] [[0,1,2,3,4,5,6,7]] ?_
   refine zz ?_
   refine xu (aEQ h_22) ?_
   refine zz ?_
   refine zk hr rfl (fun h24 hr=> ?_) (fun h24 hr=> ?_)
   ·refine zz ?_
    obtain rfl:=sj hr
    exact bK Tryz.results22 [0,1,2,1,2]
   refine zz ?_
   exact hG2 _ _ _ _ (zG [0,1,2,3]) (J2 (aQr.wrap (aP+x36)) hr)
  refine zz ?_
  exact hG2 _ _ _ _ (zG [0,1,2,3]) (J2 aP hr)
 refine aQx fun K5 hK5 hG5=> ?_
 have J5: ∀(x16:Bool),fG N aB aD aI aF aC aP aQ bM dJ dC x8 x16=some r→K5 (aE 116 [(0,(.ptr 0 0)),(3,(.ptr 3 0)),(5,(eB x8)),(16,(eB x16))]) [some ⟨56,(bJ (eI .u8) aB [(eI .i64 aD),(eI .i64 aI),(.sl 1 0 aF.length 1 false),(.sl 2 0 aC.length 2 true),(eI .i64 aP)])⟩,some ⟨31,aF.map (eL 1 (eI .u8))⟩,some ⟨73,aC.flatMap aM⟩,some ⟨46,[(eI .i64 aQ),(.row none 1 (bM.map (eI .u8))),(eI .i64 dJ),(eI .i64 dC)]⟩]:=by
  intro x16 hr
  unfold fG at hr
  refine hK5 _ _ ?_
  refine zk hr rfl (fun h25 hr=> ?_) (fun h25 hr=> ?_)
  ·obtain⟨x27,h_26,hr⟩:=aA hr
   refine aQI mixed [] [] [[0,1,2,3,4,5,6,7,8,9,10,11,12,13]] ?_
   refine zz ?_
   refine xw (v:=(eB x27.outer)) (bO rfl (aGJ (C:=aM) (K:=2) (off:=0) (fun _=>rfl) rfl h_26 zl (l5 yP rfl rfl))) ?_
   refine zz ?_
   exact hG1 _ _ _ _ (zG [0,1,2,3]) (J1 x27.outer hr)
  refine zz ?_
  exact hG1 _ _ _ _ (zG [0,1,2,3]) (J1 x8 hr)
 rcases aQu (aQ == 15)with h27|h27
 ·replace hr:=cU hr h27
  refine xr ?_
  refine zz ?_
  exact hG5 _ _ _ _ (zG [0,1,2,3]) (J5 true hr)
 replace hr:=cQ hr h27
 refine xr ?_
 refine zz ?_
 exact hG5 _ _ _ _ (zG [0,1,2,3]) (J5 (aQ == 16) hr)
end Go.Proofs.YtnllpckhipmpgaaGreatDoor
