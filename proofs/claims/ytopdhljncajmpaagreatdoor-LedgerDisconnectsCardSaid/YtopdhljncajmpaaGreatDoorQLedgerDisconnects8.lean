/- Texts of ours, joined: TyF, HandC. -/
import Derived.Test.YtopdhljncajmpaaGreatDoorQLedgerDisconnects2
import Derived.Test.YtopdhljncajmpaaGreatDoorQLedgerDisconnects3
import Derived.Test.YtopdhljncajmpaaGreatDoorQLedgerDisconnects4
open List renaming replicate → a1a
open Nat renaming le_of_ble_eq_true → a1b
open Go.Vm.AB renaming seq → a1c
namespace Go.Proofs.YtopdhljncajmpaaGreatDoor
open Go Go.Vm
theorem mixed :Tryz.prog.follows .mixedOrders=true:=by kernel_rfl
theorem dep :2≤Tryz.prog.depth:=a1b (by kernel_rfl)
instance :DepC Tryz.prog:=⟨dep⟩
noncomputable def E1 :Env Tryz.prog:={O:=fun _ _ _=>none,F:=a0u,ok:=fun _ _ _ _ _ hh=>(by cases hh),still:=fun _ _ _ _ _ _ hh=>(by cases hh),mixed:=mixed}
instance :TiC Tryz.prog 2 (tv ti2):=⟨ti2⟩
instance :TiC Tryz.prog 3 (tv ti3):=⟨ti3⟩
instance :TiC Tryz.prog 4 (tv ti4):=⟨ti4⟩
instance :TiC Tryz.prog 5 (tv nF):=⟨nF⟩
instance :TiC Tryz.prog 9 (tv ti9):=⟨ti9⟩
instance :TiC Tryz.prog 12 (tv aX2):=⟨aX2⟩
instance :TiC Tryz.prog 21 (tv aZe):=⟨aZe⟩
instance :TiC Tryz.prog 22 (tv nQ):=⟨nQ⟩
instance :TiC Tryz.prog 24 (tv jT):=⟨jT⟩
instance :TiC Tryz.prog 25 (tv aZr):=⟨aZr⟩
instance :TiC Tryz.prog 26 (tv iH):=⟨iH⟩
instance :TiC Tryz.prog 27 (tv aZi):=⟨aZi⟩
instance :TiC Tryz.prog 28 (tv aEB):=⟨aEB⟩
instance :TiC Tryz.prog 29 (tv aGp):=⟨aGp⟩
instance :TiC Tryz.prog 30 (tv aZg):=⟨aZg⟩
instance :TiC Tryz.prog 31 (tv aHw):=⟨aHw⟩
instance :TiC Tryz.prog 32 (tv aVj):=⟨aVj⟩
instance :TiC Tryz.prog 33 (tv aYV):=⟨aYV⟩
instance :TiC Tryz.prog 34 (tv aA8):=⟨aA8⟩
instance :TiC Tryz.prog 35 (tv aU1):=⟨aU1⟩
instance :TiC Tryz.prog 36 (tv aUC):=⟨aUC⟩
instance :TiC Tryz.prog 37 (tv aUL):=⟨aUL⟩
instance :TiC Tryz.prog 38 (tv aVK):=⟨aVK⟩
instance :TiC Tryz.prog 39 (tv aZn):=⟨aZn⟩
instance :TiC Tryz.prog 40 (tv aI4):=⟨aI4⟩
instance :TiC Tryz.prog 42 (tv aHA):=⟨aHA⟩
instance :TiC Tryz.prog 43 (tv aZa):=⟨aZa⟩
instance :TiC Tryz.prog 44 (tv zZ):=⟨zZ⟩
instance :TiC Tryz.prog 45 (tv aUV):=⟨aUV⟩
instance :TiC Tryz.prog 46 (tv aZv):=⟨aZv⟩
instance :TiC Tryz.prog 47 (tv aKr):=⟨aKr⟩
instance :TiC Tryz.prog 49 (tv aS1):=⟨aS1⟩
instance :TiC Tryz.prog 50 (tv aYg):=⟨aYg⟩
instance :TiC Tryz.prog 51 (tv aHP):=⟨aHP⟩
instance :TiC Tryz.prog 53 (tv aYe):=⟨aYe⟩
instance :NoA Tryz.prog 53:=⟨trivial⟩
instance :TiC Tryz.prog 54 (tv aVl):=⟨aVl⟩
instance :NoA Tryz.prog 54:=⟨trivial⟩
instance :TiC Tryz.prog 55 (tv aYI):=⟨aYI⟩
instance :TiC Tryz.prog 61 (tv aP8):=⟨aP8⟩
instance :TiC Tryz.prog 74 (tv aZh):=⟨aZh⟩
instance :TiC Tryz.prog 75 (tv aZb):=⟨aZb⟩
instance :TiC Tryz.prog 76 (tv g9):=⟨g9⟩
instance :TiC Tryz.prog 77 (tv aXZ):=⟨aXZ⟩
instance :NoA Tryz.prog 77:=⟨trivial⟩
instance :TiC Tryz.prog 78 (tv aPY):=⟨aPY⟩
instance :NoA Tryz.prog 78:=⟨trivial⟩
instance :TiC Tryz.prog 79 (tv aYk):=⟨aYk⟩
instance :TiC Tryz.prog 80 (tv pR):=⟨pR⟩
instance :TiC Tryz.prog 88 (tv aUD):=⟨aUD⟩
instance :TiC Tryz.prog 89 (tv aUW):=⟨aUW⟩
instance :TiC Tryz.prog 90 (tv aYM):=⟨aYM⟩
instance :NoA Tryz.prog 90:=⟨trivial⟩
instance :TiC Tryz.prog 91 (tv aNF):=⟨aNF⟩
instance :NoA Tryz.prog 91:=⟨trivial⟩
instance :TiC Tryz.prog 96 (tv aYr):=⟨aYr⟩
instance :TiC Tryz.prog 97 (tv aKq):=⟨aKq⟩
instance :TiC Tryz.prog 99 (tv aYB):=⟨aYB⟩
instance :TiC Tryz.prog 100 (tv aPh):=⟨aPh⟩
instance :TiC Tryz.prog 101 (tv aVS):=⟨aVS⟩
instance :TiC Tryz.prog 102 (tv aHg):=⟨aHg⟩
instance :TiC Tryz.prog 118 (tv aWl):=⟨aWl⟩
instance :TiC Tryz.prog 140 (tv aFd):=⟨aFd⟩
instance :TiC Tryz.prog 152 (tv aWC):=⟨aWC⟩
instance :TiC Tryz.prog 153 (tv aM2):=⟨aM2⟩
instance :TiC Tryz.prog 160 (tv aV4):=⟨aV4⟩
instance :TiC Tryz.prog 167 (tv aV2):=⟨aV2⟩
instance :TiC Tryz.prog 182 (tv aWr):=⟨aWr⟩
instance :TiC Tryz.prog 190 (tv aWs):=⟨aWs⟩
instance :TiC Tryz.prog 191 (tv aIF):=⟨aIF⟩
instance :TiC Tryz.prog 194 (tv aV3):=⟨aV3⟩
instance :TiC Tryz.prog 200 (tv aWj):=⟨aWj⟩
instance :TiC Tryz.prog 208 (tv aWt):=⟨aWt⟩
instance :TiC Tryz.prog 221 (tv aIJ):=⟨aIJ⟩
instance :TiC Tryz.prog 223 (tv aPg):=⟨aPg⟩
instance :TiC Tryz.prog 233 (tv aVR):=⟨aVR⟩
instance :TiC Tryz.prog 235 (tv aWz):=⟨aWz⟩
instance :TiC Tryz.prog 245 (tv aPr):=⟨aPr⟩
instance :TiC Tryz.prog 249 (tv aPw):=⟨aPw⟩
instance :TiC Tryz.prog 251 (tv aPj):=⟨aPj⟩
instance :TiC Tryz.prog 255 (tv aWE):=⟨aWE⟩
instance :TiC Tryz.prog 261 (tv aWq):=⟨aWq⟩
instance :TiC Tryz.prog 262 (tv aV7):=⟨aV7⟩
instance :NoA Tryz.prog 262:=⟨trivial⟩
instance :TiC Tryz.prog 263 (tv aIr):=⟨aIr⟩
instance :NoA Tryz.prog 263:=⟨trivial⟩
instance :TiC Tryz.prog 265 (tv aWc):=⟨aWc⟩
instance :NoA Tryz.prog 265:=⟨trivial⟩
instance :TiC Tryz.prog 266 (tv aPf):=⟨aPf⟩
instance :NoA Tryz.prog 266:=⟨trivial⟩
instance :TiC Tryz.prog 270 (tv aWv):=⟨aWv⟩
instance :TiC Tryz.prog 274 (tv aVT):=⟨aVT⟩
instance :TiC Tryz.prog 276 (tv aS6):=⟨aS6⟩
instance :TiC Tryz.prog 277 (tv aVV):=⟨aVV⟩
instance :TiC Tryz.prog 278 (tv aK9):=⟨aK9⟩
instance :TiC Tryz.prog 282 (tv aV8):=⟨aV8⟩
instance :TiC Tryz.prog 289 (tv aVQ):=⟨aVQ⟩
instance :TiC Tryz.prog 292 (tv aWH):=⟨aWH⟩
instance :TiC Tryz.prog 293 (tv aWN):=⟨aWN⟩
instance :NoA Tryz.prog 293:=⟨trivial⟩
instance :TiC Tryz.prog 294 (tv aPq):=⟨aPq⟩
instance :NoA Tryz.prog 294:=⟨trivial⟩
instance :TiC Tryz.prog 297 (tv aWa):=⟨aWa⟩
instance :TiC Tryz.prog 298 (tv aMN):=⟨aMN⟩
instance :TiC Tryz.prog 328 (tv aVX):=⟨aVX⟩
instance :FaC Tryz.prog 28 0 0:=dU aEB rfl jT rfl rfl
instance :FaC Tryz.prog 28 1 1:=dU aEB rfl iH rfl rfl
instance :FaC Tryz.prog 28 2 33:=dU aEB rfl iH rfl rfl
instance :FaC Tryz.prog 28 3 65:=dU aEB rfl jT rfl rfl
instance :FaC Tryz.prog 28 4 66:=dU aEB rfl jT rfl rfl
instance :FaC Tryz.prog 28 5 67:=dU aEB rfl jT rfl rfl
instance :FaC Tryz.prog 34 0 0:=dU aA8 rfl aEB rfl rfl
instance :FaC Tryz.prog 34 1 68:=dU aA8 rfl aHw rfl rfl
instance :FaC Tryz.prog 34 2 72:=dU aA8 rfl ti3 rfl rfl
instance :FaC Tryz.prog 34 3 73:=dU aA8 rfl jT rfl rfl
instance :FaC Tryz.prog 34 4 74:=dU aA8 rfl jT rfl rfl
instance :FaC Tryz.prog 34 5 75:=dU aA8 rfl jT rfl rfl
instance :FaC Tryz.prog 34 6 76:=dU aA8 rfl aVj rfl rfl
instance :FaC Tryz.prog 34 7 77:=dU aA8 rfl ti2 rfl rfl
instance :FaC Tryz.prog 34 8 78:=dU aA8 rfl ti3 rfl rfl
instance :FaC Tryz.prog 34 9 79:=dU aA8 rfl ti3 rfl rfl
instance :FaC Tryz.prog 40 0 0:=dU aI4 rfl aA8 rfl rfl
instance :FaC Tryz.prog 40 1 80:=dU aI4 rfl aU1 rfl rfl
instance :FaC Tryz.prog 40 2 81:=dU aI4 rfl aUC rfl rfl
instance :FaC Tryz.prog 40 3 82:=dU aI4 rfl aUL rfl rfl
instance :FaC Tryz.prog 40 4 83:=dU aI4 rfl aVK rfl rfl
instance :FaC Tryz.prog 44 0 0:=dU zZ rfl ti3 rfl rfl
instance :FaC Tryz.prog 44 1 1:=dU zZ rfl iH rfl rfl
instance :FaC Tryz.prog 44 2 33:=dU zZ rfl aHA rfl rfl
instance :FaC Tryz.prog 47 0 0:=dU aKr rfl aEB rfl rfl
instance :FaC Tryz.prog 47 1 68:=dU aKr rfl aUV rfl rfl
instance :FaC Tryz.prog 51 0 0:=dU aHP rfl ti3 rfl rfl
instance :FaC Tryz.prog 51 1 1:=dU aHP rfl iH rfl rfl
instance :FaC Tryz.prog 51 2 33:=dU aHP rfl jT rfl rfl
instance :FaC Tryz.prog 51 3 34:=dU aHP rfl jT rfl rfl
instance :FaC Tryz.prog 51 4 35:=dU aHP rfl aS1 rfl rfl
instance :FaC Tryz.prog 54 0 0:=dU aVl rfl aHA rfl rfl
instance :FaC Tryz.prog 76 0 0:=dU g9 rfl iH rfl rfl
instance :FaC Tryz.prog 76 1 32:=dU g9 rfl jT rfl rfl
instance :FaC Tryz.prog 78 0 0:=dU aPY rfl ti2 rfl rfl
instance :FaC Tryz.prog 78 1 1:=dU aPY rfl nQ rfl rfl
instance :FaC Tryz.prog 80 0 0:=dU pR rfl g9 rfl rfl
instance :FaC Tryz.prog 80 1 33:=dU pR rfl aPY rfl rfl
instance :FaC Tryz.prog 80 2 35:=dU pR rfl ti3 rfl rfl
instance :FaC Tryz.prog 80 3 36:=dU pR rfl ti4 rfl rfl
instance :FaC Tryz.prog 91 0 0:=dU aNF rfl jT rfl rfl
instance :FaC Tryz.prog 91 1 1:=dU aNF rfl aUD rfl rfl
instance :FaC Tryz.prog 91 2 2:=dU aNF rfl aUW rfl rfl
instance :FaC Tryz.prog 91 3 3:=dU aNF rfl jT rfl rfl
instance :FaC Tryz.prog 97 0 0:=dU aKq rfl g9 rfl rfl
instance :FaC Tryz.prog 97 1 33:=dU aKq rfl jT rfl rfl
instance :FaC Tryz.prog 97 2 34:=dU aKq rfl aP8 rfl rfl
instance :FaC Tryz.prog 102 0 0:=dU aHg rfl aA8 rfl rfl
instance :FaC Tryz.prog 102 1 80:=dU aHg rfl ti3 rfl rfl
instance :FaC Tryz.prog 102 2 81:=dU aHg rfl aPh rfl rfl
instance :FaC Tryz.prog 102 3 82:=dU aHg rfl aHA rfl rfl
instance :FaC Tryz.prog 102 4 83:=dU aHg rfl ti2 rfl rfl
instance :FaC Tryz.prog 153 0 0:=dU aM2 rfl ti3 rfl rfl
instance :FaC Tryz.prog 153 1 1:=dU aM2 rfl iH rfl rfl
instance :FaC Tryz.prog 191 0 0:=dU aIF rfl iH rfl rfl
instance :FaC Tryz.prog 191 1 32:=dU aIF rfl ti3 rfl rfl
instance :FaC Tryz.prog 191 2 33:=dU aIF rfl ti3 rfl rfl
instance :FaC Tryz.prog 263 0 0:=dU aIr rfl ti3 rfl rfl
instance :FaC Tryz.prog 263 1 1:=dU aIr rfl nQ rfl rfl
instance :FaC Tryz.prog 263 2 2:=dU aIr rfl ti3 rfl rfl
instance :FaC Tryz.prog 263 3 3:=dU aIr rfl ti3 rfl rfl
instance :FaC Tryz.prog 266 0 0:=dU aPf rfl ti4 rfl rfl
instance :FaC Tryz.prog 266 1 1:=dU aPf rfl ti4 rfl rfl
instance :FaC Tryz.prog 278 0 0:=dU aK9 rfl aIF rfl rfl
instance :FaC Tryz.prog 278 1 34:=dU aK9 rfl aP8 rfl rfl
instance :FaC Tryz.prog 278 2 35:=dU aK9 rfl aS6 rfl rfl
instance :FaC Tryz.prog 278 3 36:=dU aK9 rfl ti3 rfl rfl
instance :FaC Tryz.prog 294 0 0:=dU aPq rfl ti4 rfl rfl
instance :FaC Tryz.prog 294 1 1:=dU aPq rfl ti4 rfl rfl
instance :FaC Tryz.prog 298 0 0:=dU aMN rfl aHw rfl rfl
instance :FaC Tryz.prog 298 1 4:=dU aMN rfl aHw rfl rfl
theorem aUM :eH Tryz.prog 28=some #[(0,1),(1,32),(33,32),(65,1),(66,1),(67,1)]:=by kernel_rfl
instance :PlC Tryz.prog 28 (pv aUM):=⟨aUM⟩
theorem aZk :eH Tryz.prog 34=some #[(0,68),(68,4),(72,1),(73,1),(74,1),(75,1),(76,1),(77,1),(78,1),(79,1)]:=by kernel_rfl
instance :PlC Tryz.prog 34 (pv aZk):=⟨aZk⟩
theorem aUJ :eH Tryz.prog 40=some #[(0,80),(80,1),(81,1),(82,1),(83,1)]:=by kernel_rfl
instance :PlC Tryz.prog 40 (pv aUJ):=⟨aUJ⟩
theorem aF5 :eH Tryz.prog 44=some #[(0,1),(1,32),(33,1)]:=by kernel_rfl
instance :PlC Tryz.prog 44 (pv aF5):=⟨aF5⟩
theorem aQb :eH Tryz.prog 47=some #[(0,68),(68,1)]:=by kernel_rfl
instance :PlC Tryz.prog 47 (pv aQb):=⟨aQb⟩
theorem aVk :eH Tryz.prog 51=some #[(0,1),(1,32),(33,1),(34,1),(35,1)]:=by kernel_rfl
instance :PlC Tryz.prog 51 (pv aVk):=⟨aVk⟩
theorem aY1 :eH Tryz.prog 54=some #[(0,1)]:=by kernel_rfl
instance :PlC Tryz.prog 54 (pv aY1):=⟨aY1⟩
theorem aI5 :eH Tryz.prog 76=some #[(0,32),(32,1)]:=by kernel_rfl
instance :PlC Tryz.prog 76 (pv aI5):=⟨aI5⟩
theorem aY8 :eH Tryz.prog 78=some #[(0,1),(1,1)]:=by kernel_rfl
instance :PlC Tryz.prog 78 (pv aY8):=⟨aY8⟩
theorem aQ2 :eH Tryz.prog 80=some #[(0,33),(33,2),(35,1),(36,1)]:=by kernel_rfl
instance :PlC Tryz.prog 80 (pv aQ2):=⟨aQ2⟩
theorem aYw :eH Tryz.prog 91=some #[(0,1),(1,1),(2,1),(3,1)]:=by kernel_rfl
instance :PlC Tryz.prog 91 (pv aYw):=⟨aYw⟩
theorem aSp :eH Tryz.prog 97=some #[(0,33),(33,1),(34,1)]:=by kernel_rfl
instance :PlC Tryz.prog 97 (pv aSp):=⟨aSp⟩
theorem aS5 :eH Tryz.prog 102=some #[(0,80),(80,1),(81,1),(82,1),(83,1)]:=by kernel_rfl
instance :PlC Tryz.prog 102 (pv aS5):=⟨aS5⟩
theorem aSJ :eH Tryz.prog 191=some #[(0,32),(32,1),(33,1)]:=by kernel_rfl
instance :PlC Tryz.prog 191 (pv aSJ):=⟨aSJ⟩
theorem aWG :eH Tryz.prog 263=some #[(0,1),(1,1),(2,1),(3,1)]:=by kernel_rfl
instance :PlC Tryz.prog 263 (pv aWG):=⟨aWG⟩
theorem aWi :eH Tryz.prog 266=some #[(0,1),(1,1)]:=by kernel_rfl
instance :PlC Tryz.prog 266 (pv aWi):=⟨aWi⟩
theorem aWA :eH Tryz.prog 278=some #[(0,34),(34,1),(35,1),(36,1)]:=by kernel_rfl
instance :PlC Tryz.prog 278 (pv aWA):=⟨aWA⟩
theorem aWn :eH Tryz.prog 294=some #[(0,1),(1,1)]:=by kernel_rfl
instance :PlC Tryz.prog 294 (pv aWn):=⟨aWn⟩
theorem aVU :eH Tryz.prog 298=some #[(0,4),(4,4)]:=by kernel_rfl
instance :PlC Tryz.prog 298 (pv aVU):=⟨aVU⟩
instance :ZrA Tryz.prog 28 ((eI .u32 0)::(aN (eI .u8) (a1a 32 0) (aN (eI .u8) (a1a 32 0) [eI .u32 0,eI .u32 0,eI .u32 0]))):=zrA aEB
instance :ZrA Tryz.prog 34 ((eI .u32 0)::(aN (eI .u8) (a1a 32 0) (aN (eI .u8) (a1a 32 0) ((eI .u32 0)::((eI .u32 0)::((eI .u32 0)::(eU (eI .u64) (a1a 4 0) [eI .i64 0,eI .u32 0,eI .u32 0,eI .u32 0,.row (some true) 1 [],eI .i64 0,eI .i64 0,eI .i64 0]))))))):=zrA aA8
instance :ZrA Tryz.prog 40 ((eI .u32 0)::(aN (eI .u8) (a1a 32 0) (aN (eI .u8) (a1a 32 0) ((eI .u32 0)::((eI .u32 0)::((eI .u32 0)::(eU (eI .u64) (a1a 4 0) [eI .i64 0,eI .u32 0,eI .u32 0,eI .u32 0,.row (some true) 1 [],eI .i64 0,eI .i64 0,eI .i64 0,.row (some true) 1 [],.row (some true) 1 [],.row (some true) 1 [],.row (some true) 1 []]))))))):=zrA aI4
instance :ZrA Tryz.prog 44 ((eI .i64 0)::(aN (eI .u8) (a1a 32 0) [.row (some true) 1 []])):=zrA zZ
instance :ZrA Tryz.prog 47 ((eI .u32 0)::(aN (eI .u8) (a1a 32 0) (aN (eI .u8) (a1a 32 0) [eI .u32 0,eI .u32 0,eI .u32 0,.row (some true) 1 []]))):=zrA aKr
instance :ZrA Tryz.prog 51 ((eI .i64 0)::(aN (eI .u8) (a1a 32 0) [eI .u32 0,eI .u32 0,.row (some true) 1 []])):=zrA aHP
instance :ZrA Tryz.prog 76 (aN (eI .u8) (a1a 32 0) [eI .u32 0]):=zrA g9
instance :ZrA Tryz.prog 80 (aN (eI .u8) (a1a 32 0) [eI .u32 0,eI .i64 0,.row (some true) 1 [],eI .i64 0,eB false]):=zrA pR
instance :ZrA Tryz.prog 97 (aN (eI .u8) (a1a 32 0) [eI .u32 0,eI .u32 0,.row (some true) 1 []]):=zrA aKq
instance :ZrA Tryz.prog 153 ((eI .i64 0)::(aN (eI .u8) (a1a 32 0) [])):=zrA aM2
instance :ZrA Tryz.prog 298 (eU (eI .u64) (a1a 4 0) (eU (eI .u64) (a1a 4 0) [])):=zrA aMN
theorem a0A :vB Tryz.prog 9 26=some ((a1a 32 ([.int .u8])).flatten):=by kernel_rfl
theorem sH :vB Tryz.prog 9 76=some ((a1a 32 ([.int .u8])).flatten++[.int .u32]):=by kernel_rfl
theorem vS :Tryz.prog.eqGuardType Tryz.prog.depth 76=false:=by kernel_rfl
noncomputable def aNo :MT:=(r9 Tryz.prog 100).getD default
theorem aZ9 :r9 Tryz.prog 100=some aNo:=by kernel_rfl
theorem aZy :aHl Tryz.prog aNo.kt (fun a:aB=> .agg (aBn (bP a)).toArray) r8:=by
 rw[show aNo.kt=76 by kernel_rfl];exact aIN (d:=9) g9 rfl sH (a1b rfl) (fun _=>rfl) (fun _ _=>rfl)
instance :MpC Tryz.prog 100 aB aA r8 (fun a=> .agg (bP a)) bP aF aJ dO (aA.mk (aB.mk (a1a 32 0) 0) (aW.mk 0 []) 0 false) 33037:=⟨aNo,33,37,_,aZ9,by kernel_rfl,by kernel_rfl,by kernel_rfl,fun _=>rfl,aZy,fun _=>rfl,fun _=>rfl,fun _=>rfl,fun _=>rfl,fun _=>rfl,fun _=>rfl,fun _=>rfl,fun _=>⟨rfl,rfl⟩,by kernel_rfl⟩
noncomputable def aM6 :MT:=(r9 Tryz.prog 118).getD default
theorem a0d :r9 Tryz.prog 118=some aM6:=by kernel_rfl
theorem aZE :aHl Tryz.prog aM6.kt (fun a:ByteArray=> .string a) aPv:=by
 rw[show aM6.kt=9 by kernel_rfl];exact aUc ti9 rfl (by kernel_rfl)
instance :MpC Tryz.prog 118 ByteArray Bool aPv eS (fun a=>[eS a]) (fun b=>[eB b]) eB aLk false 0:=⟨aM6,0,0,_,a0d,by kernel_rfl,by kernel_rfl,by kernel_rfl,fun _=>rfl,aZE,fun _=>rfl,fun _=>rfl,fun _=>rfl,fun _=>rfl,fun _=>rfl,fun _=>rfl,fun _=>rfl,fun _=>⟨rfl,rfl⟩,by kernel_rfl⟩
noncomputable def aMO :MT:=(r9 Tryz.prog 160).getD default
theorem aZZ :r9 Tryz.prog 160=some aMO:=by kernel_rfl
theorem aZK :aHl Tryz.prog aMO.kt (fun a:aB=> .agg (aBn (bP a)).toArray) kH:=by
 rw[show aMO.kt=76 by kernel_rfl];exact aIN (d:=9) g9 rfl sH (a1b rfl) (fun _=>rfl) (fun _ _=>rfl)
instance :MpC Tryz.prog 160 aB Bool kH (fun a=> .agg (bP a)) bP (fun b=>[eB b]) eB uA false 33000:=⟨aMO,33,0,_,aZZ,by kernel_rfl,by kernel_rfl,by kernel_rfl,fun _=>rfl,aZK,fun _=>rfl,fun _=>rfl,fun _=>rfl,fun _=>rfl,fun _=>rfl,fun _=>rfl,fun _=>rfl,fun _=>⟨rfl,rfl⟩,by kernel_rfl⟩
noncomputable def aMM :MT:=(r9 Tryz.prog 200).getD default
theorem aZH :r9 Tryz.prog 200=some aMM:=by kernel_rfl
theorem aZX :aHl Tryz.prog aMM.kt (fun a:List Int=> .agg (aBn ((dV (eI .u8)) a)).toArray) y0:=by
 rw[show aMM.kt=26 by kernel_rfl];exact aIN (d:=9) iH rfl a0A (a1b rfl) (fun _=>rfl) (fun _ _=>rfl)
instance :MpC Tryz.prog 200 (List Int) Int y0 (fun a=> .agg ((dV (eI .u8)) a)) (dV (eI .u8)) (fun b=>[(eI .i64) b]) (eI .i64) aFb 0 32000:=⟨aMM,32,0,_,aZH,by kernel_rfl,by kernel_rfl,by kernel_rfl,fun _=>rfl,aZX,fun _=>rfl,fun _=>rfl,fun _=>rfl,fun _=>rfl,fun _=>rfl,fun _=>rfl,fun _=>rfl,fun _=>⟨rfl,rfl⟩,by kernel_rfl⟩
theorem zH {p:Prop} (h:p:=by(simp only[qL,kE,aLE,rnH,Blk.rn,V.rns,V.rn,sg,List.map_cons,List.map_nil,Option.map_some,Option.map_none,List.drop_succ_cons,List.drop_zero,List.drop_nil,List.set_cons_zero,List.set_cons_succ,List.cons_append,List.nil_append,List.append_nil,aAn,aAm,aYi,aYP,aLY,aLU,aIn,aIo,aMk,aMs,aKP,aKX,aMx,aL5,aN6,aNN,aMv,aLT,aLp,aLn,aME,aMT,aQQ,aQF,aMW,aMG,aN9,aNI,aD2,aD8,aQH,aP2,aDy,aCY,aJR,aJS,aO5,aO3,aUe,aUh,aJQ,aJU,aTU,aTI,aRP,aRB,aQf,aQX,aQO,aXP,aVA,List.getElem?_cons_zero,List.getElem?_cons_succ,List.getElem?_nil,List.length_cons,List.length_nil,Nat.reduceAdd,Nat.reduceSub,Nat.add_zero,Nat.zero_add,Nat.sub_self,Nat.sub_zero]<;>rfl)):p:=h
theorem zc {f:FuncId}{hb:Hp}{args xs:List V}{r:V}{N n t:Nat}{ops:Array Oper}{l:List Oper}{fr:List (Nat×V)}{K:List V→Hp→Prop}{ty:TypeId}{pos:String}{aft:Array Edge}{ws:List Operand}{ts:Array TypeId}{hs hs' hb':Hp}{v:V}(hc:Vm.Fn Tryz.prog f hs args r hs')(ρ:List Nat)(k:OpsX Tryz.prog N none ops l (aG n ((t,v)::fr)) hb' K) (hw:kQ n fr ws=some xs:=by rfl) (hnd:ρ.Nodup:=by decide) (hlt:ρ.all (fun b=>Nat.blt b hb.length)=true:=by rfl) (hl:Lend (sg ρ hb.length) hb ρ hs:=by repeat (first|exact Lend.nil|refine Lend.cons rfl rfl ?_|refine Lend.cons rfl (qO (fun _=>rfl) _) ?_|refine Lend.cons rfl (cV (fun _=>rfl) _) ?_)) (hx:V.les wV xs (V.rns (sg ρ hb.length) args):=by repeat (first|exact V.les_refl _ _|exact V.les_nil|apply V.les_cons|exact V.le_refl _ _|exact V.le_nil|exact V.le_row|exact V.le_arr (fun _=>rfl)|apply V.le_agg)) (hr:r.rn (sg ρ hb.length)=v:=by exact zH) (hh:qL hb ρ hs'=hb':=by exact zH):OpsX Tryz.prog N none ops (⟨some t,.call ⟨.value (.func f),ws.toArray,ts⟩,ty,pos,aft,none⟩::l) (aG n fr) hb K:=xC hw (Vm.Fn.argsLe (Vm.Fn.lendB hc ρ hnd hlt hl rfl hr hh) hx) k
theorem mL {f:FuncId}{hb:Hp}{args xs:List V}{r:V}{N n t:Nat}{ops:Array Oper}{l:List Oper}{fr:List (Nat×V)}{K:List V→Hp→Prop}{ty:TypeId}{pos:String}{aft:Array Edge}{ws:List Operand}{ts:Array TypeId}{hs hs' hb':Hp}{v:V}(hc:Vm.Fn Tryz.prog f hs args r hs')(ρ β:List Nat)(k:OpsX Tryz.prog N none ops l (aG n ((t,v)::fr)) hb' K) (hw:kQ n fr ws=some xs:=by rfl) (hnd:ρ.Nodup:=by decide) (hlt:ρ.all (fun b=>Nat.blt b hb.length)=true:=by rfl) (hdis: ∀b∈β,b∉ρ:=by decide) (hl:Lend (sg ρ hb.length) hb ρ hs:=by repeat (first|exact Lend.nil|refine Lend.cons rfl rfl ?_|refine Lend.cons rfl (qO (fun _=>rfl) _) ?_|refine Lend.cons rfl (cV (fun _=>rfl) _) ?_)) (hx:Brw (sg ρ hb.length) (only β hb) xs args:=by repeat (first|exact Brw.nil|refine Brw.same rfl ?_|refine Brw.row (aNE (by first|exact rfl|(simp only[bN,bO];done)|exact aT (by assumption)|exact bL (by assumption)) rfl (fun _=>rfl)) ?_|refine Brw.row (aMh (fun _=>rfl) zl (by first|exact rfl|(simp only[bN,bO];done)|exact aT (by assumption)|exact bL (by assumption)) rfl (fun _=>rfl)) ?_|refine Brw.row (aKR (fun _=>rfl) zl (fun x hx=>dE (aI2 (by assumption) x hx)) (by first|exact rfl|(simp only[bN,bO];done)|exact aT (by assumption)|exact bL (by assumption)) rfl (fun _=>rfl)) ?_|refine Brw.same (by simp only[V.rn,V.rns,aAn,aAm]) ?_|refine Brw.le V.le_nil ?_|refine Brw.le V.le_row ?_)) (hrf:r.rf=true:=by first|rfl|simp[V.rf,V.rfs,aPF,aQ4]) (hrb:rfB hs':=by repeat (first|exact rfB.nil|refine rfB.dead ?_|refine rfB.live rfl ?_|refine rfB.live (aFF (fun _=>rfl) _) ?_|refine rfB.live (aJm (fun _=>rfl) _) ?_)) (hr:r.rn (sg ρ hb.length)=v:=by exact zH) (hh:qL hb ρ hs'=hb':=by exact zH):OpsX Tryz.prog N none ops (⟨some t,.call ⟨.value (.func f),ws.toArray,ts⟩,ty,pos,aft,none⟩::l) (aG n fr) hb K:=xC hw (Vm.Fn.lendR hc ρ β hnd hlt hdis hl hx hrf hrb hr hh) k
theorem zg {f:FuncId}{hb:Hp}{args xs:List V}{r:V}{N n t:Nat}{ops:Array Oper}{l:List Oper}{fr:List (Nat×V)}{K:List V→Hp→Prop}{ty:TypeId}{pos:String}{aft:Array Edge}{ws:List Operand}{ts:Array TypeId}{hs hs' hb':Hp}{v:V}{F G:List Nat}{gd:Option (Nat×Bool)}(hc:Vm.Fn Tryz.prog f hs args r hs')(ρ:List Nat)(k:OpsX Tryz.prog N (some (F,G)) ops l (aG n ((t,v)::fr)) hb' K) (hw:kQ n fr ws=some xs:=by rfl) (hnd:ρ.Nodup:=by decide) (hlt:ρ.all (fun b=>Nat.blt b hb.length)=true:=by rfl) (hl:Lend (sg ρ hb.length) hb ρ hs:=by repeat (first|exact Lend.nil|refine Lend.cons rfl rfl ?_|refine Lend.cons rfl (qO (fun _=>rfl) _) ?_|refine Lend.cons rfl (cV (fun _=>rfl) _) ?_)) (hx:V.les wV xs (V.rns (sg ρ hb.length) args):=by repeat (first|exact V.les_refl _ _|exact V.les_nil|apply V.les_cons|exact V.le_refl _ _|exact V.le_nil|exact V.le_row|exact V.le_arr (fun _=>rfl)|apply V.le_agg)) (hr:r.rn (sg ρ hb.length)=v:=by exact zH) (hh:qL hb ρ hs'=hb':=by exact zH) (hF:cD F f=false:=by rfl) (hG:cD G f=true→ ∃news,hb'=hb++news:=by first|exact(fun _=>⟨_,rfl⟩)|exact(fun _=>⟨[],(List.append_nil _).symm⟩)|exact(fun h=>absurd h (by decide))) (hg:Gd ops n fr gd:=by exact gD):OpsX Tryz.prog N (some (F,G)) ops (⟨some t,.call ⟨.value (.func f),ws.toArray,ts⟩,ty,pos,aft,gd⟩::l) (aG n fr) hb K:=xG hw (Vm.Fn.argsLe (Vm.Fn.lendB hc ρ hnd hlt hl rfl hr hh) hx) k hF hG hg
theorem zgL {f:FuncId}{hb:Hp}{args xs:List V}{r:V}{N n t:Nat}{ops:Array Oper}{l:List Oper}{fr:List (Nat×V)}{K:List V→Hp→Prop}{ty:TypeId}{pos:String}{aft:Array Edge}{ws:List Operand}{ts:Array TypeId}{hs hs' hb':Hp}{v:V}{F G:List Nat}{gd:Option (Nat×Bool)}(hc:Vm.Fn Tryz.prog f hs args r hs')(ρ β:List Nat)(k:OpsX Tryz.prog N (some (F,G)) ops l (aG n ((t,v)::fr)) hb' K) (hw:kQ n fr ws=some xs:=by rfl) (hnd:ρ.Nodup:=by decide) (hlt:ρ.all (fun b=>Nat.blt b hb.length)=true:=by rfl) (hdis: ∀b∈β,b∉ρ:=by decide) (hl:Lend (sg ρ hb.length) hb ρ hs:=by repeat (first|exact Lend.nil|refine Lend.cons rfl rfl ?_|refine Lend.cons rfl (qO (fun _=>rfl) _) ?_|refine Lend.cons rfl (cV (fun _=>rfl) _) ?_)) (hx:Brw (sg ρ hb.length) (only β hb) xs args:=by repeat (first|exact Brw.nil|refine Brw.same rfl ?_|refine Brw.row (aNE (by first|exact rfl|(simp only[bN,bO];done)|exact aT (by assumption)|exact bL (by assumption)) rfl (fun _=>rfl)) ?_|refine Brw.row (aMh (fun _=>rfl) zl (by first|exact rfl|(simp only[bN,bO];done)|exact aT (by assumption)|exact bL (by assumption)) rfl (fun _=>rfl)) ?_|refine Brw.row (aKR (fun _=>rfl) zl (fun x hx=>dE (aI2 (by assumption) x hx)) (by first|exact rfl|(simp only[bN,bO];done)|exact aT (by assumption)|exact bL (by assumption)) rfl (fun _=>rfl)) ?_|refine Brw.same (by simp only[V.rn,V.rns,aAn,aAm]) ?_|refine Brw.le V.le_nil ?_|refine Brw.le V.le_row ?_)) (hrf:r.rf=true:=by first|rfl|simp[V.rf,V.rfs,aPF,aQ4]) (hrb:rfB hs':=by repeat (first|exact rfB.nil|refine rfB.dead ?_|refine rfB.live rfl ?_|refine rfB.live (aFF (fun _=>rfl) _) ?_|refine rfB.live (aJm (fun _=>rfl) _) ?_)) (hr:r.rn (sg ρ hb.length)=v:=by exact zH) (hh:qL hb ρ hs'=hb':=by exact zH) (hF:cD F f=false:=by rfl) (hG:cD G f=true→ ∃news,hb'=hb++news:=by first|exact(fun _=>⟨_,rfl⟩)|exact(fun _=>⟨[],(List.append_nil _).symm⟩)|exact(fun h=>absurd h (by decide))) (hg:Gd ops n fr gd:=by exact gD):OpsX Tryz.prog N (some (F,G)) ops (⟨some t,.call ⟨.value (.func f),ws.toArray,ts⟩,ty,pos,aft,gd⟩::l) (aG n fr) hb K:=xG hw (Vm.Fn.lendR hc ρ β hnd hlt hdis hl hx hrf hrb hr hh) k hF hG hg
theorem xp {f:FuncId}{hb:Hp}{args xs:List V}{r:V}{N n t:Nat}{ops:Array Oper}{l:List Oper}{fr:List (Nat×V)}{K:List V→Hp→Prop}{ty:TypeId}{pos:String}{aft:Array Edge}{ws:List Operand}{ts:Array TypeId}(hc:Vm.Fn Tryz.prog f [] args r [])(k:OpsX Tryz.prog N none ops l (aG n ((t,r)::fr)) hb K) (hw:kQ n fr ws=some xs:=by rfl) (hx:V.les wV xs args:=by repeat (first|exact V.les_refl _ _|exact V.les_nil|apply V.les_cons|exact V.le_refl _ _|exact V.le_nil|exact V.le_row|exact V.le_arr (fun _=>rfl)|apply V.le_agg)) (ha:V.rns (sg [] hb.length) args=args:=by first|rfl|(simp only[V.rn,V.rns,aAn,aAm]<;>rfl)) (hr:r.rn (sg [] hb.length)=r:=by first|rfl|(simp only[V.rn,V.rns,aAn,aAm]<;>rfl)):OpsX Tryz.prog N none ops (⟨some t,.call ⟨.value (.func f),ws.toArray,ts⟩,ty,pos,aft,none⟩::l) (aG n fr) hb K:=xC hw (Vm.Fn.argsLe (Vm.Fn.pure hc ha hr) hx) k
theorem xu {f:FuncId}{hb:Hp}{args xs:List V}{r:V}{N n t:Nat}{ops:Array Oper}{l:List Oper}{fr:List (Nat×V)}{K:List V→Hp→Prop}{ty:TypeId}{pos:String}{aft:Array Edge}{ws:List Operand}{ts:Array TypeId}{F G:List Nat}{gd:Option (Nat×Bool)}(hc:Vm.Fn Tryz.prog f [] args r [])(k:OpsX Tryz.prog N (some (F,G)) ops l (aG n ((t,r)::fr)) hb K) (hw:kQ n fr ws=some xs:=by rfl) (hx:V.les wV xs args:=by repeat (first|exact V.les_refl _ _|exact V.les_nil|apply V.les_cons|exact V.le_refl _ _|exact V.le_nil|exact V.le_row|exact V.le_arr (fun _=>rfl)|apply V.le_agg)) (ha: ∀L,V.rns (sg [] L) args=args:=by(intro L;first|rfl|(simp only[V.rn,V.rns,aAn,aAm]<;>rfl))) (hr: ∀L,r.rn (sg [] L)=r:=by(intro L;first|rfl|(simp only[V.rn,V.rns,aAn,aAm]<;>rfl))) (hG:cD G f=false:=by rfl) (hg:Gd ops n fr gd:=by exact gD):OpsX Tryz.prog N (some (F,G)) ops (⟨some t,.call ⟨.value (.func f),ws.toArray,ts⟩,ty,pos,aft,gd⟩::l) (aG n fr) hb K:=xU hw (fun _=>Vm.Fn.argsLe (Vm.Fn.pure hc (ha _) (hr _)) hx) k hG hg
end Go.Proofs.YtopdhljncajmpaaGreatDoor
set_option linter.unusedSimpArgs false
set_option linter.unusedVariables false
set_option maxRecDepth 20000
set_option maxHeartbeats 1000000
namespace Go.Proofs.YtopdhljncajmpaaGreatDoor
open Go Go.Vm
theorem aXe {N vs r} (he:vs≠ []) (hr:dQ N vs=some r):Vm.Fn Tryz.prog 90 [] [.row none 1 (vs.map (eI .u8))] (.row none 1 (r.map (eI .u8))) []:=by
 refine zf Tryz.func90 Tryz.ntmps90 ?_
 unfold dQ at hr
 refine zz ?_
 refine a1c<|zz ?_
 refine xw (v:=(eB false)) (eY rfl rfl (aXS he nQ)) ?_
 refine zz ?_
 refine AB.cndF rfl rfl ?_
 obtain⟨x7,h_1,hr⟩:=aP hr
 refine zz ?_
 refine xw (v:=(.sl 0 0 0 1 false)) (h':=[some ⟨5,[].map (eI .u8)⟩]) (pD rfl (aVW nQ nF rfl rfl rfl rfl)) ?_
 refine zz ?_
 obtain rfl:=sj hr
 exact zr1 Tryz.results90 fA (Ghost.trans (zv 1) (zG []))
theorem aXi {N r} (hr:dQ N []=some r):Vm.Fn Tryz.prog 90 [] [.row (some true) 1 []] (.row none 1 (r.map (eI .u8))) []:=by
 refine zf Tryz.func90 Tryz.ntmps90 ?_
 refine zz ?_
 refine a1c<|zz ?_
 refine xw (v:=(eB true)) (eY rfl rfl (aWT nQ)) ?_
 refine zz ?_
 refine AB.cnd rfl (fun _=> ?_) (fun h=>by cases h)
 refine a1c<|zz ?_
 obtain rfl:[]=r:=sj hr
 exact zd1 Tryz.results90 []
theorem aXR {N ad cap r} (hr:dQ N []=some r):Vm.Fn Tryz.prog 90 [] [.sc (.slice (some ad) 0 cap)] (.row none 1 (r.map (eI .u8))) []:=by
 refine zf Tryz.func90 Tryz.ntmps90 ?_
 refine zz ?_
 refine a1c<|a1c<|zz ?_
 refine xS (eY rfl rfl (aYb nQ)) ?_
 refine zz ?_
 refine AB.cnd rfl (fun h=>by cases h) (fun _=> ?_)
 refine AB.skip ?_
 show AB _ _ _ _ _ _
 refine AB.ghost (Ghost.sc0 (t:=0) (k:=1) rfl) ?_
 show AB _ _ _ _ (aG 8 [(0,.row none 1 (([]:List Int).map (eI .u8)))]) []
 unfold dQ at hr
 obtain⟨x7,h_1,hr⟩:=aP hr
 refine a1c<|xr ?_
 refine xw (v:=(.sl 0 0 0 1 false)) (h':=[some ⟨5,[].map (eI .u8)⟩]) (pD rfl (aVW nQ nF rfl rfl rfl rfl)) ?_
 refine zz ?_
 obtain rfl:=sj hr
 exact zr1 Tryz.results90 fA (Ghost.trans (zv 1) (zG []))
theorem aFs {N vs r} (hr:dQ N vs=some r):Vm.Fn Tryz.prog 90 [] [.row none 1 (vs.map (eI .u8))] (.row none 1 (r.map (eI .u8))) []:=by
 refine Fn.nilCases (fun he=>aXe (fun h=>he (by rw[h];rfl)) hr) (fun he=>aXi (N:=N) ?_) (fun ad cap he=>aXR (N:=N) ?_)
 all_goals (cases vs with
  |nil=>exact hr
  |cons a l=>cases he)
end Go.Proofs.YtopdhljncajmpaaGreatDoor
