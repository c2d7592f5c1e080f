/- Texts of ours, joined. -/
import Derived.Test.YtopdhljncajmpaaGreatDoorQC2
import Derived.Test.YtopdhljncajmpaaGreatDoorQC3
import Derived.Test.YtopdhljncajmpaaGreatDoorQC4
open List renaming replicate → a1K
open Nat renaming le_of_ble_eq_true → a1L
open Go.Vm.AB renaming seq → a1M
namespace Go.Proofs.YtopdhljncajmpaaGreatDoor
open Go Go.Vm
theorem mixed :Tryz.prog.follows .mixedOrders=true:=by kernel_rfl
theorem dep :2≤Tryz.prog.depth:=a1L (by kernel_rfl)
instance :DepC Tryz.prog:=⟨dep⟩
noncomputable def E1 :Env Tryz.prog:={O:=fun _ _ _=>none,F:=a08,ok:=fun _ _ _ _ _ hh=>(by cases hh),still:=fun _ _ _ _ _ _ hh=>(by cases hh),mixed:=mixed}
instance :TiC Tryz.prog 2 (tv ti2):=⟨ti2⟩
instance :TiC Tryz.prog 3 (tv ti3):=⟨ti3⟩
instance :TiC Tryz.prog 4 (tv ti4):=⟨ti4⟩
instance :TiC Tryz.prog 5 (tv mF):=⟨mF⟩
instance :TiC Tryz.prog 9 (tv ti9):=⟨ti9⟩
instance :TiC Tryz.prog 12 (tv aYd):=⟨aYd⟩
instance :TiC Tryz.prog 21 (tv aZD):=⟨aZD⟩
instance :TiC Tryz.prog 22 (tv lI):=⟨lI⟩
instance :TiC Tryz.prog 24 (tv jA):=⟨jA⟩
instance :TiC Tryz.prog 25 (tv aZU):=⟨aZU⟩
instance :TiC Tryz.prog 26 (tv gZ):=⟨gZ⟩
instance :TiC Tryz.prog 27 (tv aZH):=⟨aZH⟩
instance :TiC Tryz.prog 28 (tv aED):=⟨aED⟩
instance :TiC Tryz.prog 29 (tv aGz):=⟨aGz⟩
instance :TiC Tryz.prog 30 (tv aZF):=⟨aZF⟩
instance :TiC Tryz.prog 31 (tv aHK):=⟨aHK⟩
instance :TiC Tryz.prog 32 (tv aVz):=⟨aVz⟩
instance :TiC Tryz.prog 33 (tv aZd):=⟨aZd⟩
instance :TiC Tryz.prog 34 (tv aA8):=⟨aA8⟩
instance :TiC Tryz.prog 35 (tv aVm):=⟨aVm⟩
instance :TiC Tryz.prog 36 (tv aUS):=⟨aUS⟩
instance :TiC Tryz.prog 37 (tv aU2):=⟨aU2⟩
instance :TiC Tryz.prog 38 (tv aV2):=⟨aV2⟩
instance :TiC Tryz.prog 39 (tv aZN):=⟨aZN⟩
instance :TiC Tryz.prog 40 (tv aJv):=⟨aJv⟩
instance :TiC Tryz.prog 42 (tv aLa):=⟨aLa⟩
instance :TiC Tryz.prog 43 (tv aZx):=⟨aZx⟩
instance :TiC Tryz.prog 44 (tv aJl):=⟨aJl⟩
instance :TiC Tryz.prog 45 (tv aS0):=⟨aS0⟩
instance :TiC Tryz.prog 46 (tv aZW):=⟨aZW⟩
instance :TiC Tryz.prog 47 (tv aDc):=⟨aDc⟩
instance :TiC Tryz.prog 49 (tv aTf):=⟨aTf⟩
instance :TiC Tryz.prog 50 (tv aYr):=⟨aYr⟩
instance :TiC Tryz.prog 51 (tv aH2):=⟨aH2⟩
instance :TiC Tryz.prog 53 (tv aYq):=⟨aYq⟩
instance :NoA Tryz.prog 53:=⟨trivial⟩
instance :TiC Tryz.prog 54 (tv aVB):=⟨aVB⟩
instance :NoA Tryz.prog 54:=⟨trivial⟩
instance :TiC Tryz.prog 55 (tv aYY):=⟨aYY⟩
instance :TiC Tryz.prog 61 (tv aMD):=⟨aMD⟩
instance :TiC Tryz.prog 74 (tv aZG):=⟨aZG⟩
instance :TiC Tryz.prog 75 (tv aZy):=⟨aZy⟩
instance :TiC Tryz.prog 76 (tv jL):=⟨jL⟩
instance :TiC Tryz.prog 77 (tv aYc):=⟨aYc⟩
instance :NoA Tryz.prog 77:=⟨trivial⟩
instance :TiC Tryz.prog 78 (tv aQA):=⟨aQA⟩
instance :NoA Tryz.prog 78:=⟨trivial⟩
instance :TiC Tryz.prog 79 (tv aYv):=⟨aYv⟩
instance :TiC Tryz.prog 80 (tv rP):=⟨rP⟩
instance :TiC Tryz.prog 88 (tv aOc):=⟨aOc⟩
instance :TiC Tryz.prog 89 (tv aKZ):=⟨aKZ⟩
instance :TiC Tryz.prog 90 (tv aY2):=⟨aY2⟩
instance :NoA Tryz.prog 90:=⟨trivial⟩
instance :TiC Tryz.prog 91 (tv aCR):=⟨aCR⟩
instance :NoA Tryz.prog 91:=⟨trivial⟩
instance :TiC Tryz.prog 96 (tv aYE):=⟨aYE⟩
instance :TiC Tryz.prog 97 (tv aJg):=⟨aJg⟩
instance :TiC Tryz.prog 99 (tv aYN):=⟨aYN⟩
instance :TiC Tryz.prog 100 (tv aPQ):=⟨aPQ⟩
instance :TiC Tryz.prog 101 (tv aWc):=⟨aWc⟩
instance :TiC Tryz.prog 102 (tv aHq):=⟨aHq⟩
instance :TiC Tryz.prog 118 (tv aWE):=⟨aWE⟩
instance :TiC Tryz.prog 140 (tv aFd):=⟨aFd⟩
instance :TiC Tryz.prog 152 (tv aWV):=⟨aWV⟩
instance :TiC Tryz.prog 153 (tv aNu):=⟨aNu⟩
instance :TiC Tryz.prog 160 (tv aWn):=⟨aWn⟩
instance :TiC Tryz.prog 167 (tv aWl):=⟨aWl⟩
instance :TiC Tryz.prog 182 (tv aWJ):=⟨aWJ⟩
instance :TiC Tryz.prog 190 (tv aWL):=⟨aWL⟩
instance :TiC Tryz.prog 191 (tv aE9):=⟨aE9⟩
instance :TiC Tryz.prog 194 (tv aWm):=⟨aWm⟩
instance :TiC Tryz.prog 200 (tv aWB):=⟨aWB⟩
instance :TiC Tryz.prog 208 (tv aWM):=⟨aWM⟩
instance :TiC Tryz.prog 221 (tv aI4):=⟨aI4⟩
instance :TiC Tryz.prog 223 (tv aPP):=⟨aPP⟩
instance :TiC Tryz.prog 233 (tv aWb):=⟨aWb⟩
instance :TiC Tryz.prog 235 (tv aWS):=⟨aWS⟩
instance :TiC Tryz.prog 245 (tv aP1):=⟨aP1⟩
instance :TiC Tryz.prog 249 (tv aP7):=⟨aP7⟩
instance :TiC Tryz.prog 251 (tv aPS):=⟨aPS⟩
instance :TiC Tryz.prog 255 (tv aWW):=⟨aWW⟩
instance :TiC Tryz.prog 261 (tv aWI):=⟨aWI⟩
instance :TiC Tryz.prog 262 (tv aWp):=⟨aWp⟩
instance :NoA Tryz.prog 262:=⟨trivial⟩
instance :TiC Tryz.prog 263 (tv aGX):=⟨aGX⟩
instance :NoA Tryz.prog 263:=⟨trivial⟩
instance :TiC Tryz.prog 265 (tv aWu):=⟨aWu⟩
instance :NoA Tryz.prog 265:=⟨trivial⟩
instance :TiC Tryz.prog 266 (tv aPO):=⟨aPO⟩
instance :NoA Tryz.prog 266:=⟨trivial⟩
instance :TiC Tryz.prog 270 (tv aWO):=⟨aWO⟩
instance :TiC Tryz.prog 274 (tv aWd):=⟨aWd⟩
instance :TiC Tryz.prog 276 (tv aTk):=⟨aTk⟩
instance :TiC Tryz.prog 277 (tv aWf):=⟨aWf⟩
instance :TiC Tryz.prog 278 (tv aFj):=⟨aFj⟩
instance :TiC Tryz.prog 282 (tv aWq):=⟨aWq⟩
instance :TiC Tryz.prog 289 (tv aWa):=⟨aWa⟩
instance :TiC Tryz.prog 292 (tv aWY):=⟨aWY⟩
instance :TiC Tryz.prog 293 (tv aW3):=⟨aW3⟩
instance :NoA Tryz.prog 293:=⟨trivial⟩
instance :TiC Tryz.prog 294 (tv aP0):=⟨aP0⟩
instance :NoA Tryz.prog 294:=⟨trivial⟩
instance :TiC Tryz.prog 297 (tv aWs):=⟨aWs⟩
instance :TiC Tryz.prog 298 (tv aNd):=⟨aNd⟩
instance :TiC Tryz.prog 328 (tv aWi):=⟨aWi⟩
instance :FaC Tryz.prog 28 0 0:=dO aED rfl jA rfl rfl
instance :FaC Tryz.prog 28 1 1:=dO aED rfl gZ rfl rfl
instance :FaC Tryz.prog 28 2 33:=dO aED rfl gZ rfl rfl
instance :FaC Tryz.prog 28 3 65:=dO aED rfl jA rfl rfl
instance :FaC Tryz.prog 28 4 66:=dO aED rfl jA rfl rfl
instance :FaC Tryz.prog 28 5 67:=dO aED rfl jA rfl rfl
instance :FaC Tryz.prog 34 0 0:=dO aA8 rfl aED rfl rfl
instance :FaC Tryz.prog 34 1 68:=dO aA8 rfl aHK rfl rfl
instance :FaC Tryz.prog 34 2 72:=dO aA8 rfl ti3 rfl rfl
instance :FaC Tryz.prog 34 3 73:=dO aA8 rfl jA rfl rfl
instance :FaC Tryz.prog 34 4 74:=dO aA8 rfl jA rfl rfl
instance :FaC Tryz.prog 34 5 75:=dO aA8 rfl jA rfl rfl
instance :FaC Tryz.prog 34 6 76:=dO aA8 rfl aVz rfl rfl
instance :FaC Tryz.prog 34 7 77:=dO aA8 rfl ti2 rfl rfl
instance :FaC Tryz.prog 34 8 78:=dO aA8 rfl ti3 rfl rfl
instance :FaC Tryz.prog 34 9 79:=dO aA8 rfl ti3 rfl rfl
instance :FaC Tryz.prog 40 0 0:=dO aJv rfl aA8 rfl rfl
instance :FaC Tryz.prog 40 1 80:=dO aJv rfl aVm rfl rfl
instance :FaC Tryz.prog 40 2 81:=dO aJv rfl aUS rfl rfl
instance :FaC Tryz.prog 40 3 82:=dO aJv rfl aU2 rfl rfl
instance :FaC Tryz.prog 40 4 83:=dO aJv rfl aV2 rfl rfl
instance :FaC Tryz.prog 44 0 0:=dO aJl rfl ti3 rfl rfl
instance :FaC Tryz.prog 44 1 1:=dO aJl rfl gZ rfl rfl
instance :FaC Tryz.prog 44 2 33:=dO aJl rfl aLa rfl rfl
instance :FaC Tryz.prog 47 0 0:=dO aDc rfl aED rfl rfl
instance :FaC Tryz.prog 47 1 68:=dO aDc rfl aS0 rfl rfl
instance :FaC Tryz.prog 51 0 0:=dO aH2 rfl ti3 rfl rfl
instance :FaC Tryz.prog 51 1 1:=dO aH2 rfl gZ rfl rfl
instance :FaC Tryz.prog 51 2 33:=dO aH2 rfl jA rfl rfl
instance :FaC Tryz.prog 51 3 34:=dO aH2 rfl jA rfl rfl
instance :FaC Tryz.prog 51 4 35:=dO aH2 rfl aTf rfl rfl
instance :FaC Tryz.prog 54 0 0:=dO aVB rfl aLa rfl rfl
instance :FaC Tryz.prog 76 0 0:=dO jL rfl gZ rfl rfl
instance :FaC Tryz.prog 76 1 32:=dO jL rfl jA rfl rfl
instance :FaC Tryz.prog 78 0 0:=dO aQA rfl ti2 rfl rfl
instance :FaC Tryz.prog 78 1 1:=dO aQA rfl lI rfl rfl
instance :FaC Tryz.prog 80 0 0:=dO rP rfl jL rfl rfl
instance :FaC Tryz.prog 80 1 33:=dO rP rfl aQA rfl rfl
instance :FaC Tryz.prog 80 2 35:=dO rP rfl ti3 rfl rfl
instance :FaC Tryz.prog 80 3 36:=dO rP rfl ti4 rfl rfl
instance :FaC Tryz.prog 91 0 0:=dO aCR rfl jA rfl rfl
instance :FaC Tryz.prog 91 1 1:=dO aCR rfl aOc rfl rfl
instance :FaC Tryz.prog 91 2 2:=dO aCR rfl aKZ rfl rfl
instance :FaC Tryz.prog 91 3 3:=dO aCR rfl jA rfl rfl
instance :FaC Tryz.prog 97 0 0:=dO aJg rfl jL rfl rfl
instance :FaC Tryz.prog 97 1 33:=dO aJg rfl jA rfl rfl
instance :FaC Tryz.prog 97 2 34:=dO aJg rfl aMD rfl rfl
instance :FaC Tryz.prog 102 0 0:=dO aHq rfl aA8 rfl rfl
instance :FaC Tryz.prog 102 1 80:=dO aHq rfl ti3 rfl rfl
instance :FaC Tryz.prog 102 2 81:=dO aHq rfl aPQ rfl rfl
instance :FaC Tryz.prog 102 3 82:=dO aHq rfl aLa rfl rfl
instance :FaC Tryz.prog 102 4 83:=dO aHq rfl ti2 rfl rfl
instance :FaC Tryz.prog 153 0 0:=dO aNu rfl ti3 rfl rfl
instance :FaC Tryz.prog 153 1 1:=dO aNu rfl gZ rfl rfl
instance :FaC Tryz.prog 191 0 0:=dO aE9 rfl gZ rfl rfl
instance :FaC Tryz.prog 191 1 32:=dO aE9 rfl ti3 rfl rfl
instance :FaC Tryz.prog 191 2 33:=dO aE9 rfl ti3 rfl rfl
instance :FaC Tryz.prog 263 0 0:=dO aGX rfl ti3 rfl rfl
instance :FaC Tryz.prog 263 1 1:=dO aGX rfl lI rfl rfl
instance :FaC Tryz.prog 263 2 2:=dO aGX rfl ti3 rfl rfl
instance :FaC Tryz.prog 263 3 3:=dO aGX rfl ti3 rfl rfl
instance :FaC Tryz.prog 266 0 0:=dO aPO rfl ti4 rfl rfl
instance :FaC Tryz.prog 266 1 1:=dO aPO rfl ti4 rfl rfl
instance :FaC Tryz.prog 278 0 0:=dO aFj rfl aE9 rfl rfl
instance :FaC Tryz.prog 278 1 34:=dO aFj rfl aMD rfl rfl
instance :FaC Tryz.prog 278 2 35:=dO aFj rfl aTk rfl rfl
instance :FaC Tryz.prog 278 3 36:=dO aFj rfl ti3 rfl rfl
instance :FaC Tryz.prog 294 0 0:=dO aP0 rfl ti4 rfl rfl
instance :FaC Tryz.prog 294 1 1:=dO aP0 rfl ti4 rfl rfl
instance :FaC Tryz.prog 298 0 0:=dO aNd rfl aHK rfl rfl
instance :FaC Tryz.prog 298 1 4:=dO aNd rfl aHK rfl rfl
theorem aU3 :eJ Tryz.prog 28=some #[(0,1),(1,32),(33,32),(65,1),(66,1),(67,1)]:=by kernel_rfl
instance :PlC Tryz.prog 28 (pv aU3):=⟨aU3⟩
theorem aZJ :eJ Tryz.prog 34=some #[(0,68),(68,4),(72,1),(73,1),(74,1),(75,1),(76,1),(77,1),(78,1),(79,1)]:=by kernel_rfl
instance :PlC Tryz.prog 34 (pv aZJ):=⟨aZJ⟩
theorem aU0 :eJ Tryz.prog 40=some #[(0,80),(80,1),(81,1),(82,1),(83,1)]:=by kernel_rfl
instance :PlC Tryz.prog 40 (pv aU0):=⟨aU0⟩
theorem aS3 :eJ Tryz.prog 44=some #[(0,1),(1,32),(33,1)]:=by kernel_rfl
instance :PlC Tryz.prog 44 (pv aS3):=⟨aS3⟩
theorem aJe :eJ Tryz.prog 47=some #[(0,68),(68,1)]:=by kernel_rfl
instance :PlC Tryz.prog 47 (pv aJe):=⟨aJe⟩
theorem aVA :eJ Tryz.prog 51=some #[(0,1),(1,32),(33,1),(34,1),(35,1)]:=by kernel_rfl
instance :PlC Tryz.prog 51 (pv aVA):=⟨aVA⟩
theorem aZm :eJ Tryz.prog 54=some #[(0,1)]:=by kernel_rfl
instance :PlC Tryz.prog 54 (pv aZm):=⟨aZm⟩
theorem aJx :eJ Tryz.prog 76=some #[(0,32),(32,1)]:=by kernel_rfl
instance :PlC Tryz.prog 76 (pv aJx):=⟨aJx⟩
theorem aZu :eJ Tryz.prog 78=some #[(0,1),(1,1)]:=by kernel_rfl
instance :PlC Tryz.prog 78 (pv aZu):=⟨aZu⟩
theorem aRx :eJ Tryz.prog 80=some #[(0,33),(33,2),(35,1),(36,1)]:=by kernel_rfl
instance :PlC Tryz.prog 80 (pv aRx):=⟨aRx⟩
theorem aYI :eJ Tryz.prog 91=some #[(0,1),(1,1),(2,1),(3,1)]:=by kernel_rfl
instance :PlC Tryz.prog 91 (pv aYI):=⟨aYI⟩
theorem aQi :eJ Tryz.prog 97=some #[(0,33),(33,1),(34,1)]:=by kernel_rfl
instance :PlC Tryz.prog 97 (pv aQi):=⟨aQi⟩
theorem aTj :eJ Tryz.prog 102=some #[(0,80),(80,1),(81,1),(82,1),(83,1)]:=by kernel_rfl
instance :PlC Tryz.prog 102 (pv aTj):=⟨aTj⟩
theorem aPZ :eJ Tryz.prog 191=some #[(0,32),(32,1),(33,1)]:=by kernel_rfl
instance :PlC Tryz.prog 191 (pv aPZ):=⟨aPZ⟩
theorem aWX :eJ Tryz.prog 263=some #[(0,1),(1,1),(2,1),(3,1)]:=by kernel_rfl
instance :PlC Tryz.prog 263 (pv aWX):=⟨aWX⟩
theorem aWA :eJ Tryz.prog 266=some #[(0,1),(1,1)]:=by kernel_rfl
instance :PlC Tryz.prog 266 (pv aWA):=⟨aWA⟩
theorem aP8 :eJ Tryz.prog 278=some #[(0,34),(34,1),(35,1),(36,1)]:=by kernel_rfl
instance :PlC Tryz.prog 278 (pv aP8):=⟨aP8⟩
theorem aWF :eJ Tryz.prog 294=some #[(0,1),(1,1)]:=by kernel_rfl
instance :PlC Tryz.prog 294 (pv aWF):=⟨aWF⟩
theorem aWe :eJ Tryz.prog 298=some #[(0,4),(4,4)]:=by kernel_rfl
instance :PlC Tryz.prog 298 (pv aWe):=⟨aWe⟩
instance :ZrA Tryz.prog 28 ((eI .u32 0)::(aN (eI .u8) (a1K 32 0) (aN (eI .u8) (a1K 32 0) [eI .u32 0,eI .u32 0,eI .u32 0]))):=zrA aED
instance :ZrA Tryz.prog 34 ((eI .u32 0)::(aN (eI .u8) (a1K 32 0) (aN (eI .u8) (a1K 32 0) ((eI .u32 0)::((eI .u32 0)::((eI .u32 0)::(eG (eI .u64) (a1K 4 0) [eI .i64 0,eI .u32 0,eI .u32 0,eI .u32 0,.row (some true) 1 [],eI .i64 0,eI .i64 0,eI .i64 0]))))))):=zrA aA8
instance :ZrA Tryz.prog 40 ((eI .u32 0)::(aN (eI .u8) (a1K 32 0) (aN (eI .u8) (a1K 32 0) ((eI .u32 0)::((eI .u32 0)::((eI .u32 0)::(eG (eI .u64) (a1K 4 0) [eI .i64 0,eI .u32 0,eI .u32 0,eI .u32 0,.row (some true) 1 [],eI .i64 0,eI .i64 0,eI .i64 0,.row (some true) 1 [],.row (some true) 1 [],.row (some true) 1 [],.row (some true) 1 []]))))))):=zrA aJv
instance :ZrA Tryz.prog 44 ((eI .i64 0)::(aN (eI .u8) (a1K 32 0) [.row (some true) 1 []])):=zrA aJl
instance :ZrA Tryz.prog 47 ((eI .u32 0)::(aN (eI .u8) (a1K 32 0) (aN (eI .u8) (a1K 32 0) [eI .u32 0,eI .u32 0,eI .u32 0,.row (some true) 1 []]))):=zrA aDc
instance :ZrA Tryz.prog 51 ((eI .i64 0)::(aN (eI .u8) (a1K 32 0) [eI .u32 0,eI .u32 0,.row (some true) 1 []])):=zrA aH2
instance :ZrA Tryz.prog 76 (aN (eI .u8) (a1K 32 0) [eI .u32 0]):=zrA jL
instance :ZrA Tryz.prog 80 (aN (eI .u8) (a1K 32 0) [eI .u32 0,eI .i64 0,.row (some true) 1 [],eI .i64 0,eB false]):=zrA rP
instance :ZrA Tryz.prog 97 (aN (eI .u8) (a1K 32 0) [eI .u32 0,eI .u32 0,.row (some true) 1 []]):=zrA aJg
instance :ZrA Tryz.prog 153 ((eI .i64 0)::(aN (eI .u8) (a1K 32 0) [])):=zrA aNu
instance :ZrA Tryz.prog 191 (aN (eI .u8) (a1K 32 0) [eI .i64 0,eI .i64 0]):=zrA aE9
instance :ZrA Tryz.prog 278 (aN (eI .u8) (a1K 32 0) [eI .i64 0,eI .i64 0,.row (some true) 1 [],.row (some true) 1 [],eI .i64 0]):=zrA aFj
instance :ZrA Tryz.prog 298 (eG (eI .u64) (a1K 4 0) (eG (eI .u64) (a1K 4 0) [])):=zrA aNd
theorem a1c :u7 Tryz.prog 9 26=some ((a1K 32 ([.int .u8])).flatten):=by kernel_rfl
theorem aAQ :u7 Tryz.prog 9 76=some ((a1K 32 ([.int .u8])).flatten++[.int .u32]):=by kernel_rfl
theorem aDk :Tryz.prog.eqGuardType Tryz.prog.depth 76=false:=by kernel_rfl
noncomputable def aNP :MT:=(r6 Tryz.prog 100).getD default
theorem a0L :r6 Tryz.prog 100=some aNP:=by kernel_rfl
theorem aZ0 :aHy Tryz.prog aNP.kt (fun a:aD=> .agg (aBp (cG a)).toArray) iW:=by
 rw[show aNP.kt=76 by kernel_rfl];exact aI8 (d:=9) jL rfl aAQ (a1L rfl) (fun _=>rfl) (fun _ _=>rfl)
instance :MpC Tryz.prog 100 aD aA iW (fun a=> .agg (cG a)) cG aH aP fG (aA.mk (aD.mk (a1K 32 0) 0) (aI.mk 0 []) 0 false) 33037:=⟨aNP,33,37,_,a0L,by kernel_rfl,by kernel_rfl,by kernel_rfl,fun _=>rfl,aZ0,fun _=>rfl,fun _=>rfl,fun _=>rfl,fun _=>rfl,fun _=>rfl,fun _=>rfl,fun _=>rfl,fun _=>⟨rfl,rfl⟩,by kernel_rfl⟩
noncomputable def aNw :MT:=(r6 Tryz.prog 118).getD default
theorem a0O :r6 Tryz.prog 118=some aNw:=by kernel_rfl
theorem aZ8 :aHy Tryz.prog aNw.kt (fun a:ByteArray=> .string a) aP5:=by
 rw[show aNw.kt=9 by kernel_rfl];exact aUn ti9 rfl (by kernel_rfl)
instance :MpC Tryz.prog 118 ByteArray Bool aP5 eS (fun a=>[eS a]) (fun b=>[eB b]) eB aLP false 0:=⟨aNw,0,0,_,a0O,by kernel_rfl,by kernel_rfl,by kernel_rfl,fun _=>rfl,aZ8,fun _=>rfl,fun _=>rfl,fun _=>rfl,fun _=>rfl,fun _=>rfl,fun _=>rfl,fun _=>rfl,fun _=>⟨rfl,rfl⟩,by kernel_rfl⟩
noncomputable def aNe :MT:=(r6 Tryz.prog 160).getD default
theorem a0y :r6 Tryz.prog 160=some aNe:=by kernel_rfl
theorem a0j :aHy Tryz.prog aNe.kt (fun a:aD=> .agg (aBp (cG a)).toArray) tY:=by
 rw[show aNe.kt=76 by kernel_rfl];exact aI8 (d:=9) jL rfl aAQ (a1L rfl) (fun _=>rfl) (fun _ _=>rfl)
instance :MpC Tryz.prog 160 aD Bool tY (fun a=> .agg (cG a)) cG (fun b=>[eB b]) eB aHd false 33000:=⟨aNe,33,0,_,a0y,by kernel_rfl,by kernel_rfl,by kernel_rfl,fun _=>rfl,a0j,fun _=>rfl,fun _=>rfl,fun _=>rfl,fun _=>rfl,fun _=>rfl,fun _=>rfl,fun _=>rfl,fun _=>⟨rfl,rfl⟩,by kernel_rfl⟩
noncomputable def aNc :MT:=(r6 Tryz.prog 200).getD default
theorem a0g :r6 Tryz.prog 200=some aNc:=by kernel_rfl
theorem a0w :aHy Tryz.prog aNc.kt (fun a:List Int=> .agg (aBp ((dQ (eI .u8)) a)).toArray) yY:=by
 rw[show aNc.kt=26 by kernel_rfl];exact aI8 (d:=9) gZ rfl a1c (a1L rfl) (fun _=>rfl) (fun _ _=>rfl)
instance :MpC Tryz.prog 200 (List Int) Int yY (fun a=> .agg ((dQ (eI .u8)) a)) (dQ (eI .u8)) (fun b=>[(eI .i64) b]) (eI .i64) aFa 0 32000:=⟨aNc,32,0,_,a0g,by kernel_rfl,by kernel_rfl,by kernel_rfl,fun _=>rfl,a0w,fun _=>rfl,fun _=>rfl,fun _=>rfl,fun _=>rfl,fun _=>rfl,fun _=>rfl,fun _=>rfl,fun _=>⟨rfl,rfl⟩,by kernel_rfl⟩
theorem zH {p:Prop} (h:p:=by(simp only[qF,jX,aMd,rnH,Blk.rn,V.rns,V.rn,sg,List.map_cons,List.map_nil,Option.map_some,Option.map_none,List.drop_succ_cons,List.drop_zero,List.drop_nil,List.set_cons_zero,List.set_cons_succ,List.cons_append,List.nil_append,List.append_nil,aAo,aAn,aYt,aY6,aMs,aMp,aIN,aIP,aMN,aMT,aLl,aLv,aMY,aMx,aOB,aOi,aMX,aMo,aLV,aLU,aM4,aNk,aRn,aRd,aNm,aM6,aOD,aOa,aEe,aEj,aRf,aQE,aDH,aC5,aKl,aKm,aPD,aPB,aUp,aUt,aKk,aKn,aT8,aTZ,aXp,aW4,aU9,aVM,aVH,aX4,aVU,List.getElem?_cons_zero,List.getElem?_cons_succ,List.getElem?_nil,List.length_cons,List.length_nil,Nat.reduceAdd,Nat.reduceSub,Nat.add_zero,Nat.zero_add,Nat.sub_self,Nat.sub_zero]<;>rfl)):p:=h
theorem zc {f:FuncId}{hb:Hp}{args xs:List V}{r:V}{N n t:Nat}{ops:Array Oper}{l:List Oper}{fr:List (Nat×V)}{K:List V→Hp→Prop}{ty:TypeId}{pos:String}{aft:Array Edge}{ws:List Operand}{ts:Array TypeId}{hs hs' hb':Hp}{v:V}(hc:Vm.Fn Tryz.prog f hs args r hs')(ρ:List Nat)(k:OpsX Tryz.prog N none ops l (aG n ((t,v)::fr)) hb' K) (hw:lE n fr ws=some xs:=by rfl) (hnd:ρ.Nodup:=by decide) (hlt:ρ.all (fun b=>Nat.blt b hb.length)=true:=by rfl) (hl:Lend (sg ρ hb.length) hb ρ hs:=by repeat (first|exact Lend.nil|refine Lend.cons rfl rfl ?_|refine Lend.cons rfl (qJ (fun _=>rfl) _) ?_|refine Lend.cons rfl (cY (fun _=>rfl) _) ?_)) (hx:V.les wP xs (V.rns (sg ρ hb.length) args):=by repeat (first|exact V.les_refl _ _|exact V.les_nil|apply V.les_cons|exact V.le_refl _ _|exact V.le_nil|exact V.le_row|exact V.le_arr (fun _=>rfl)|apply V.le_agg)) (hr:r.rn (sg ρ hb.length)=v:=by exact zH) (hh:qF hb ρ hs'=hb':=by exact zH):OpsX Tryz.prog N none ops (⟨some t,.call ⟨.value (.func f),ws.toArray,ts⟩,ty,pos,aft,none⟩::l) (aG n fr) hb K:=xC hw (Vm.Fn.argsLe (Vm.Fn.lendB hc ρ hnd hlt hl rfl hr hh) hx) k
theorem kY {f:FuncId}{hb:Hp}{args xs:List V}{r:V}{N n t:Nat}{ops:Array Oper}{l:List Oper}{fr:List (Nat×V)}{K:List V→Hp→Prop}{ty:TypeId}{pos:String}{aft:Array Edge}{ws:List Operand}{ts:Array TypeId}{hs hs' hb':Hp}{v:V}(hc:Vm.Fn Tryz.prog f hs args r hs')(ρ β:List Nat)(k:OpsX Tryz.prog N none ops l (aG n ((t,v)::fr)) hb' K) (hw:lE n fr ws=some xs:=by rfl) (hnd:ρ.Nodup:=by decide) (hlt:ρ.all (fun b=>Nat.blt b hb.length)=true:=by rfl) (hdis: ∀b∈β,b∉ρ:=by decide) (hl:Lend (sg ρ hb.length) hb ρ hs:=by repeat (first|exact Lend.nil|refine Lend.cons rfl rfl ?_|refine Lend.cons rfl (qJ (fun _=>rfl) _) ?_|refine Lend.cons rfl (cY (fun _=>rfl) _) ?_)) (hx:Brw (sg ρ hb.length) (only β hb) xs args:=by repeat (first|exact Brw.nil|refine Brw.same rfl ?_|refine Brw.row (aN7 (by first|exact rfl|(simp only[bO,bP];done)|exact aU (by assumption)|exact bQ (by assumption)) rfl (fun _=>rfl)) ?_|refine Brw.row (aMI (fun _=>rfl) zl (by first|exact rfl|(simp only[bO,bP];done)|exact aU (by assumption)|exact bQ (by assumption)) rfl (fun _=>rfl)) ?_|refine Brw.row (aLn (fun _=>rfl) zl (fun x hx=>dJ (aJt (by assumption) x hx)) (by first|exact rfl|(simp only[bO,bP];done)|exact aU (by assumption)|exact bQ (by assumption)) rfl (fun _=>rfl)) ?_|refine Brw.same (by simp only[V.rn,V.rns,aAo,aAn]) ?_|refine Brw.le V.le_nil ?_|refine Brw.le V.le_row ?_)) (hrf:r.rf=true:=by first|rfl|simp[V.rf,V.rfs,aQh,aRD]) (hrb:rfB hs':=by repeat (first|exact rfB.nil|refine rfB.dead ?_|refine rfB.live rfl ?_|refine rfB.live (aFK (fun _=>rfl) _) ?_|refine rfB.live (rfs_flat (fun _=>rfl) _) ?_)) (hr:r.rn (sg ρ hb.length)=v:=by exact zH) (hh:qF hb ρ hs'=hb':=by exact zH):OpsX Tryz.prog N none ops (⟨some t,.call ⟨.value (.func f),ws.toArray,ts⟩,ty,pos,aft,none⟩::l) (aG n fr) hb K:=xC hw (Vm.Fn.lendR hc ρ β hnd hlt hdis hl hx hrf hrb hr hh) k
theorem zg {f:FuncId}{hb:Hp}{args xs:List V}{r:V}{N n t:Nat}{ops:Array Oper}{l:List Oper}{fr:List (Nat×V)}{K:List V→Hp→Prop}{ty:TypeId}{pos:String}{aft:Array Edge}{ws:List Operand}{ts:Array TypeId}{hs hs' hb':Hp}{v:V}{F G:List Nat}{gd:Option (Nat×Bool)}(hc:Vm.Fn Tryz.prog f hs args r hs')(ρ:List Nat)(k:OpsX Tryz.prog N (some (F,G)) ops l (aG n ((t,v)::fr)) hb' K) (hw:lE n fr ws=some xs:=by rfl) (hnd:ρ.Nodup:=by decide) (hlt:ρ.all (fun b=>Nat.blt b hb.length)=true:=by rfl) (hl:Lend (sg ρ hb.length) hb ρ hs:=by repeat (first|exact Lend.nil|refine Lend.cons rfl rfl ?_|refine Lend.cons rfl (qJ (fun _=>rfl) _) ?_|refine Lend.cons rfl (cY (fun _=>rfl) _) ?_)) (hx:V.les wP xs (V.rns (sg ρ hb.length) args):=by repeat (first|exact V.les_refl _ _|exact V.les_nil|apply V.les_cons|exact V.le_refl _ _|exact V.le_nil|exact V.le_row|exact V.le_arr (fun _=>rfl)|apply V.le_agg)) (hr:r.rn (sg ρ hb.length)=v:=by exact zH) (hh:qF hb ρ hs'=hb':=by exact zH) (hF:cA F f=false:=by rfl) (hG:cA G f=true→ ∃news,hb'=hb++news:=by first|exact(fun _=>⟨_,rfl⟩)|exact(fun _=>⟨[],(List.append_nil _).symm⟩)|exact(fun h=>absurd h (by decide))) (hg:Gd ops n fr gd:=by exact gD):OpsX Tryz.prog N (some (F,G)) ops (⟨some t,.call ⟨.value (.func f),ws.toArray,ts⟩,ty,pos,aft,gd⟩::l) (aG n fr) hb K:=xG hw (Vm.Fn.argsLe (Vm.Fn.lendB hc ρ hnd hlt hl rfl hr hh) hx) k hF hG hg
theorem xZ {f:FuncId}{hb:Hp}{args xs:List V}{r:V}{N n t:Nat}{ops:Array Oper}{l:List Oper}{fr:List (Nat×V)}{K:List V→Hp→Prop}{ty:TypeId}{pos:String}{aft:Array Edge}{ws:List Operand}{ts:Array TypeId}{hs hs' hb':Hp}{v:V}{F G:List Nat}{gd:Option (Nat×Bool)}(hc:Vm.Fn Tryz.prog f hs args r hs')(ρ β:List Nat)(k:OpsX Tryz.prog N (some (F,G)) ops l (aG n ((t,v)::fr)) hb' K) (hw:lE n fr ws=some xs:=by rfl) (hnd:ρ.Nodup:=by decide) (hlt:ρ.all (fun b=>Nat.blt b hb.length)=true:=by rfl) (hdis: ∀b∈β,b∉ρ:=by decide) (hl:Lend (sg ρ hb.length) hb ρ hs:=by repeat (first|exact Lend.nil|refine Lend.cons rfl rfl ?_|refine Lend.cons rfl (qJ (fun _=>rfl) _) ?_|refine Lend.cons rfl (cY (fun _=>rfl) _) ?_)) (hx:Brw (sg ρ hb.length) (only β hb) xs args:=by repeat (first|exact Brw.nil|refine Brw.same rfl ?_|refine Brw.row (aN7 (by first|exact rfl|(simp only[bO,bP];done)|exact aU (by assumption)|exact bQ (by assumption)) rfl (fun _=>rfl)) ?_|refine Brw.row (aMI (fun _=>rfl) zl (by first|exact rfl|(simp only[bO,bP];done)|exact aU (by assumption)|exact bQ (by assumption)) rfl (fun _=>rfl)) ?_|refine Brw.row (aLn (fun _=>rfl) zl (fun x hx=>dJ (aJt (by assumption) x hx)) (by first|exact rfl|(simp only[bO,bP];done)|exact aU (by assumption)|exact bQ (by assumption)) rfl (fun _=>rfl)) ?_|refine Brw.same (by simp only[V.rn,V.rns,aAo,aAn]) ?_|refine Brw.le V.le_nil ?_|refine Brw.le V.le_row ?_)) (hrf:r.rf=true:=by first|rfl|simp[V.rf,V.rfs,aQh,aRD]) (hrb:rfB hs':=by repeat (first|exact rfB.nil|refine rfB.dead ?_|refine rfB.live rfl ?_|refine rfB.live (aFK (fun _=>rfl) _) ?_|refine rfB.live (rfs_flat (fun _=>rfl) _) ?_)) (hr:r.rn (sg ρ hb.length)=v:=by exact zH) (hh:qF hb ρ hs'=hb':=by exact zH) (hF:cA F f=false:=by rfl) (hG:cA G f=true→ ∃news,hb'=hb++news:=by first|exact(fun _=>⟨_,rfl⟩)|exact(fun _=>⟨[],(List.append_nil _).symm⟩)|exact(fun h=>absurd h (by decide))) (hg:Gd ops n fr gd:=by exact gD):OpsX Tryz.prog N (some (F,G)) ops (⟨some t,.call ⟨.value (.func f),ws.toArray,ts⟩,ty,pos,aft,gd⟩::l) (aG n fr) hb K:=xG hw (Vm.Fn.lendR hc ρ β hnd hlt hdis hl hx hrf hrb hr hh) k hF hG hg
theorem xp {f:FuncId}{hb:Hp}{args xs:List V}{r:V}{N n t:Nat}{ops:Array Oper}{l:List Oper}{fr:List (Nat×V)}{K:List V→Hp→Prop}{ty:TypeId}{pos:String}{aft:Array Edge}{ws:List Operand}{ts:Array TypeId}(hc:Vm.Fn Tryz.prog f [] args r [])(k:OpsX Tryz.prog N none ops l (aG n ((t,r)::fr)) hb K) (hw:lE n fr ws=some xs:=by rfl) (hx:V.les wP xs args:=by repeat (first|exact V.les_refl _ _|exact V.les_nil|apply V.les_cons|exact V.le_refl _ _|exact V.le_nil|exact V.le_row|exact V.le_arr (fun _=>rfl)|apply V.le_agg)) (ha:V.rns (sg [] hb.length) args=args:=by first|rfl|(simp only[V.rn,V.rns,aAo,aAn]<;>rfl)) (hr:r.rn (sg [] hb.length)=r:=by first|rfl|(simp only[V.rn,V.rns,aAo,aAn]<;>rfl)):OpsX Tryz.prog N none ops (⟨some t,.call ⟨.value (.func f),ws.toArray,ts⟩,ty,pos,aft,none⟩::l) (aG n fr) hb K:=xC hw (Vm.Fn.argsLe (Vm.Fn.pure hc ha hr) hx) k
theorem xu {f:FuncId}{hb:Hp}{args xs:List V}{r:V}{N n t:Nat}{ops:Array Oper}{l:List Oper}{fr:List (Nat×V)}{K:List V→Hp→Prop}{ty:TypeId}{pos:String}{aft:Array Edge}{ws:List Operand}{ts:Array TypeId}{F G:List Nat}{gd:Option (Nat×Bool)}(hc:Vm.Fn Tryz.prog f [] args r [])(k:OpsX Tryz.prog N (some (F,G)) ops l (aG n ((t,r)::fr)) hb K) (hw:lE n fr ws=some xs:=by rfl) (hx:V.les wP xs args:=by repeat (first|exact V.les_refl _ _|exact V.les_nil|apply V.les_cons|exact V.le_refl _ _|exact V.le_nil|exact V.le_row|exact V.le_arr (fun _=>rfl)|apply V.le_agg)) (ha: ∀L,V.rns (sg [] L) args=args:=by(intro L;first|rfl|(simp only[V.rn,V.rns,aAo,aAn]<;>rfl))) (hr: ∀L,r.rn (sg [] L)=r:=by(intro L;first|rfl|(simp only[V.rn,V.rns,aAo,aAn]<;>rfl))) (hG:cA G f=false:=by rfl) (hg:Gd ops n fr gd:=by exact gD):OpsX Tryz.prog N (some (F,G)) ops (⟨some t,.call ⟨.value (.func f),ws.toArray,ts⟩,ty,pos,aft,gd⟩::l) (aG n fr) hb K:=xU hw (fun _=>Vm.Fn.argsLe (Vm.Fn.pure hc (ha _) (hr _)) hx) k hG hg
end Go.Proofs.YtopdhljncajmpaaGreatDoor
set_option linter.unusedSimpArgs false
set_option linter.unusedVariables false
namespace Go.Vm
open Go
variable {P:Program}{f:FuncId}{h h':Hp}{r:V}{k:Nat}
theorem Fn.nilCases {es:List V}{nl:Option Bool}(hc:es≠ []→Fn P f h [.row nl k es] r h')(h1:es=[]→Fn P f h [.row (some true) 1 []] r h')
  (h2: ∀ad cap,es=[]→Fn P f h [.sc (.slice (some ad) 0 cap)] r h'):Fn P f h [.row nl k es] r h':=by
 intro A M w vs H hv
 by_cases he:es=[]
 ·have hv':=hv
  unfold VCells at hv'
  obtain⟨v,rest,rfl,hr,ht⟩:=hv'
  subst he
  unfold VR at hr
  obtain⟨a,cap,rfl,hcap,hn,_,_,_⟩:=hr
  cases a with
  |none=>
   refine h1 rfl A M w _ H ?_
   unfold VCells
   refine⟨_,_,rfl, ?_,ht⟩
   unfold VR
   obtain rfl:=hn rfl
   exact⟨none,0,rfl,Nat.le_refl _,fun _=>rfl,fun b hb=>by cases hb;exact rfl,by simp,by simp⟩
  |some ad=>
   refine h2 ad cap rfl A M w _ H ?_
   unfold VCells
   refine⟨_,_,rfl, ?_,ht⟩
   unfold VR
   rfl
 exact hc he A M w vs H hv
theorem V.emptyRow {X:Nat→Prop}{M:List (Option Nat)}{w:World}{ad:Addr}{cap k:Nat}{v:Value}(hv:VR X M w (.sc (.slice (some ad) 0 cap)) v):VR X M w (.row none k []) v:=by
 unfold VR at hv⊢
 subst hv
 exact⟨some ad,cap,rfl,Nat.zero_le _,(fun h=>by cases h),(fun b hb=>by cases hb),by simp,by simp⟩
theorem Ghost.sc0 {N n t k:Nat}{fr:List (Nat×V)}{h:Hp}{ad:Addr}{cap:Nat}(h0:eV fr t=some (.sc (.slice (some ad) 0 cap))):Ghost N (aG n fr) h (aG n [(t,.row none k [])]) h:=fun A M a w _ R=>
 ⟨M,rfl,⟨R.hr,aFJ R.sr (fun u y hy=>by
  simp only[eV]at hy
  cases hb:Nat.beq t u with
  |false=>rw[hb]at hy;cases hy
  |true=>
   rw[hb]at hy
   obtain rfl:=Nat.eq_of_beq_eq_true hb
   injection hy with hy
   subst hy
   exact⟨_,h0,fun v hv=>V.emptyRow hv⟩),R.defers⟩,fun _ hl=>hl⟩
section
variable {P:Program}{t e:TypeId}{sz by_:Nat}{z:Value}{xo yo:Operand}
theorem aVe {k:Nat}{x:V}{xs:List V}(ht:aM P t=some ⟨.slice e,sz,by_,z⟩):dC P .eql t xo yo (.row none k (x::xs)) (.row (some true) 1 [])=some (eB false):=by
 simp only[dC,eN,aNX,ht,aLp]
 rfl
theorem aX6 {k:Nat}{α:Type}{E:α→V}{l:List α}(hl:l≠ [])(ht:aM P t=some ⟨.slice e,sz,by_,z⟩):dC P .eql t xo yo (.row none k (l.map E)) (.row (some true) 1 [])=some (eB false):=by
 cases l with
 |nil=>exact absurd rfl hl
 |cons a l=>exact aVe ht
theorem aYm {ad:Addr}{n cap:Nat}(ht:aM P t=some ⟨.slice e,sz,by_,z⟩):dC P .eql t xo yo (.sc (.slice (some ad) n cap)) (.row (some true) 1 [])=some (eB false):=by
 show Option.map ofValue (aS P (do pure (Value.bool (←Op.equal t _ _))))=_
 rw[aAF _ _ (nil_eq ht ad n cap)];rfl
theorem aX1 (ht:aM P t=some ⟨.slice e,sz,by_,z⟩):aS P (Op.equal t (.slice none 0 0) (.slice none 0 0))=some true:=by
 have h1:=(cR ht).1
 have e1:underlying t=Sem.program fun p=>match p.underlying t with|some d=>pure d|none=>stuck "no such type" :=rfl
 unfold Op.equal Op.maxDepth
 show aS P (Op.equalIn (9999+1) t _ _)=_
 rw[Op.equalIn,e1]
 show aS P (Sem.bind (Sem.program _) _)=_
 simp only[Sem.bind,aS,h1]
 rfl
theorem aW9 (ht:aM P t=some ⟨.slice e,sz,by_,z⟩):dC P .eql t xo yo (.row (some true) 1 []) (.row (some true) 1 [])=some (eB true):=by
 show Option.map ofValue (aS P (do pure (Value.bool (←Op.equal t _ _))))=_
 rw[aAF _ _ (aX1 ht)];rfl
end
end Go.Vm
set_option maxRecDepth 20000
set_option maxHeartbeats 1000000
namespace Go.Proofs.YtopdhljncajmpaaGreatDoor
open Go Go.Vm
theorem aXu {N vs r} (he:vs≠ []) (hr:dM N vs=some r):Vm.Fn Tryz.prog 90 [] [.row none 1 (vs.map (eI .u8))] (.row none 1 (r.map (eI .u8))) []:=by
 refine zf Tryz.func90 Tryz.ntmps90 ?_
 unfold dM at hr
 refine zz ?_
 refine a1M<|zz ?_
 refine xw (v:=(eB false)) (gA rfl rfl (aX6 he lI)) ?_
 refine zz ?_
 refine AB.cndF rfl rfl ?_
 obtain⟨x7,h_1,hr⟩:=aL hr
 refine zz ?_
 refine xw (v:=(.sl 0 0 0 1 false)) (h':=[some ⟨5,[].map (eI .u8)⟩]) (oV rfl (aWh lI mF rfl rfl rfl rfl)) ?_
 refine zz ?_
 obtain rfl:=sj hr
 exact zr1 Tryz.results90 fW (Ghost.trans (zv 1) (zG []))
theorem aXx {N r} (hr:dM N []=some r):Vm.Fn Tryz.prog 90 [] [.row (some true) 1 []] (.row none 1 (r.map (eI .u8))) []:=by
 refine zf Tryz.func90 Tryz.ntmps90 ?_
 refine zz ?_
 refine a1M<|zz ?_
 refine xw (v:=(eB true)) (gA rfl rfl (aW9 lI)) ?_
 refine zz ?_
 refine AB.cnd rfl (fun _=> ?_) (fun h=>by cases h)
 refine a1M<|zz ?_
 obtain rfl:[]=r:=sj hr
 exact zd1 Tryz.results90 []
theorem aX5 {N ad cap r} (hr:dM N []=some r):Vm.Fn Tryz.prog 90 [] [.sc (.slice (some ad) 0 cap)] (.row none 1 (r.map (eI .u8))) []:=by
 refine zf Tryz.func90 Tryz.ntmps90 ?_
 refine zz ?_
 refine a1M<|a1M<|zz ?_
 refine xS (gA rfl rfl (aYm lI)) ?_
 refine zz ?_
 refine AB.cnd rfl (fun h=>by cases h) (fun _=> ?_)
 refine AB.skip ?_
 show AB _ _ _ _ _ _
 refine AB.ghost (Ghost.sc0 (t:=0) (k:=1) rfl) ?_
 show AB _ _ _ _ (aG 8 [(0,.row none 1 (([]:List Int).map (eI .u8)))]) []
 unfold dM at hr
 obtain⟨x7,h_1,hr⟩:=aL hr
 refine a1M<|xr ?_
 refine xw (v:=(.sl 0 0 0 1 false)) (h':=[some ⟨5,[].map (eI .u8)⟩]) (oV rfl (aWh lI mF rfl rfl rfl rfl)) ?_
 refine zz ?_
 obtain rfl:=sj hr
 exact zr1 Tryz.results90 fW (Ghost.trans (zv 1) (zG []))
theorem aFy {N vs r} (hr:dM N vs=some r):Vm.Fn Tryz.prog 90 [] [.row none 1 (vs.map (eI .u8))] (.row none 1 (r.map (eI .u8))) []:=by
 refine Fn.nilCases (fun he=>aXu (fun h=>he (by rw[h];rfl)) hr) (fun he=>aXx (N:=N) ?_) (fun ad cap he=>aX5 (N:=N) ?_)
 all_goals (cases vs with
  |nil=>exact hr
  |cons a l=>cases he)
end Go.Proofs.YtopdhljncajmpaaGreatDoor
