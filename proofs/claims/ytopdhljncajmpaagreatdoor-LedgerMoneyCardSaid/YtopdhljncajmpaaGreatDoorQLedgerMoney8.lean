/- Texts of ours, joined: TyF, VmNil, HandC. -/
import Derived.Test.YtopdhljncajmpaaGreatDoorQLedgerMoney2
import Derived.Test.YtopdhljncajmpaaGreatDoorQLedgerMoney3
import Derived.Test.YtopdhljncajmpaaGreatDoorQLedgerMoney4
open List renaming replicate → a0F
open Nat renaming le_of_ble_eq_true → a0G
open Go.Vm.AB renaming seq → a0H
namespace Go.Proofs.YtopdhljncajmpaaGreatDoor
open Go Go.Vm
theorem mixed :Tryz.prog.follows .mixedOrders=true:=by kernel_rfl
theorem dep :2≤Tryz.prog.depth:=a0G (by kernel_rfl)
instance :DepC Tryz.prog:=⟨dep⟩
noncomputable def E1 :Env Tryz.prog:={O:=fun _ _ _=>none,F:=aZ2,ok:=fun _ _ _ _ _ hh=>(by cases hh),still:=fun _ _ _ _ _ _ hh=>(by cases hh),mixed:=mixed}
instance :TiC Tryz.prog 2 (tv ti2):=⟨ti2⟩
instance :TiC Tryz.prog 3 (tv ti3):=⟨ti3⟩
instance :TiC Tryz.prog 4 (tv ti4):=⟨ti4⟩
instance :TiC Tryz.prog 5 (tv oS):=⟨oS⟩
instance :TiC Tryz.prog 9 (tv ti9):=⟨ti9⟩
instance :TiC Tryz.prog 12 (tv aXr):=⟨aXr⟩
instance :TiC Tryz.prog 21 (tv aYI):=⟨aYI⟩
instance :TiC Tryz.prog 22 (tv lA):=⟨lA⟩
instance :TiC Tryz.prog 24 (tv kC):=⟨kC⟩
instance :TiC Tryz.prog 25 (tv aYW):=⟨aYW⟩
instance :TiC Tryz.prog 26 (tv iO):=⟨iO⟩
instance :TiC Tryz.prog 27 (tv aYM):=⟨aYM⟩
instance :TiC Tryz.prog 28 (tv aEj):=⟨aEj⟩
instance :TiC Tryz.prog 29 (tv aF6):=⟨aF6⟩
instance :TiC Tryz.prog 30 (tv aYK):=⟨aYK⟩
instance :TiC Tryz.prog 31 (tv aHk):=⟨aHk⟩
instance :TiC Tryz.prog 32 (tv aUW):=⟨aUW⟩
instance :TiC Tryz.prog 33 (tv aYq):=⟨aYq⟩
instance :TiC Tryz.prog 34 (tv aAV):=⟨aAV⟩
instance :TiC Tryz.prog 35 (tv aUK):=⟨aUK⟩
instance :TiC Tryz.prog 36 (tv aUg):=⟨aUg⟩
instance :TiC Tryz.prog 37 (tv aUr):=⟨aUr⟩
instance :TiC Tryz.prog 38 (tv aVm):=⟨aVm⟩
instance :TiC Tryz.prog 39 (tv aYS):=⟨aYS⟩
instance :TiC Tryz.prog 40 (tv aIV):=⟨aIV⟩
instance :TiC Tryz.prog 42 (tv aKH):=⟨aKH⟩
instance :TiC Tryz.prog 43 (tv aYD):=⟨aYD⟩
instance :TiC Tryz.prog 44 (tv aAP):=⟨aAP⟩
instance :TiC Tryz.prog 45 (tv aUC):=⟨aUC⟩
instance :TiC Tryz.prog 46 (tv aYX):=⟨aYX⟩
instance :TiC Tryz.prog 47 (tv aKs):=⟨aKs⟩
instance :TiC Tryz.prog 49 (tv aSK):=⟨aSK⟩
instance :TiC Tryz.prog 50 (tv aXF):=⟨aXF⟩
instance :TiC Tryz.prog 51 (tv aGp):=⟨aGp⟩
instance :TiC Tryz.prog 53 (tv aXD):=⟨aXD⟩
instance :NoA Tryz.prog 53:=⟨trivial⟩
instance :TiC Tryz.prog 54 (tv aUY):=⟨aUY⟩
instance :NoA Tryz.prog 54:=⟨trivial⟩
instance :TiC Tryz.prog 55 (tv aYc):=⟨aYc⟩
instance :TiC Tryz.prog 61 (tv aNH):=⟨aNH⟩
instance :TiC Tryz.prog 74 (tv aYL):=⟨aYL⟩
instance :TiC Tryz.prog 75 (tv aYE):=⟨aYE⟩
instance :TiC Tryz.prog 76 (tv lU):=⟨lU⟩
instance :TiC Tryz.prog 77 (tv aXo):=⟨aXo⟩
instance :NoA Tryz.prog 77:=⟨trivial⟩
instance :TiC Tryz.prog 78 (tv aPT):=⟨aPT⟩
instance :NoA Tryz.prog 78:=⟨trivial⟩
instance :TiC Tryz.prog 79 (tv aXI):=⟨aXI⟩
instance :TiC Tryz.prog 80 (tv rC):=⟨rC⟩
instance :TiC Tryz.prog 88 (tv aUh):=⟨aUh⟩
instance :TiC Tryz.prog 89 (tv aUD):=⟨aUD⟩
instance :TiC Tryz.prog 90 (tv aYf):=⟨aYf⟩
instance :NoA Tryz.prog 90:=⟨trivial⟩
instance :TiC Tryz.prog 91 (tv aNt):=⟨aNt⟩
instance :NoA Tryz.prog 91:=⟨trivial⟩
instance :TiC Tryz.prog 96 (tv aXT):=⟨aXT⟩
instance :TiC Tryz.prog 97 (tv aKr):=⟨aKr⟩
instance :TiC Tryz.prog 99 (tv aX4):=⟨aX4⟩
instance :TiC Tryz.prog 100 (tv aPd):=⟨aPd⟩
instance :TiC Tryz.prog 101 (tv aVu):=⟨aVu⟩
instance :TiC Tryz.prog 102 (tv aG1):=⟨aG1⟩
instance :TiC Tryz.prog 118 (tv aVU):=⟨aVU⟩
instance :TiC Tryz.prog 140 (tv aES):=⟨aES⟩
instance :TiC Tryz.prog 152 (tv aV9):=⟨aV9⟩
instance :TiC Tryz.prog 153 (tv aMQ):=⟨aMQ⟩
instance :TiC Tryz.prog 160 (tv aVE):=⟨aVE⟩
instance :TiC Tryz.prog 167 (tv aVC):=⟨aVC⟩
instance :TiC Tryz.prog 182 (tv aVZ):=⟨aVZ⟩
instance :TiC Tryz.prog 190 (tv aV0):=⟨aV0⟩
instance :TiC Tryz.prog 191 (tv aEP):=⟨aEP⟩
instance :TiC Tryz.prog 194 (tv aVD):=⟨aVD⟩
instance :TiC Tryz.prog 200 (tv aVS):=⟨aVS⟩
instance :TiC Tryz.prog 208 (tv aV1):=⟨aV1⟩
instance :TiC Tryz.prog 221 (tv aIx):=⟨aIx⟩
instance :TiC Tryz.prog 223 (tv aPc):=⟨aPc⟩
instance :TiC Tryz.prog 233 (tv aVt):=⟨aVt⟩
instance :TiC Tryz.prog 235 (tv aV6):=⟨aV6⟩
instance :TiC Tryz.prog 245 (tv aPn):=⟨aPn⟩
instance :TiC Tryz.prog 249 (tv aPs):=⟨aPs⟩
instance :TiC Tryz.prog 251 (tv aPf):=⟨aPf⟩
instance :TiC Tryz.prog 255 (tv aWa):=⟨aWa⟩
instance :TiC Tryz.prog 261 (tv aVY):=⟨aVY⟩
instance :TiC Tryz.prog 262 (tv aVG):=⟨aVG⟩
instance :NoA Tryz.prog 262:=⟨trivial⟩
instance :TiC Tryz.prog 263 (tv aGw):=⟨aGw⟩
instance :NoA Tryz.prog 263:=⟨trivial⟩
instance :TiC Tryz.prog 265 (tv aVL):=⟨aVL⟩
instance :NoA Tryz.prog 265:=⟨trivial⟩
instance :TiC Tryz.prog 266 (tv aPb):=⟨aPb⟩
instance :NoA Tryz.prog 266:=⟨trivial⟩
instance :TiC Tryz.prog 270 (tv aV2):=⟨aV2⟩
instance :TiC Tryz.prog 274 (tv aVv):=⟨aVv⟩
instance :TiC Tryz.prog 276 (tv aSO):=⟨aSO⟩
instance :TiC Tryz.prog 277 (tv aVx):=⟨aVx⟩
instance :TiC Tryz.prog 278 (tv aEY):=⟨aEY⟩
instance :TiC Tryz.prog 282 (tv aVH):=⟨aVH⟩
instance :TiC Tryz.prog 289 (tv aVs):=⟨aVs⟩
instance :TiC Tryz.prog 292 (tv aWd):=⟨aWd⟩
instance :TiC Tryz.prog 293 (tv aWi):=⟨aWi⟩
instance :NoA Tryz.prog 293:=⟨trivial⟩
instance :TiC Tryz.prog 294 (tv aPm):=⟨aPm⟩
instance :NoA Tryz.prog 294:=⟨trivial⟩
instance :TiC Tryz.prog 297 (tv aVJ):=⟨aVJ⟩
instance :TiC Tryz.prog 298 (tv aMA):=⟨aMA⟩
instance :TiC Tryz.prog 328 (tv aVz):=⟨aVz⟩
instance :FaC Tryz.prog 28 0 0:=dL aEj rfl kC rfl rfl
instance :FaC Tryz.prog 28 1 1:=dL aEj rfl iO rfl rfl
instance :FaC Tryz.prog 28 2 33:=dL aEj rfl iO rfl rfl
instance :FaC Tryz.prog 28 3 65:=dL aEj rfl kC rfl rfl
instance :FaC Tryz.prog 28 4 66:=dL aEj rfl kC rfl rfl
instance :FaC Tryz.prog 28 5 67:=dL aEj rfl kC rfl rfl
instance :FaC Tryz.prog 34 0 0:=dL aAV rfl aEj rfl rfl
instance :FaC Tryz.prog 34 1 68:=dL aAV rfl aHk rfl rfl
instance :FaC Tryz.prog 34 2 72:=dL aAV rfl ti3 rfl rfl
instance :FaC Tryz.prog 34 3 73:=dL aAV rfl kC rfl rfl
instance :FaC Tryz.prog 34 4 74:=dL aAV rfl kC rfl rfl
instance :FaC Tryz.prog 34 5 75:=dL aAV rfl kC rfl rfl
instance :FaC Tryz.prog 34 6 76:=dL aAV rfl aUW rfl rfl
instance :FaC Tryz.prog 34 7 77:=dL aAV rfl ti2 rfl rfl
instance :FaC Tryz.prog 34 8 78:=dL aAV rfl ti3 rfl rfl
instance :FaC Tryz.prog 34 9 79:=dL aAV rfl ti3 rfl rfl
instance :FaC Tryz.prog 40 0 0:=dL aIV rfl aAV rfl rfl
instance :FaC Tryz.prog 40 1 80:=dL aIV rfl aUK rfl rfl
instance :FaC Tryz.prog 40 2 81:=dL aIV rfl aUg rfl rfl
instance :FaC Tryz.prog 40 3 82:=dL aIV rfl aUr rfl rfl
instance :FaC Tryz.prog 40 4 83:=dL aIV rfl aVm rfl rfl
instance :FaC Tryz.prog 44 0 0:=dL aAP rfl ti3 rfl rfl
instance :FaC Tryz.prog 44 1 1:=dL aAP rfl iO rfl rfl
instance :FaC Tryz.prog 44 2 33:=dL aAP rfl aKH rfl rfl
instance :FaC Tryz.prog 47 0 0:=dL aKs rfl aEj rfl rfl
instance :FaC Tryz.prog 47 1 68:=dL aKs rfl aUC rfl rfl
instance :FaC Tryz.prog 51 0 0:=dL aGp rfl ti3 rfl rfl
instance :FaC Tryz.prog 51 1 1:=dL aGp rfl iO rfl rfl
instance :FaC Tryz.prog 51 2 33:=dL aGp rfl kC rfl rfl
instance :FaC Tryz.prog 51 3 34:=dL aGp rfl kC rfl rfl
instance :FaC Tryz.prog 51 4 35:=dL aGp rfl aSK rfl rfl
instance :FaC Tryz.prog 54 0 0:=dL aUY rfl aKH rfl rfl
instance :FaC Tryz.prog 76 0 0:=dL lU rfl iO rfl rfl
instance :FaC Tryz.prog 76 1 32:=dL lU rfl kC rfl rfl
instance :FaC Tryz.prog 78 0 0:=dL aPT rfl ti2 rfl rfl
instance :FaC Tryz.prog 78 1 1:=dL aPT rfl lA rfl rfl
instance :FaC Tryz.prog 80 0 0:=dL rC rfl lU rfl rfl
instance :FaC Tryz.prog 80 1 33:=dL rC rfl aPT rfl rfl
instance :FaC Tryz.prog 80 2 35:=dL rC rfl ti3 rfl rfl
instance :FaC Tryz.prog 80 3 36:=dL rC rfl ti4 rfl rfl
instance :FaC Tryz.prog 91 0 0:=dL aNt rfl kC rfl rfl
instance :FaC Tryz.prog 91 1 1:=dL aNt rfl aUh rfl rfl
instance :FaC Tryz.prog 91 2 2:=dL aNt rfl aUD rfl rfl
instance :FaC Tryz.prog 91 3 3:=dL aNt rfl kC rfl rfl
instance :FaC Tryz.prog 97 0 0:=dL aKr rfl lU rfl rfl
instance :FaC Tryz.prog 97 1 33:=dL aKr rfl kC rfl rfl
instance :FaC Tryz.prog 97 2 34:=dL aKr rfl aNH rfl rfl
instance :FaC Tryz.prog 102 0 0:=dL aG1 rfl aAV rfl rfl
instance :FaC Tryz.prog 102 1 80:=dL aG1 rfl ti3 rfl rfl
instance :FaC Tryz.prog 102 2 81:=dL aG1 rfl aPd rfl rfl
instance :FaC Tryz.prog 102 3 82:=dL aG1 rfl aKH rfl rfl
instance :FaC Tryz.prog 102 4 83:=dL aG1 rfl ti2 rfl rfl
instance :FaC Tryz.prog 153 0 0:=dL aMQ rfl ti3 rfl rfl
instance :FaC Tryz.prog 153 1 1:=dL aMQ rfl iO rfl rfl
instance :FaC Tryz.prog 191 0 0:=dL aEP rfl iO rfl rfl
instance :FaC Tryz.prog 191 1 32:=dL aEP rfl ti3 rfl rfl
instance :FaC Tryz.prog 191 2 33:=dL aEP rfl ti3 rfl rfl
instance :FaC Tryz.prog 263 0 0:=dL aGw rfl ti3 rfl rfl
instance :FaC Tryz.prog 263 1 1:=dL aGw rfl lA rfl rfl
instance :FaC Tryz.prog 263 2 2:=dL aGw rfl ti3 rfl rfl
instance :FaC Tryz.prog 263 3 3:=dL aGw rfl ti3 rfl rfl
instance :FaC Tryz.prog 266 0 0:=dL aPb rfl ti4 rfl rfl
instance :FaC Tryz.prog 266 1 1:=dL aPb rfl ti4 rfl rfl
instance :FaC Tryz.prog 278 0 0:=dL aEY rfl aEP rfl rfl
instance :FaC Tryz.prog 278 1 34:=dL aEY rfl aNH rfl rfl
instance :FaC Tryz.prog 278 2 35:=dL aEY rfl aSO rfl rfl
instance :FaC Tryz.prog 278 3 36:=dL aEY rfl ti3 rfl rfl
instance :FaC Tryz.prog 294 0 0:=dL aPm rfl ti4 rfl rfl
instance :FaC Tryz.prog 294 1 1:=dL aPm rfl ti4 rfl rfl
instance :FaC Tryz.prog 298 0 0:=dL aMA rfl aHk rfl rfl
instance :FaC Tryz.prog 298 1 4:=dL aMA rfl aHk rfl rfl
theorem aUs :eG Tryz.prog 28=some #[(0,1),(1,32),(33,32),(65,1),(66,1),(67,1)]:=by kernel_rfl
instance :PlC Tryz.prog 28 (pv aUs):=⟨aUs⟩
theorem aYO :eG Tryz.prog 34=some #[(0,68),(68,4),(72,1),(73,1),(74,1),(75,1),(76,1),(77,1),(78,1),(79,1)]:=by kernel_rfl
instance :PlC Tryz.prog 34 (pv aYO):=⟨aYO⟩
theorem aUo :eG Tryz.prog 40=some #[(0,80),(80,1),(81,1),(82,1),(83,1)]:=by kernel_rfl
instance :PlC Tryz.prog 40 (pv aUo):=⟨aUo⟩
theorem aHm :eG Tryz.prog 44=some #[(0,1),(1,32),(33,1)]:=by kernel_rfl
instance :PlC Tryz.prog 44 (pv aHm):=⟨aHm⟩
theorem aP4 :eG Tryz.prog 47=some #[(0,68),(68,1)]:=by kernel_rfl
instance :PlC Tryz.prog 47 (pv aP4):=⟨aP4⟩
theorem aUX :eG Tryz.prog 51=some #[(0,1),(1,32),(33,1),(34,1),(35,1)]:=by kernel_rfl
instance :PlC Tryz.prog 51 (pv aUX):=⟨aUX⟩
theorem aYw :eG Tryz.prog 54=some #[(0,1)]:=by kernel_rfl
instance :PlC Tryz.prog 54 (pv aYw):=⟨aYw⟩
theorem aIY :eG Tryz.prog 76=some #[(0,32),(32,1)]:=by kernel_rfl
instance :PlC Tryz.prog 76 (pv aIY):=⟨aIY⟩
theorem aYC :eG Tryz.prog 78=some #[(0,1),(1,1)]:=by kernel_rfl
instance :PlC Tryz.prog 78 (pv aYC):=⟨aYC⟩
theorem aQU :eG Tryz.prog 80=some #[(0,33),(33,2),(35,1),(36,1)]:=by kernel_rfl
instance :PlC Tryz.prog 80 (pv aQU):=⟨aQU⟩
theorem aXY :eG Tryz.prog 91=some #[(0,1),(1,1),(2,1),(3,1)]:=by kernel_rfl
instance :PlC Tryz.prog 91 (pv aXY):=⟨aXY⟩
theorem aSk :eG Tryz.prog 97=some #[(0,33),(33,1),(34,1)]:=by kernel_rfl
instance :PlC Tryz.prog 97 (pv aSk):=⟨aSk⟩
theorem aSN :eG Tryz.prog 102=some #[(0,80),(80,1),(81,1),(82,1),(83,1)]:=by kernel_rfl
instance :PlC Tryz.prog 102 (pv aSN):=⟨aSN⟩
theorem aPl :eG Tryz.prog 191=some #[(0,32),(32,1),(33,1)]:=by kernel_rfl
instance :PlC Tryz.prog 191 (pv aPl):=⟨aPl⟩
theorem aWc :eG Tryz.prog 263=some #[(0,1),(1,1),(2,1),(3,1)]:=by kernel_rfl
instance :PlC Tryz.prog 263 (pv aWc):=⟨aWc⟩
theorem aVR :eG Tryz.prog 266=some #[(0,1),(1,1)]:=by kernel_rfl
instance :PlC Tryz.prog 266 (pv aVR):=⟨aVR⟩
theorem aPt :eG Tryz.prog 278=some #[(0,34),(34,1),(35,1),(36,1)]:=by kernel_rfl
instance :PlC Tryz.prog 278 (pv aPt):=⟨aPt⟩
theorem aVV :eG Tryz.prog 294=some #[(0,1),(1,1)]:=by kernel_rfl
instance :PlC Tryz.prog 294 (pv aVV):=⟨aVV⟩
theorem aVw :eG Tryz.prog 298=some #[(0,4),(4,4)]:=by kernel_rfl
instance :PlC Tryz.prog 298 (pv aVw):=⟨aVw⟩
instance :ZrA Tryz.prog 28 ((eI .u32 0)::(aL (eI .u8) (a0F 32 0) (aL (eI .u8) (a0F 32 0) [eI .u32 0,eI .u32 0,eI .u32 0]))):=zrA aEj
instance :ZrA Tryz.prog 34 ((eI .u32 0)::(aL (eI .u8) (a0F 32 0) (aL (eI .u8) (a0F 32 0) ((eI .u32 0)::((eI .u32 0)::((eI .u32 0)::(dU (eI .u64) (a0F 4 0) [eI .i64 0,eI .u32 0,eI .u32 0,eI .u32 0,.row (some true) 1 [],eI .i64 0,eI .i64 0,eI .i64 0]))))))):=zrA aAV
instance :ZrA Tryz.prog 40 ((eI .u32 0)::(aL (eI .u8) (a0F 32 0) (aL (eI .u8) (a0F 32 0) ((eI .u32 0)::((eI .u32 0)::((eI .u32 0)::(dU (eI .u64) (a0F 4 0) [eI .i64 0,eI .u32 0,eI .u32 0,eI .u32 0,.row (some true) 1 [],eI .i64 0,eI .i64 0,eI .i64 0,.row (some true) 1 [],.row (some true) 1 [],.row (some true) 1 [],.row (some true) 1 []]))))))):=zrA aIV
instance :ZrA Tryz.prog 44 ((eI .i64 0)::(aL (eI .u8) (a0F 32 0) [.row (some true) 1 []])):=zrA aAP
instance :ZrA Tryz.prog 47 ((eI .u32 0)::(aL (eI .u8) (a0F 32 0) (aL (eI .u8) (a0F 32 0) [eI .u32 0,eI .u32 0,eI .u32 0,.row (some true) 1 []]))):=zrA aKs
instance :ZrA Tryz.prog 51 ((eI .i64 0)::(aL (eI .u8) (a0F 32 0) [eI .u32 0,eI .u32 0,.row (some true) 1 []])):=zrA aGp
instance :ZrA Tryz.prog 76 (aL (eI .u8) (a0F 32 0) [eI .u32 0]):=zrA lU
instance :ZrA Tryz.prog 80 (aL (eI .u8) (a0F 32 0) [eI .u32 0,eI .i64 0,.row (some true) 1 [],eI .i64 0,eB false]):=zrA rC
instance :ZrA Tryz.prog 97 (aL (eI .u8) (a0F 32 0) [eI .u32 0,eI .u32 0,.row (some true) 1 []]):=zrA aKr
instance :ZrA Tryz.prog 153 ((eI .i64 0)::(aL (eI .u8) (a0F 32 0) [])):=zrA aMQ
instance :ZrA Tryz.prog 191 (aL (eI .u8) (a0F 32 0) [eI .i64 0,eI .i64 0]):=zrA aEP
instance :ZrA Tryz.prog 278 (aL (eI .u8) (a0F 32 0) [eI .i64 0,eI .i64 0,.row (some true) 1 [],.row (some true) 1 [],eI .i64 0]):=zrA aEY
instance :ZrA Tryz.prog 298 (dU (eI .u64) (a0F 4 0) (dU (eI .u64) (a0F 4 0) [])):=zrA aMA
theorem aZ7 :uM Tryz.prog 9 26=some ((a0F 32 ([.int .u8])).flatten):=by kernel_rfl
theorem aFp :uM Tryz.prog 9 76=some ((a0F 32 ([.int .u8])).flatten++[.int .u32]):=by kernel_rfl
theorem aIN :Tryz.prog.eqGuardType Tryz.prog.depth 76=false:=by kernel_rfl
noncomputable def aNb :MT:=(rM Tryz.prog 100).getD default
theorem aZI :rM Tryz.prog 100=some aNb:=by kernel_rfl
theorem aY1 :aG8 Tryz.prog aNb.kt (fun a:aC=> .agg (aBd (cA a)).toArray) iF:=by
 rw[show aNb.kt=76 by kernel_rfl];exact aIC (d:=9) lU rfl aFp (a0G rfl) (fun _=>rfl) (fun _ _=>rfl)
instance :MpC Tryz.prog 100 aC aA iF (fun a=> .agg (cA a)) cA aH aM fD (aA.mk (aC.mk (a0F 32 0) 0) (aQ.mk 0 []) 0 false) 33037:=⟨aNb,33,37,_,aZI,by kernel_rfl,by kernel_rfl,by kernel_rfl,fun _=>rfl,aY1,fun _=>rfl,fun _=>rfl,fun _=>rfl,fun _=>rfl,fun _=>rfl,fun _=>rfl,fun _=>rfl,fun _=>⟨rfl,rfl⟩,by kernel_rfl⟩
noncomputable def aMU :MT:=(rM Tryz.prog 118).getD default
theorem aZK :rM Tryz.prog 118=some aMU:=by kernel_rfl
theorem aZa :aG8 Tryz.prog aMU.kt (fun a:ByteArray=> .string a) aPr:=by
 rw[show aMU.kt=9 by kernel_rfl];exact aTN ti9 rfl (by kernel_rfl)
instance :MpC Tryz.prog 118 ByteArray Bool aPr eS (fun a=>[eS a]) (fun b=>[eB b]) eB aLe false 0:=⟨aMU,0,0,_,aZK,by kernel_rfl,by kernel_rfl,by kernel_rfl,fun _=>rfl,aZa,fun _=>rfl,fun _=>rfl,fun _=>rfl,fun _=>rfl,fun _=>rfl,fun _=>rfl,fun _=>rfl,fun _=>⟨rfl,rfl⟩,by kernel_rfl⟩
noncomputable def aMB :MT:=(rM Tryz.prog 160).getD default
theorem aZw :rM Tryz.prog 160=some aMB:=by kernel_rfl
theorem aZi :aG8 Tryz.prog aMB.kt (fun a:aC=> .agg (aBd (cA a)).toArray) tG:=by
 rw[show aMB.kt=76 by kernel_rfl];exact aIC (d:=9) lU rfl aFp (a0G rfl) (fun _=>rfl) (fun _ _=>rfl)
instance :MpC Tryz.prog 160 aC Bool tG (fun a=> .agg (cA a)) cA (fun b=>[eB b]) eB aGL false 33000:=⟨aMB,33,0,_,aZw,by kernel_rfl,by kernel_rfl,by kernel_rfl,fun _=>rfl,aZi,fun _=>rfl,fun _=>rfl,fun _=>rfl,fun _=>rfl,fun _=>rfl,fun _=>rfl,fun _=>rfl,fun _=>⟨rfl,rfl⟩,by kernel_rfl⟩
noncomputable def aMz :MT:=(rM Tryz.prog 200).getD default
theorem aZf :rM Tryz.prog 200=some aMz:=by kernel_rfl
theorem aZu :aG8 Tryz.prog aMz.kt (fun a:List Int=> .agg (aBd ((dN (eI .u8)) a)).toArray) yE:=by
 rw[show aMz.kt=26 by kernel_rfl];exact aIC (d:=9) iO rfl aZ7 (a0G rfl) (fun _=>rfl) (fun _ _=>rfl)
instance :MpC Tryz.prog 200 (List Int) Int yE (fun a=> .agg ((dN (eI .u8)) a)) (dN (eI .u8)) (fun b=>[(eI .i64) b]) (eI .i64) aEQ 0 32000:=⟨aMz,32,0,_,aZf,by kernel_rfl,by kernel_rfl,by kernel_rfl,fun _=>rfl,aZu,fun _=>rfl,fun _=>rfl,fun _=>rfl,fun _=>rfl,fun _=>rfl,fun _=>rfl,fun _=>rfl,fun _=>⟨rfl,rfl⟩,by kernel_rfl⟩
theorem zH {p:Prop} (h:p:=by(simp only[pS,jO,aLz,rnH,Blk.rn,V.rns,V.rn,sg,List.map_cons,List.map_nil,Option.map_some,Option.map_none,List.drop_succ_cons,List.drop_zero,List.drop_nil,List.set_cons_zero,List.set_cons_succ,List.cons_append,List.nil_append,List.append_nil,aAb,aAa,aXH,aYj,aLQ,aLN,aIg,aIh,aMa,aMh,aKT,aK1,aMm,aLT,aNU,aNC,aMl,aLM,aLj,aLi,aMt,aMG,aQH,aQw,aMI,aMu,aNW,aNw,aDP,aDV,aQy,aPW,aDl,aCQ,aJO,aJP,aO1,aOZ,aTP,aTR,aJN,aJQ,aTz,aTm,aRJ,aRt,aP7,aQM,aQE,aXg,aVe,List.getElem?_cons_zero,List.getElem?_cons_succ,List.getElem?_nil,List.length_cons,List.length_nil,Nat.reduceAdd,Nat.reduceSub,Nat.add_zero,Nat.zero_add,Nat.sub_self,Nat.sub_zero]<;>rfl)):p:=h
theorem zc {f:FuncId}{hb:Hp}{args xs:List V}{r:V}{N n t:Nat}{ops:Array Oper}{l:List Oper}{fr:List (Nat×V)}{K:List V→Hp→Prop}{ty:TypeId}{pos:String}{aft:Array Edge}{ws:List Operand}{ts:Array TypeId}{hs hs' hb':Hp}{v:V}(hc:Vm.Fn Tryz.prog f hs args r hs')(ρ:List Nat)(k:OpsX Tryz.prog N none ops l (aG n ((t,v)::fr)) hb' K) (hw:k6 n fr ws=some xs:=by rfl) (hnd:ρ.Nodup:=by decide) (hlt:ρ.all (fun b=>Nat.blt b hb.length)=true:=by rfl) (hl:Lend (sg ρ hb.length) hb ρ hs:=by repeat (first|exact Lend.nil|refine Lend.cons rfl rfl ?_|refine Lend.cons rfl (pX (fun _=>rfl) _) ?_|refine Lend.cons rfl (cZ (fun _=>rfl) _) ?_)) (hx:V.les y8 xs (V.rns (sg ρ hb.length) args):=by repeat (first|exact V.les_refl _ _|exact V.les_nil|apply V.les_cons|exact V.le_refl _ _|exact V.le_nil|exact V.le_row|exact V.le_arr (fun _=>rfl)|apply V.le_agg)) (hr:r.rn (sg ρ hb.length)=v:=by exact zH) (hh:pS hb ρ hs'=hb':=by exact zH):OpsX Tryz.prog N none ops (⟨some t,.call ⟨.value (.func f),ws.toArray,ts⟩,ty,pos,aft,none⟩::l) (aG n fr) hb K:=xC hw (Vm.Fn.argsLe (Vm.Fn.lendB hc ρ hnd hlt hl rfl hr hh) hx) k
theorem kX {f:FuncId}{hb:Hp}{args xs:List V}{r:V}{N n t:Nat}{ops:Array Oper}{l:List Oper}{fr:List (Nat×V)}{K:List V→Hp→Prop}{ty:TypeId}{pos:String}{aft:Array Edge}{ws:List Operand}{ts:Array TypeId}{hs hs' hb':Hp}{v:V}(hc:Vm.Fn Tryz.prog f hs args r hs')(ρ β:List Nat)(k:OpsX Tryz.prog N none ops l (aG n ((t,v)::fr)) hb' K) (hw:k6 n fr ws=some xs:=by rfl) (hnd:ρ.Nodup:=by decide) (hlt:ρ.all (fun b=>Nat.blt b hb.length)=true:=by rfl) (hdis: ∀b∈β,b∉ρ:=by decide) (hl:Lend (sg ρ hb.length) hb ρ hs:=by repeat (first|exact Lend.nil|refine Lend.cons rfl rfl ?_|refine Lend.cons rfl (pX (fun _=>rfl) _) ?_|refine Lend.cons rfl (cZ (fun _=>rfl) _) ?_)) (hx:Brw (sg ρ hb.length) (only β hb) xs args:=by repeat (first|exact Brw.nil|refine Brw.same rfl ?_|refine Brw.row (aNs (by first|exact rfl|(simp only[bO,bP];done)|exact aT (by assumption)|exact bN (by assumption)) rfl (fun _=>rfl)) ?_|refine Brw.row (aL1 (fun _=>rfl) zl (by first|exact rfl|(simp only[bO,bP];done)|exact aT (by assumption)|exact bN (by assumption)) rfl (fun _=>rfl)) ?_|refine Brw.row (aKV (fun _=>rfl) zl (fun x hx=>dG (aIT (by assumption) x hx)) (by first|exact rfl|(simp only[bO,bP];done)|exact aT (by assumption)|exact bN (by assumption)) rfl (fun _=>rfl)) ?_|refine Brw.same (by simp only[V.rn,V.rns,aAb,aAa]) ?_|refine Brw.le V.le_nil ?_|refine Brw.le V.le_row ?_)) (hrf:r.rf=true:=by first|rfl|simp[V.rf,V.rfs,aPD,aQY]) (hrb:rfB hs':=by repeat (first|exact rfB.nil|refine rfB.dead ?_|refine rfB.live rfl ?_|refine rfB.live (aFk (fun _=>rfl) _) ?_|refine rfB.live (aJf (fun _=>rfl) _) ?_)) (hr:r.rn (sg ρ hb.length)=v:=by exact zH) (hh:pS hb ρ hs'=hb':=by exact zH):OpsX Tryz.prog N none ops (⟨some t,.call ⟨.value (.func f),ws.toArray,ts⟩,ty,pos,aft,none⟩::l) (aG n fr) hb K:=xC hw (Vm.Fn.lendR hc ρ β hnd hlt hdis hl hx hrf hrb hr hh) k
theorem zg {f:FuncId}{hb:Hp}{args xs:List V}{r:V}{N n t:Nat}{ops:Array Oper}{l:List Oper}{fr:List (Nat×V)}{K:List V→Hp→Prop}{ty:TypeId}{pos:String}{aft:Array Edge}{ws:List Operand}{ts:Array TypeId}{hs hs' hb':Hp}{v:V}{F G:List Nat}{gd:Option (Nat×Bool)}(hc:Vm.Fn Tryz.prog f hs args r hs')(ρ:List Nat)(k:OpsX Tryz.prog N (some (F,G)) ops l (aG n ((t,v)::fr)) hb' K) (hw:k6 n fr ws=some xs:=by rfl) (hnd:ρ.Nodup:=by decide) (hlt:ρ.all (fun b=>Nat.blt b hb.length)=true:=by rfl) (hl:Lend (sg ρ hb.length) hb ρ hs:=by repeat (first|exact Lend.nil|refine Lend.cons rfl rfl ?_|refine Lend.cons rfl (pX (fun _=>rfl) _) ?_|refine Lend.cons rfl (cZ (fun _=>rfl) _) ?_)) (hx:V.les y8 xs (V.rns (sg ρ hb.length) args):=by repeat (first|exact V.les_refl _ _|exact V.les_nil|apply V.les_cons|exact V.le_refl _ _|exact V.le_nil|exact V.le_row|exact V.le_arr (fun _=>rfl)|apply V.le_agg)) (hr:r.rn (sg ρ hb.length)=v:=by exact zH) (hh:pS hb ρ hs'=hb':=by exact zH) (hF:cD F f=false:=by rfl) (hG:cD G f=true→ ∃news,hb'=hb++news:=by first|exact(fun _=>⟨_,rfl⟩)|exact(fun _=>⟨[],(List.append_nil _).symm⟩)|exact(fun h=>absurd h (by decide))) (hg:Gd ops n fr gd:=by exact gD):OpsX Tryz.prog N (some (F,G)) ops (⟨some t,.call ⟨.value (.func f),ws.toArray,ts⟩,ty,pos,aft,gd⟩::l) (aG n fr) hb K:=xG hw (Vm.Fn.argsLe (Vm.Fn.lendB hc ρ hnd hlt hl rfl hr hh) hx) k hF hG hg
theorem y7 {f:FuncId}{hb:Hp}{args xs:List V}{r:V}{N n t:Nat}{ops:Array Oper}{l:List Oper}{fr:List (Nat×V)}{K:List V→Hp→Prop}{ty:TypeId}{pos:String}{aft:Array Edge}{ws:List Operand}{ts:Array TypeId}{hs hs' hb':Hp}{v:V}{F G:List Nat}{gd:Option (Nat×Bool)}(hc:Vm.Fn Tryz.prog f hs args r hs')(ρ β:List Nat)(k:OpsX Tryz.prog N (some (F,G)) ops l (aG n ((t,v)::fr)) hb' K) (hw:k6 n fr ws=some xs:=by rfl) (hnd:ρ.Nodup:=by decide) (hlt:ρ.all (fun b=>Nat.blt b hb.length)=true:=by rfl) (hdis: ∀b∈β,b∉ρ:=by decide) (hl:Lend (sg ρ hb.length) hb ρ hs:=by repeat (first|exact Lend.nil|refine Lend.cons rfl rfl ?_|refine Lend.cons rfl (pX (fun _=>rfl) _) ?_|refine Lend.cons rfl (cZ (fun _=>rfl) _) ?_)) (hx:Brw (sg ρ hb.length) (only β hb) xs args:=by repeat (first|exact Brw.nil|refine Brw.same rfl ?_|refine Brw.row (aNs (by first|exact rfl|(simp only[bO,bP];done)|exact aT (by assumption)|exact bN (by assumption)) rfl (fun _=>rfl)) ?_|refine Brw.row (aL1 (fun _=>rfl) zl (by first|exact rfl|(simp only[bO,bP];done)|exact aT (by assumption)|exact bN (by assumption)) rfl (fun _=>rfl)) ?_|refine Brw.row (aKV (fun _=>rfl) zl (fun x hx=>dG (aIT (by assumption) x hx)) (by first|exact rfl|(simp only[bO,bP];done)|exact aT (by assumption)|exact bN (by assumption)) rfl (fun _=>rfl)) ?_|refine Brw.same (by simp only[V.rn,V.rns,aAb,aAa]) ?_|refine Brw.le V.le_nil ?_|refine Brw.le V.le_row ?_)) (hrf:r.rf=true:=by first|rfl|simp[V.rf,V.rfs,aPD,aQY]) (hrb:rfB hs':=by repeat (first|exact rfB.nil|refine rfB.dead ?_|refine rfB.live rfl ?_|refine rfB.live (aFk (fun _=>rfl) _) ?_|refine rfB.live (aJf (fun _=>rfl) _) ?_)) (hr:r.rn (sg ρ hb.length)=v:=by exact zH) (hh:pS hb ρ hs'=hb':=by exact zH) (hF:cD F f=false:=by rfl) (hG:cD G f=true→ ∃news,hb'=hb++news:=by first|exact(fun _=>⟨_,rfl⟩)|exact(fun _=>⟨[],(List.append_nil _).symm⟩)|exact(fun h=>absurd h (by decide))) (hg:Gd ops n fr gd:=by exact gD):OpsX Tryz.prog N (some (F,G)) ops (⟨some t,.call ⟨.value (.func f),ws.toArray,ts⟩,ty,pos,aft,gd⟩::l) (aG n fr) hb K:=xG hw (Vm.Fn.lendR hc ρ β hnd hlt hdis hl hx hrf hrb hr hh) k hF hG hg
theorem xp {f:FuncId}{hb:Hp}{args xs:List V}{r:V}{N n t:Nat}{ops:Array Oper}{l:List Oper}{fr:List (Nat×V)}{K:List V→Hp→Prop}{ty:TypeId}{pos:String}{aft:Array Edge}{ws:List Operand}{ts:Array TypeId}(hc:Vm.Fn Tryz.prog f [] args r [])(k:OpsX Tryz.prog N none ops l (aG n ((t,r)::fr)) hb K) (hw:k6 n fr ws=some xs:=by rfl) (hx:V.les y8 xs args:=by repeat (first|exact V.les_refl _ _|exact V.les_nil|apply V.les_cons|exact V.le_refl _ _|exact V.le_nil|exact V.le_row|exact V.le_arr (fun _=>rfl)|apply V.le_agg)) (ha:V.rns (sg [] hb.length) args=args:=by first|rfl|(simp only[V.rn,V.rns,aAb,aAa]<;>rfl)) (hr:r.rn (sg [] hb.length)=r:=by first|rfl|(simp only[V.rn,V.rns,aAb,aAa]<;>rfl)):OpsX Tryz.prog N none ops (⟨some t,.call ⟨.value (.func f),ws.toArray,ts⟩,ty,pos,aft,none⟩::l) (aG n fr) hb K:=xC hw (Vm.Fn.argsLe (Vm.Fn.pure hc ha hr) hx) k
theorem xu {f:FuncId}{hb:Hp}{args xs:List V}{r:V}{N n t:Nat}{ops:Array Oper}{l:List Oper}{fr:List (Nat×V)}{K:List V→Hp→Prop}{ty:TypeId}{pos:String}{aft:Array Edge}{ws:List Operand}{ts:Array TypeId}{F G:List Nat}{gd:Option (Nat×Bool)}(hc:Vm.Fn Tryz.prog f [] args r [])(k:OpsX Tryz.prog N (some (F,G)) ops l (aG n ((t,r)::fr)) hb K) (hw:k6 n fr ws=some xs:=by rfl) (hx:V.les y8 xs args:=by repeat (first|exact V.les_refl _ _|exact V.les_nil|apply V.les_cons|exact V.le_refl _ _|exact V.le_nil|exact V.le_row|exact V.le_arr (fun _=>rfl)|apply V.le_agg)) (ha: ∀L,V.rns (sg [] L) args=args:=by(intro L;first|rfl|(simp only[V.rn,V.rns,aAb,aAa]<;>rfl))) (hr: ∀L,r.rn (sg [] L)=r:=by(intro L;first|rfl|(simp only[V.rn,V.rns,aAb,aAa]<;>rfl))) (hG:cD G f=false:=by rfl) (hg:Gd ops n fr gd:=by exact gD):OpsX Tryz.prog N (some (F,G)) ops (⟨some t,.call ⟨.value (.func f),ws.toArray,ts⟩,ty,pos,aft,gd⟩::l) (aG n fr) hb K:=xU hw (fun _=>Vm.Fn.argsLe (Vm.Fn.pure hc (ha _) (hr _)) hx) k hG hg
end Go.Proofs.YtopdhljncajmpaaGreatDoor
set_option linter.unusedSimpArgs false
set_option linter.unusedVariables false
namespace Go.Vm
open Go
variable {P:Program}{f:FuncId}{h h':Hp}{r:V}{k:Nat}
theorem Fn.nilCases {es:List V}{nl:Option Bool}(hc:es≠ []→Fn P f h [.row nl k es] r h')(h1:es=[]→Fn P f h [.row (some true) 1 []] r h')
  (h2: ∀ad cap,es=[]→Fn P f h [.sc (.slice (some ad) 0 cap)] r h'):Fn P f h [.row nl k es] r h':=by
 intro A M w vs H hv
 by_cases he:es=[]
 ·have hv':=hv
  unfold VCells at hv'
  obtain⟨v,rest,rfl,hr,ht⟩:=hv'
  subst he
  unfold VR at hr
  obtain⟨a,cap,rfl,hcap,hn,_,_,_⟩:=hr
  cases a with
  |none=>
   refine h1 rfl A M w _ H ?_
   unfold VCells
   refine⟨_,_,rfl, ?_,ht⟩
   unfold VR
   obtain rfl:=hn rfl
   exact⟨none,0,rfl,Nat.le_refl _,fun _=>rfl,fun b hb=>by cases hb;exact rfl,by simp,by simp⟩
  |some ad=>
   refine h2 ad cap rfl A M w _ H ?_
   unfold VCells
   refine⟨_,_,rfl, ?_,ht⟩
   unfold VR
   rfl
 exact hc he A M w vs H hv
theorem V.emptyRow {X:Nat→Prop}{M:List (Option Nat)}{w:World}{ad:Addr}{cap k:Nat}{v:Value}(hv:VR X M w (.sc (.slice (some ad) 0 cap)) v):VR X M w (.row none k []) v:=by
 unfold VR at hv⊢
 subst hv
 exact⟨some ad,cap,rfl,Nat.zero_le _,(fun h=>by cases h),(fun b hb=>by cases hb),by simp,by simp⟩
theorem Ghost.sc0 {N n t k:Nat}{fr:List (Nat×V)}{h:Hp}{ad:Addr}{cap:Nat}(h0:eP fr t=some (.sc (.slice (some ad) 0 cap))):Ghost N (aG n fr) h (aG n [(t,.row none k [])]) h:=fun A M a w _ R=>
 ⟨M,rfl,⟨R.hr,aHW R.sr (fun u y hy=>by
  simp only[eP]at hy
  cases hb:Nat.beq t u with
  |false=>rw[hb]at hy;cases hy
  |true=>
   rw[hb]at hy
   obtain rfl:=Nat.eq_of_beq_eq_true hb
   injection hy with hy
   subst hy
   exact⟨_,h0,fun v hv=>V.emptyRow hv⟩),R.defers⟩,fun _ hl=>hl⟩
section
variable {P:Program}{t e:TypeId}{sz by_:Nat}{z:Value}{xo yo:Operand}
theorem aUB {k:Nat}{x:V}{xs:List V}(ht:aJ P t=some ⟨.slice e,sz,by_,z⟩):c9 P .eql t xo yo (.row none k (x::xs)) (.row (some true) 1 [])=some (eB false):=by
 simp only[c9,eM,aNi,ht,aKX]
 rfl
theorem aXi {k:Nat}{α:Type}{E:α→V}{l:List α}(hl:l≠ [])(ht:aJ P t=some ⟨.slice e,sz,by_,z⟩):c9 P .eql t xo yo (.row none k (l.map E)) (.row (some true) 1 [])=some (eB false):=by
 cases l with
 |nil=>exact absurd rfl hl
 |cons a l=>exact aUB ht
theorem aXz {ad:Addr}{n cap:Nat}(ht:aJ P t=some ⟨.slice e,sz,by_,z⟩):c9 P .eql t xo yo (.sc (.slice (some ad) n cap)) (.row (some true) 1 [])=some (eB false):=by
 show Option.map ofValue (aP P (do pure (Value.bool (←Op.equal t _ _))))=_
 rw[aAt _ _ (nil_eq ht ad n cap)];rfl
theorem aXe (ht:aJ P t=some ⟨.slice e,sz,by_,z⟩):aP P (Op.equal t (.slice none 0 0) (.slice none 0 0))=some true:=by
 have h1:=(cL ht).1
 have e1:underlying t=Sem.program fun p=>match p.underlying t with|some d=>pure d|none=>stuck "no such type" :=rfl
 unfold Op.equal Op.maxDepth
 show aP P (Op.equalIn (9999+1) t _ _)=_
 rw[Op.equalIn,e1]
 show aP P (Sem.bind (Sem.program _) _)=_
 simp only[Sem.bind,aP,h1]
 rfl
theorem aWn (ht:aJ P t=some ⟨.slice e,sz,by_,z⟩):c9 P .eql t xo yo (.row (some true) 1 []) (.row (some true) 1 [])=some (eB true):=by
 show Option.map ofValue (aP P (do pure (Value.bool (←Op.equal t _ _))))=_
 rw[aAt _ _ (aXe ht)];rfl
end
end Go.Vm
set_option maxRecDepth 20000
set_option maxHeartbeats 1000000
namespace Go.Proofs.YtopdhljncajmpaaGreatDoor
open Go Go.Vm
theorem aWF {N vs r} (he:vs≠ []) (hr:dJ N vs=some r):Vm.Fn Tryz.prog 90 [] [.row none 1 (vs.map (eI .u8))] (.row none 1 (r.map (eI .u8))) []:=by
 refine zf Tryz.func90 Tryz.ntmps90 ?_
 unfold dJ at hr
 refine zz ?_
 refine a0H<|zz ?_
 refine xw (v:=(eB false)) (jB rfl rfl (aXi he lA)) ?_
 refine zz ?_
 refine AB.cndF rfl rfl ?_
 obtain⟨x7,h_1,hr⟩:=aN hr
 refine zz ?_
 refine xw (v:=(.sl 0 0 0 1 false)) (h':=[some ⟨5,[].map (eI .u8)⟩]) (oG rfl (aVy lA oS rfl rfl rfl rfl)) ?_
 refine zz ?_
 obtain rfl:=sj hr
 exact zr1 Tryz.results90 dO (Ghost.trans (zv 1) (zG []))
theorem aWI {N r} (hr:dJ N []=some r):Vm.Fn Tryz.prog 90 [] [.row (some true) 1 []] (.row none 1 (r.map (eI .u8))) []:=by
 refine zf Tryz.func90 Tryz.ntmps90 ?_
 refine zz ?_
 refine a0H<|zz ?_
 refine xw (v:=(eB true)) (jB rfl rfl (aWn lA)) ?_
 refine zz ?_
 refine AB.cnd rfl (fun _=> ?_) (fun h=>by cases h)
 refine a0H<|zz ?_
 obtain rfl:[]=r:=sj hr
 exact zd1 Tryz.results90 []
theorem aXh {N ad cap r} (hr:dJ N []=some r):Vm.Fn Tryz.prog 90 [] [.sc (.slice (some ad) 0 cap)] (.row none 1 (r.map (eI .u8))) []:=by
 refine zf Tryz.func90 Tryz.ntmps90 ?_
 refine zz ?_
 refine a0H<|a0H<|zz ?_
 refine xS (jB rfl rfl (aXz lA)) ?_
 refine zz ?_
 refine AB.cnd rfl (fun h=>by cases h) (fun _=> ?_)
 refine AB.skip ?_
 show AB _ _ _ _ _ _
 refine AB.ghost (Ghost.sc0 (t:=0) (k:=1) rfl) ?_
 show AB _ _ _ _ (aG 8 [(0,.row none 1 (([]:List Int).map (eI .u8)))]) []
 unfold dJ at hr
 obtain⟨x7,h_1,hr⟩:=aN hr
 refine a0H<|xr ?_
 refine xw (v:=(.sl 0 0 0 1 false)) (h':=[some ⟨5,[].map (eI .u8)⟩]) (oG rfl (aVy lA oS rfl rfl rfl rfl)) ?_
 refine zz ?_
 obtain rfl:=sj hr
 exact zr1 Tryz.results90 dO (Ghost.trans (zv 1) (zG []))
theorem aFa {N vs r} (hr:dJ N vs=some r):Vm.Fn Tryz.prog 90 [] [.row none 1 (vs.map (eI .u8))] (.row none 1 (r.map (eI .u8))) []:=by
 refine Fn.nilCases (fun he=>aWF (fun h=>he (by rw[h];rfl)) hr) (fun he=>aWI (N:=N) ?_) (fun ad cap he=>aXh (N:=N) ?_)
 all_goals (cases vs with
  |nil=>exact hr
  |cons a l=>cases he)
end Go.Proofs.YtopdhljncajmpaaGreatDoor
