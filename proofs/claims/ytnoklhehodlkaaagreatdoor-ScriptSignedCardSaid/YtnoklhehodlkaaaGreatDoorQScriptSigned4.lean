/- Texts of ours, joined: Sh, OpenArr, OpenS, Plain1, Plain2, PlainU1, PlainU2, PlainU3, PlainU4, PlainV1, PlainV2, PlainV3, PlainN1, PlainH1, PlainH2, PlainC1. -/
import Derived.Test.YtnoklhehodlkaaaGreatDoorQScriptSigned3
import Derived.OpenShut
set_option linter.unusedVariables false
set_option linter.unusedSimpArgs false
set_option maxRecDepth 20000
set_option maxHeartbeats 1000000
namespace Go.Proofs.YtnoklhehodlkaaaGreatDoor
open Go Go.Vm
structure aM where
  Code : Int
  Data : List Int
  M : Int
  N : Int
abbrev cI (x : aM) : List V := [(eI .i64 x.Code), (.row none 1 (x.Data.map (eI .u8))), (eI .i64 x.M), (eI .i64 x.N)]
abbrev v5 (x : aM) : V := .agg (cI x)
@[simp] theorem iH {f : Nat → Nat} (l : List aM) : V.rns f (l.flatMap cI) = l.flatMap cI := fN (fun _ => rfl) l
@[simp] theorem iD {f : Nat → Nat} (x : aM) : V.rns f (cI x) = cI x := rfl
structure aE where
  outer : Bool
  taken : Bool
abbrev aN (x : aE) : List V := [(eB x.outer), (eB x.taken)]
@[simp] theorem dC {f : Nat → Nat} (l : List aE) : V.rns f (l.flatMap aN) = l.flatMap aN := fN (fun _ => rfl) l
@[simp] theorem c9 {f : Nat → Nat} (x : aE) : V.rns f (aN x) = aN x := rfl
structure kF where
  Tx : List Int
  Index : Int
abbrev sW (x : kF) : List V := (aO (eI .u8) x.Tx [(eI .u32 x.Index)])
@[simp] theorem dJ {f : Nat → Nat} (l : List kF) : V.rns f (l.flatMap sW) = l.flatMap sW := fN (fun _ => rfl) l
@[simp] theorem dK {f : Nat → Nat} (x : kF) : V.rns f (sW x) = sW x := rfl
structure tN where
  Prev : kF
  Sequence : Int
  Witness : List (List Int)
abbrev tI (x : tN) : List V := (aO (eI .u8) x.Prev.Tx [(eI .u32 x.Prev.Index), (eI .u32 x.Sequence), (.row none 1 (x.Witness.map (eL 1 (eI .u8))))])
abbrev aHq (x : tN) : V := .agg (tI x)
@[simp] theorem eT {f : Nat → Nat} (l : List tN) : V.rns f (l.flatMap tI) = l.flatMap tI := fN (fun _ => rfl) l
@[simp] theorem eP {f : Nat → Nat} (x : tN) : V.rns f (tI x) = tI x := rfl
structure pG where
  Value : Int
  Script : List Int
abbrev sG (x : pG) : List V := [(eI .i64 x.Value), (.row none 1 (x.Script.map (eI .u8)))]
abbrev aGU (x : pG) : V := .agg (sG x)
@[simp] theorem d9 {f : Nat → Nat} (l : List pG) : V.rns f (l.flatMap sG) = l.flatMap sG := fN (fun _ => rfl) l
@[simp] theorem d8 {f : Nat → Nat} (x : pG) : V.rns f (sG x) = sG x := rfl
abbrev aLk (e : kF × Bool) : List V := (aO (eI .u8) e.1.Tx [(eI .u32 e.1.Index), (eB e.2)])
@[simp] theorem lZ {f : Nat → Nat} (l : List (kF × Bool)) : V.rns f (l.flatMap aLk) = l.flatMap aLk := fN (fun _ => rfl) l
structure aA8 where
  Out : kF
  Output : pG
  Height : Int
  Coinbase : Bool
abbrev yQ (x : aA8) : List V := (aO (eI .u8) x.Out.Tx [(eI .u32 x.Out.Index), (eI .i64 x.Output.Value), (.row none 1 (x.Output.Script.map (eI .u8))), (eI .i64 x.Height), (eB x.Coinbase)])
@[simp] theorem fJ {f : Nat → Nat} (l : List aA8) : V.rns f (l.flatMap yQ) = l.flatMap yQ := fN (fun _ => rfl) l
@[simp] theorem fF {f : Nat → Nat} (x : aA8) : V.rns f (yQ x) = yQ x := rfl
def nW (N : Nat) (x2 : Bool) : Option Bool :=
  some x2
def kT (N : Nat) (code : Int) : Option Bool :=
  if decide (1 ≤ code) then
    nW N (decide (code ≤ 17))
  else
    nW N false
def xW (N : Nat) (l0 : List Int) : Option (List Int) :=
  some l0
def j8 (N : Nat) (parts : List (List Int)) : Nat → Int → (List Int) → Option (List Int)
  | 0, _, _ => none
  | m + 1, x8, aS =>
    if decide (x8 < (parts.length : Int)) then
      (cU parts x8).bind fun bS =>
      (app 1 aS bS).bind fun aZ =>
      (j8 N parts m) (IntKind.i64.wrap (x8 + 1)) aZ
    else
      some aS
def iO (N : Nat) (parts : List (List Int)) : Option (List Int) :=
  (j8 N parts N 0 []).bind fun p2 =>
  xW N p2
def gZ (N : Nat) (x4 : Bool) : Option Bool :=
  some x4
def l8 (N : Nat) (vm : Int) (vn : Int) : Option Bool :=
  if decide (1 ≤ vn) then
    if decide (vn ≤ 15) then
      if decide (1 ≤ vm) then
        gZ N (decide (vm ≤ vn))
      else
        gZ N false
    else
      gZ N false
  else
    gZ N false
def kE (N : Nat) (x8 : Int) (b_1 : List Int) (c1 : Int) (aGE : Int) (l2 : List Int) : Option (Int × (List Int) × Int × Int × (List Int) × Int) :=
  some (IntKind.i64.wrap x8, l2, c1, aGE, b_1, 0)
def pK (N : Nat) (x8 : Int) (x18 : List Int) (x35 : Bool) : Option (Int × (List Int) × Int × Int × (List Int) × Int) :=
  if x35 then
    some (0, [], 0, 0, [], 1)
  else
    (cU x18 0).bind fun x38 =>
    (sub x18 1 (IntKind.i64.wrap (1 + (IntKind.i64.wrap x38)))).bind fun x44 =>
    (iO N [x44]).bind fun x46 =>
    (sub x18 (IntKind.i64.wrap (1 + (IntKind.i64.wrap x38))) (x18.length : Int)).bind fun x49 =>
    kE N x8 x49 0 0 x46
def tR (N : Nat) (b : List Int) : Option (Int × (List Int) × Int × Int × (List Int) × Int) :=
  (cU b 0).bind fun x8 =>
  (kT N (IntKind.i64.wrap x8)).bind fun aZ =>
  if !aZ then
    some (0, [], 0, 0, [], 80)
  else
    (sub b 1 (b.length : Int)).bind fun x18 =>
    if (IntKind.i64.wrap x8) == 1 then
      if (x18.length : Int) == 0 then
        pK N x8 x18 true
      else
        (cU x18 0).bind fun eV =>
        pK N x8 x18 (decide ((IntKind.i64.wrap ((x18.length : Int) - 1)) < (IntKind.i64.wrap eV)))
    else
      if (IntKind.i64.wrap x8) == 11 then
        if decide ((x18.length : Int) < 2) then
          some (0, [], 0, 0, [], 1)
        else
          (cU x18 0).bind fun x58 =>
          (cU x18 1).bind fun x62 =>
          (sub x18 2 (x18.length : Int)).bind fun x66 =>
          (l8 N (IntKind.i64.wrap x58) (IntKind.i64.wrap x62)).bind fun x73 =>
          if !x73 then
            some (0, [], 0, 0, [], 5)
          else
            kE N x8 x66 (IntKind.i64.wrap x58) (IntKind.i64.wrap x62) []
      else
        kE N x8 x18 0 0 []
def u7 (N : Nat) (l0 : List aM) : Option ((List aM) × Int) :=
  some (l0, 0)
def jO (N : Nat) : Nat → (List Int) → (List aM) → Option (LR ((List aM)) ((List aM) × Int))
  | 0, _, _ => none
  | m + 1, b_1, aS =>
    if decide (0 < (b_1.length : Int)) then
      (tR N b_1).bind fun x16 =>
      if x16.2.2.2.2.2 != 0 then
        some (.ret ([], x16.2.2.2.2.2))
      else
        (app 48 aS [(aM.mk x16.1 x16.2.1 x16.2.2.1 x16.2.2.2.1)]).bind fun x26 =>
        (jO N m) x16.2.2.2.2.1 x26
    else
      some (.brk aS)
def r4 (N : Nat) (b : List Int) : Option ((List aM) × Int) :=
  if decide (520 < (b.length : Int)) then
    some ([], 4)
  else
    (jO N N b []).bind fun q => match q with
      | .ret v => some v
      | .brk p2 =>
        u7 N p2
def uJ (N : Nat) (l0 : List Bool) : Option Bool :=
  some ((l0.length : Int) == 0)
def iR (N : Nat) (l : List aM) (x9 : Int) (rec : Int → (List Bool) → Option (LR ((List Bool)) (Bool))) (mJ : List Bool) : Option (LR ((List Bool)) (Bool)) :=
  rec (IntKind.i64.wrap (x9 + 1)) mJ
def mW (N : Nat) (l : List aM) (x9 : Int) (aS : List Bool) (rec : Int → (List Bool) → Option (LR ((List Bool)) (Bool))) (nA : Bool) : Option (LR ((List Bool)) (Bool)) :=
  if nA then
    some (.ret false)
  else
    (cU aS (IntKind.i64.wrap ((aS.length : Int) - 1))).bind fun x35 =>
    iR N l x9 rec (aS.set (Int.toNat (IntKind.i64.wrap ((aS.length : Int) - 1))) true)
def cW (N : Nat) (l : List aM) : Nat → Int → (List Bool) → Option (LR ((List Bool)) (Bool))
  | 0, _, _ => none
  | m + 1, x9, aS =>
    if decide (x9 < (l.length : Int)) then
      (cU l x9).bind fun bW =>
      if bW.Code == 14 then
        (app 1 aS [false]).bind fun dW =>
        iR N l x9 (cW N l m) dW
      else
        if bW.Code == 15 then
          if decide ((IntKind.i64.wrap ((aS.length : Int) - 1)) < 0) then
            mW N l x9 aS (cW N l m) true
          else
            (cU aS (IntKind.i64.wrap ((aS.length : Int) - 1))).bind fun mL =>
            mW N l x9 aS (cW N l m) mL
        else
          if bW.Code == 16 then
            if decide ((IntKind.i64.wrap ((aS.length : Int) - 1)) < 0) then
              some (.ret false)
            else
              (sub aS 0 (IntKind.i64.wrap ((aS.length : Int) - 1))).bind fun x42 =>
              iR N l x9 (cW N l m) x42
          else
            iR N l x9 (cW N l m) aS
    else
      some (.brk aS)
def qJ (N : Nat) (l : List aM) : Option Bool :=
  (cW N l N 0 []).bind fun q => match q with
    | .ret v => some v
    | .brk p2 =>
      uJ N p2
def s7 (N : Nat) : Option Bool :=
  some true
def fL (N : Nat) (stack : List (List Int)) : Nat → Int → Option (LR (Unit) (Bool))
  | 0, _ => none
  | m + 1, bS =>
    if decide (bS < (stack.length : Int)) then
      (cU stack bS).bind fun cL =>
      if decide (520 < (cL.length : Int)) then
        some (.ret false)
      else
        (fL N stack m) (IntKind.i64.wrap (bS + 1))
    else
      some (.brk ())
def pA (N : Nat) (stack : List (List Int)) : Option Bool :=
  if decide (64 < (stack.length : Int)) then
    some false
  else
    (fL N stack N 0).bind fun q => match q with
      | .ret v => some v
      | .brk p2 =>
        s7 N
def qA (N : Nat) (l0 : List (List Int)) : Option (List (List Int)) :=
  some l0
def iQ (N : Nat) (stack : List (List Int)) : Nat → Int → (List (List Int)) → Option (List (List Int))
  | 0, _, _ => none
  | m + 1, x8, aS =>
    if decide (x8 < (stack.length : Int)) then
      (cU stack x8).bind fun bS =>
      (iO N [bS]).bind fun x15 =>
      (app 24 aS [x15]).bind fun x17 =>
      (iQ N stack m) (IntKind.i64.wrap (x8 + 1)) x17
    else
      some aS
def nG (N : Nat) (stack : List (List Int)) : Option (List (List Int)) :=
  (iQ N stack N 0 []).bind fun p2 =>
  qA N p2
def gH (N : Nat) (aB : List Int) (aD : Int) (aH : Int) (aF : List (List Int)) (aC : List aE) (aP : Int) (x2 : Bool) : Option Bool :=
  some x2
def lG (N : Nat) (aB : List Int) (aD : Int) (aH : Int) (aF : List (List Int)) (aC : List aE) (aP : Int) : Option Bool :=
  if (aC.length : Int) == 0 then
    some true
  else
    (cU aC (IntKind.i64.wrap ((aC.length : Int) - 1))).bind fun eX =>
    if eX.outer then
      gH N aB aD aH aF aC aP eX.taken
    else
      gH N aB aD aH aF aC aP false
def rP (N : Nat) (aJ : Int) (aU : List Int) (bU : Int) (bN : Int) : Option Int :=
  if aJ == 8 then
    some 6
  else
    if aJ == 10 then
      some 21
    else
      if aJ == 11 then
        some (IntKind.i64.wrap (1 + (IntKind.i64.wrap (20 * bN))))
      else
        some 1
def lH (N : Nat) (aJ : Int) (aU : List Int) (bU : Int) (bN : Int) (bS : Bool) : Option Int :=
  if bS then
    some 2
  else
    if aJ == 11 then
      some (IntKind.i64.wrap (2 * bN))
    else
      some 1
def jZ (N : Nat) (aJ : Int) (aU : List Int) (bU : Int) (bN : Int) (x5 : Bool) : Option Int :=
  if x5 then
    some 0
  else
    if aJ == 4 then
      lH N aJ aU bU bN (aJ == 4)
    else
      if aJ == 5 then
        lH N aJ aU bU bN (aJ == 5)
      else
        lH N aJ aU bU bN (aJ == 10)
def rR (N : Nat) (aJ : Int) (aU : List Int) (bU : Int) (bN : Int) : Option Int :=
  if aJ == 1 then
    jZ N aJ aU bU bN (aJ == 1)
  else
    if aJ == 15 then
      jZ N aJ aU bU bN (aJ == 15)
    else
      if aJ == 16 then
        jZ N aJ aU bU bN (aJ == 16)
      else
        jZ N aJ aU bU bN (aJ == 17)
def bY (N : Nat) (aB : List Int) (aD : Int) (aH : Int) (aF : List (List Int)) (aC : List aE) (aP : Int) : Option (List Int) :=
  (cU aF (IntKind.i64.wrap ((aF.length : Int) - 1))).bind fun d7 =>
  some d7
def vM (N : Nat) : Option Bool :=
  some false
def hH (N : Nat) (g9 : List Int) : Nat → Int → Option (LR (Unit) (Bool))
  | 0, _ => none
  | m + 1, x7 =>
    if decide (x7 < (g9.length : Int)) then
      (cU g9 x7).bind fun x9 =>
      if x9 != 0 then
        some (.ret true)
      else
        (hH N g9 m) (IntKind.i64.wrap (x7 + 1))
    else
      some (.brk ())
def kV (N : Nat) (g9 : List Int) : Option Bool :=
  (hH N g9 N 0).bind fun q => match q with
    | .ret v => some v
    | .brk p2 =>
      vM N
def dB (N : Nat) (aB : List Int) (aD : Int) (aH : Int) (aF : List (List Int)) (aC : List aE) (aP : Int) (vn : Int) : Option ((List Int) × Int × Int × (List (List Int)) × (List aE) × Int) :=
  (sub aF 0 (IntKind.i64.wrap ((aF.length : Int) - vn))).bind fun x16 =>
  some (aB, aD, aH, x16, aC, aP)
def fP (N : Nat) (aB : List Int) (aD : Int) (aH : Int) (aF : List (List Int)) (aC : List aE) (aP : Int) (g9 : List Int) : Option (Int × (List Int) × Int × Int × (List (List Int)) × (List aE) × Int) :=
  if decide (64 ≤ (aF.length : Int)) then
    some (4, aB, aD, aH, aF, aC, aP)
  else
    (app 24 aF [g9]).bind fun x18 =>
    some (0, aB, aD, aH, x18, aC, aP)
def wZ (N : Nat) (va : List Int) (b : List Int) : Option Bool :=
  some ((yJ va).toList == (yJ b).toList)
def sX (N : Nat) (l0 : List Int) : Option (List Int) :=
  some l0
def bL (N : Nat) : Nat → Int → (List Int) → Option (List Int)
  | 0, _, _ => none
  | m + 1, fW, aS =>
    if decide (0 < fW) then
      (app 1 aS [IntKind.u8.wrap fW]).bind fun cL =>
      (shr .u32 fW 8).bind fun x7 =>
      (bL N m) x7 cL
    else
      some aS
def dA (N : Nat) (vn : Int) : Option (List Int) :=
  (bL N N vn []).bind fun p2 =>
  sX N p2
def lU (N : Nat) (v : Bool) : Option (List Int) :=
  if v then
    (dA N 1).bind fun x4 =>
    some x4
  else
    (dA N 0).bind fun x5 =>
    some x5
def cK (N : Nat) (aB : List Int) (aD : Int) (aH : Int) (aF : List (List Int)) (aC : List aE) (aP : Int) (vn : Int) (g9 : List Int) : Option ((List Int) × Int × Int × (List (List Int)) × (List aE) × Int) :=
  (dB N aB aD aH aF aC aP vn).bind fun x8 =>
  (app 24 x8.2.2.2.1 [g9]).bind fun x16 =>
  some (x8.1, x8.2.1, x8.2.2.1, x16, x8.2.2.2.2.1, x8.2.2.2.2.2)
def aAN (N : Nat) (l0 : List Int) : Option (List Int) :=
  some l0
def nU (N : Nat) (vn : Int) : Nat → Int → (List Int) → Option (List Int)
  | 0, _, _ => none
  | m + 1, x18, aS =>
    if decide (x18 < 8) then
      (shr .u64 (IntKind.u64.wrap (8 * vn)) (IntKind.i64.wrap (56 - (IntKind.i64.wrap (8 * x18))))).bind fun x27 =>
      (app 1 aS [IntKind.u8.wrap x27]).bind fun mL =>
      (nU N vn m) (IntKind.i64.wrap (x18 + 1)) mL
    else
      some aS
def aAz (N : Nat) (vn : Int) : Option (List Int) :=
  (mkl 1 0 (IntKind.u64.wrap (1 + (Int.tmod (IntKind.u64.wrap (64 - (Int.tmod (IntKind.u64.wrap (vn + 9)) 64))) 64))) (IntKind.u64.wrap (9 + (Int.tmod (IntKind.u64.wrap (64 - (Int.tmod (IntKind.u64.wrap (vn + 9)) 64))) 64)))).bind fun x15 =>
  (cU x15 0).bind fun x17 =>
  (nU N vn N 0 (x15.set (Int.toNat 0) 128)).bind fun p2 =>
  aAN N p2
def aAL (N : Nat) (l0 : List Int) : Option (List Int) :=
  some l0
def n7 (N : Nat) (parts : List (List Int)) : Nat → Int → (List Int) → Option (List Int)
  | 0, _, _ => none
  | m + 1, x8, aS =>
    if decide (x8 < (parts.length : Int)) then
      (cU parts x8).bind fun bS =>
      (app 1 aS bS).bind fun aZ =>
      (n7 N parts m) (IntKind.i64.wrap (x8 + 1)) aZ
    else
      some aS
def yX (N : Nat) (parts : List (List Int)) : Option (List Int) :=
  (n7 N parts N 0 []).bind fun p2 =>
  aAL N p2
def iC (N : Nat) (x : Int) (k : Int) : Option Int :=
  (shl .u32 x (bits .and .u64 (IntKind.u64.wrap k) 31)).bind fun bW =>
  (shr .u32 x (IntKind.u64.wrap (32 - (bits .and .u64 (IntKind.u64.wrap k) 31)))).bind fun x15 =>
  some (bits .or .u32 bW x15)
def cN (N : Nat) (x : Int) (vn : Int) : Option Int :=
  (iC N x (IntKind.i64.wrap (0 - vn))).bind fun x8 =>
  some x8
def oE (N : Nat) (c5 : List Int) : Option (List Int) :=
  (aR 64 c5).bind fun q =>
  some c5
def fV (N : Nat) : Nat → Int → (List Int) → Option (List Int)
  | 0, _, _ => none
  | m + 1, vi, cO =>
    if decide (vi < 64) then
      (aW 64 cO (IntKind.i64.wrap (vi - 15))).bind fun x37 =>
      (cN N x37 7).bind fun x39 =>
      (cN N x37 18).bind fun x44 =>
      (shr .u32 x37 3).bind fun x50 =>
      (aW 64 cO (IntKind.i64.wrap (vi - 2))).bind fun x54 =>
      (cN N x54 17).bind fun x56 =>
      (cN N x54 19).bind fun x61 =>
      (shr .u32 x54 10).bind fun x67 =>
      (aW 64 cO (IntKind.i64.wrap (vi - 16))).bind fun x72 =>
      (aW 64 cO (IntKind.i64.wrap (vi - 7))).bind fun x78 =>
      (aW 64 cO vi).bind fun x83 =>
      (fV N m) (IntKind.i64.wrap (vi + 1)) (cO.set (Int.toNat vi) (IntKind.u32.wrap ((IntKind.u32.wrap ((IntKind.u32.wrap (x72 + (bits .xor .u32 (bits .xor .u32 x39 x44) x50))) + x78)) + (bits .xor .u32 (bits .xor .u32 x56 x61) x67))))
    else
      some cO
def nP (N : Nat) (l1 : List Int) : Option (List Int) :=
  (fV N N 16 l1).bind fun p3 =>
  oE N p3
def q8 (N : Nat) (block : List Int) (x9 : Int) (rec : Int → (List Int) → Option (List Int)) (cX : List Int) : Option (List Int) :=
  rec (IntKind.i64.wrap (x9 + 1)) cX
def c6 (N : Nat) (block : List Int) (x9 : Int) : Nat → Int → (List Int) → Option (List Int)
  | 0, _, _ => none
  | m + 1, cL, eE =>
    if decide (cL < 4) then
      (aW 64 eE x9).bind fun x17 =>
      (shl .u32 x17 8).bind fun x19 =>
      (aW 64 block (IntKind.i64.wrap ((IntKind.i64.wrap (4 * x9)) + cL))).bind fun jD =>
      (c6 N block x9 m) (IntKind.i64.wrap (cL + 1)) (eE.set (Int.toNat x9) (bits .or .u32 x19 (IntKind.u32.wrap jD)))
    else
      some eE
def eQ (N : Nat) (block : List Int) : Nat → Int → (List Int) → Option (List Int)
  | 0, _, _ => none
  | m + 1, x9, l2 =>
    if decide (x9 < 16) then
      (c6 N block x9 N 0 l2).bind fun p6 =>
      q8 N block x9 (eQ N block m) p6
    else
      some l2
def mR (N : Nat) (block : List Int) : Option (List Int) :=
  (eQ N block N 0 (List.replicate 64 0)).bind fun p4 =>
  nP N p4
def oF (N : Nat) (bX : List Int) (va : Int) (b : Int) (c : Int) (d : Int) (ve : Int) (f : Int) (g : Int) (vh : Int) : Option (List Int) :=
  (aW 8 bX 0).bind fun x98 =>
  (aW 8 bX 1).bind fun aEj =>
  (aW 8 bX 2).bind fun rZ =>
  (aW 8 bX 3).bind fun aKi =>
  (aW 8 bX 4).bind fun aEC =>
  (aW 8 bX 5).bind fun aKO =>
  (aW 8 bX 6).bind fun aB5 =>
  (aW 8 bX 7).bind fun cA =>
  some [IntKind.u32.wrap (x98 + va), IntKind.u32.wrap (aEj + b), IntKind.u32.wrap (rZ + c), IntKind.u32.wrap (aKi + d), IntKind.u32.wrap (aEC + ve), IntKind.u32.wrap (aKO + f), IntKind.u32.wrap (aB5 + g), IntKind.u32.wrap (cA + vh)]
def fS (N : Nat) (bX : List Int) (x18 : (List Int)) : Nat → Int → Int → Int → Int → Int → Int → Int → Int → Int → Option (Int × Int × Int × Int × Int × Int × Int × Int)
  | 0, _, _, _, _, _, _, _, _, _ => none
  | m + 1, va_1, b_1, c_1, d_1, ve_1, f_1, g_1, vh_1, x35 =>
    if decide (x35 < 64) then
      (cN N ve_1 6).bind fun x40 =>
      (cN N ve_1 11).bind fun x42 =>
      (cN N ve_1 25).bind fun x45 =>
      (aW 64 aAk x35).bind fun x58 =>
      (aW 64 x18 x35).bind fun x62 =>
      (cN N va_1 2).bind fun x66 =>
      (cN N va_1 13).bind fun x68 =>
      (cN N va_1 22).bind fun x71 =>
      (fS N bX x18 m) (IntKind.u32.wrap ((IntKind.u32.wrap ((IntKind.u32.wrap ((IntKind.u32.wrap ((IntKind.u32.wrap (vh_1 + (bits .xor .u32 (bits .xor .u32 x40 x42) x45))) + (bits .xor .u32 (bits .and .u32 ve_1 f_1) (bits .and .u32 (bits .xor .u32 (IntKind.max .u32) ve_1) g_1)))) + x58)) + x62)) + (IntKind.u32.wrap ((bits .xor .u32 (bits .xor .u32 x66 x68) x71) + (bits .xor .u32 (bits .xor .u32 (bits .and .u32 va_1 b_1) (bits .and .u32 va_1 c_1)) (bits .and .u32 b_1 c_1)))))) va_1 b_1 c_1 (IntKind.u32.wrap (d_1 + (IntKind.u32.wrap ((IntKind.u32.wrap ((IntKind.u32.wrap ((IntKind.u32.wrap (vh_1 + (bits .xor .u32 (bits .xor .u32 x40 x42) x45))) + (bits .xor .u32 (bits .and .u32 ve_1 f_1) (bits .and .u32 (bits .xor .u32 (IntKind.max .u32) ve_1) g_1)))) + x58)) + x62)))) ve_1 f_1 g_1 (IntKind.i64.wrap (x35 + 1))
    else
      some (va_1, b_1, c_1, d_1, ve_1, f_1, g_1, vh_1)
def jV (N : Nat) (bX : List Int) (block : List Int) : Option (List Int) :=
  (aR 64 block).bind fun q =>
  (mR N block).bind fun x18 =>
  (aR 64 x18).bind fun q_1 =>
  (aW 8 bX 0).bind fun x19 =>
  (aW 8 bX 1).bind fun dE =>
  (aW 8 bX 2).bind fun e9 =>
  (aW 8 bX 3).bind fun x25 =>
  (aW 8 bX 4).bind fun x27 =>
  (aW 8 bX 5).bind fun x29 =>
  (aW 8 bX 6).bind fun eV =>
  (aW 8 bX 7).bind fun oG =>
  (fS N bX x18 N x19 dE e9 x25 x27 x29 eV oG 0).bind fun p2 =>
  oF N bX p2.1 p2.2.1 p2.2.2.1 p2.2.2.2.1 p2.2.2.2.2.1 p2.2.2.2.2.2.1 p2.2.2.2.2.2.2.1 p2.2.2.2.2.2.2.2
def yO (N : Nat) (c5 : List Int) : Option (List Int) :=
  (aR 32 c5).bind fun q =>
  some c5
def p8 (N : Nat) (l1 : List Int) : Nat → Int → (List Int) → Option (List Int)
  | 0, _, _ => none
  | m + 1, eV, l2 =>
    if decide (eV < 32) then
      (aW 8 l1 (IntKind.i64.wrap (Int.tdiv eV 4))).bind fun x37 =>
      (shr .u32 x37 (IntKind.i64.wrap (24 - (IntKind.i64.wrap ((Int.tmod eV 4) * 8))))).bind fun x43 =>
      (aW 32 l2 eV).bind fun x45 =>
      (p8 N l1 m) (IntKind.i64.wrap (eV + 1)) (l2.set (Int.toNat eV) (IntKind.u8.wrap x43))
    else
      some l2
def yN (N : Nat) (l1 : List Int) : Option (List Int) :=
  (p8 N l1 N 0 (List.replicate 32 0)).bind fun p3 =>
  yO N p3
def pV (N : Nat) (aZ : (List Int)) : Nat → Int → (List Int) → Option (List Int)
  | 0, _, _ => none
  | m + 1, x19, cO =>
    if decide (x19 < (IntKind.i64.wrap (Int.tdiv (aZ.length : Int) 64))) then
      (aR 8 cO).bind fun q_1 =>
      (sub aZ (IntKind.i64.wrap (64 * x19)) (aZ.length : Int)).bind fun x26 =>
      (nM 64 x26).bind fun x27 =>
      (jV N cO x27).bind fun x29 =>
      (aR 8 x29).bind fun q_2 =>
      (pV N aZ m) (IntKind.i64.wrap (x19 + 1)) x29
    else
      some cO
def wI (N : Nat) (b : List Int) : Option (List Int) :=
  (aAz N (IntKind.u64.wrap (b.length : Int))).bind fun cL =>
  (yX N [b, cL]).bind fun aZ =>
  (pV N aZ N 0 tB).bind fun p4 =>
  yN N p4
def lP (N : Nat) (l1 : List Int) : Option (List Int) :=
  (aR 4 l1).bind fun q =>
  some l1
def eG (N : Nat) (vh : List Int) : Nat → Int → (List Int) → Option (List Int)
  | 0, _, _ => none
  | m + 1, x8, c5 =>
    if decide (x8 < 32) then
      (aW 32 vh x8).bind fun bW =>
      (aW 4 c5 (IntKind.i64.wrap (3 - (IntKind.i64.wrap (Int.tdiv x8 8))))).bind fun x17 =>
      (shl .u64 x17 8).bind fun x19 =>
      (eG N vh m) (IntKind.i64.wrap (x8 + 1)) (c5.set (Int.toNat (IntKind.i64.wrap (3 - (IntKind.i64.wrap (Int.tdiv x8 8))))) (bits .or .u64 x19 (IntKind.u64.wrap bW)))
    else
      some c5
def eM (N : Nat) (vh : List Int) : Option (List Int) :=
  (aR 32 vh).bind fun q_1 =>
  (eG N vh N 0 (List.replicate 4 0)).bind fun p2 =>
  lP N p2
def eH (N : Nat) (vn : Int) : Option (List Int) :=
  some [vn, 0, 0, 0]
def nD (N : Nat) : Option (List Int) :=
  some [18446744073709515503, 18446744073709551615, 18446744073709551615, 18446744073709551615]
def xD (N : Nat) : Option Int :=
  some 0
def kO (N : Nat) (va : List Int) (b : List Int) : Nat → Int → Option (LR (Unit) (Int))
  | 0, _ => none
  | m + 1, vi =>
    if decide (0 ≤ vi) then
      (aW 4 va vi).bind fun bW =>
      (aW 4 b vi).bind fun aZ =>
      if decide (bW < aZ) then
        some (.ret (-1))
      else
        if decide (aZ < bW) then
          some (.ret 1)
        else
          (kO N va b m) (IntKind.i64.wrap (vi - 1))
    else
      some (.brk ())
def lL (N : Nat) (va : List Int) (b : List Int) : Option Int :=
  (kO N va b N 3).bind fun q => match q with
    | .ret v => some v
    | .brk p2 =>
      xD N
def lV (N : Nat) : Option (List Int) :=
  some [18446744073709533559, 18446744073709551615, 18446744073709551615, 9223372036854775807]
def gB (N : Nat) (x_3 : Int) (xZ : Int) : Option Int :=
  (aIE (⟨#[0, 1, 2, 2, 3, 3, 3, 3, 4, 4, 4, 4, 4, 4, 4, 4, 5, 5, 5, 5, 5, 5, 5, 5, 5, 5, 5, 5, 5, 5, 5, 5, 6, 6, 6, 6, 6, 6, 6, 6, 6, 6, 6, 6, 6, 6, 6, 6, 6, 6, 6, 6, 6, 6, 6, 6, 6, 6, 6, 6, 6, 6, 6, 6, 7, 7, 7, 7, 7, 7, 7, 7, 7, 7, 7, 7, 7, 7, 7, 7, 7, 7, 7, 7, 7, 7, 7, 7, 7, 7, 7, 7, 7, 7, 7, 7, 7, 7, 7, 7, 7, 7, 7, 7, 7, 7, 7, 7, 7, 7, 7, 7, 7, 7, 7, 7, 7, 7, 7, 7, 7, 7, 7, 7, 7, 7, 7, 7, 8, 8, 8, 8, 8, 8, 8, 8, 8, 8, 8, 8, 8, 8, 8, 8, 8, 8, 8, 8, 8, 8, 8, 8, 8, 8, 8, 8, 8, 8, 8, 8, 8, 8, 8, 8, 8, 8, 8, 8, 8, 8, 8, 8, 8, 8, 8, 8, 8, 8, 8, 8, 8, 8, 8, 8, 8, 8, 8, 8, 8, 8, 8, 8, 8, 8, 8, 8, 8, 8, 8, 8, 8, 8, 8, 8, 8, 8, 8, 8, 8, 8, 8, 8, 8, 8, 8, 8, 8, 8, 8, 8, 8, 8, 8, 8, 8, 8, 8, 8, 8, 8, 8, 8, 8, 8, 8, 8, 8, 8, 8, 8, 8, 8, 8, 8, 8, 8, 8, 8, 8, 8, 8, 8, 8, 8, 8, 8]⟩) (IntKind.u8.wrap x_3)).bind fun dW =>
  some (IntKind.i64.wrap (xZ + (IntKind.i64.wrap dW)))
def i5 (N : Nat) (x_2 : Int) (fW : Int) : Option Int :=
  if decide (256 ≤ x_2) then
    (shr .u64 x_2 8).bind fun x16 =>
    gB N x16 (IntKind.i64.wrap (fW + 8))
  else
    gB N x_2 fW
def iV (N : Nat) (x_1 : Int) (vn : Int) : Option Int :=
  if decide (65536 ≤ x_1) then
    (shr .u64 x_1 16).bind fun bS =>
    i5 N bS (IntKind.i64.wrap (vn + 16))
  else
    i5 N x_1 vn
def nV (N : Nat) (x : Int) : Option Int :=
  if decide (4294967296 ≤ x) then
    (shr .u64 x 32).bind fun x6 =>
    iV N x6 32
  else
    iV N x 0
def wW (N : Nat) : Option Int :=
  some 0
def oI (N : Nat) (va : List Int) : Nat → Int → Option (LR (Unit) (Int))
  | 0, _ => none
  | m + 1, vi =>
    if decide (0 ≤ vi) then
      (aW 4 va vi).bind fun x9 =>
      if x9 != 0 then
        (nV N x9).bind fun x17 =>
        some (.ret (IntKind.i64.wrap ((IntKind.i64.wrap (64 * vi)) + x17)))
      else
        (oI N va m) (IntKind.i64.wrap (vi - 1))
    else
      some (.brk ())
def zK (N : Nat) (va : List Int) : Option Int :=
  (oI N va N 3).bind fun q => match q with
    | .ret v => some v
    | .brk p2 =>
      wW N
def jX (N : Nat) (x : Int) (y : Int) : Option (Int × Int) :=
  (shr .u64 x 32).bind fun x17 =>
  (shr .u64 y 32).bind fun dE =>
  (shr .u64 (IntKind.u64.wrap ((bits .and .u64 x 4294967295) * (bits .and .u64 y 4294967295))) 32).bind fun x29 =>
  (shr .u64 (IntKind.u64.wrap ((IntKind.u64.wrap (x17 * (bits .and .u64 y 4294967295))) + x29)) 32).bind fun fY =>
  (shr .u64 (IntKind.u64.wrap ((bits .and .u64 (IntKind.u64.wrap ((IntKind.u64.wrap (x17 * (bits .and .u64 y 4294967295))) + x29)) 4294967295) + (IntKind.u64.wrap ((bits .and .u64 x 4294967295) * dE)))) 32).bind fun x46 =>
  some (IntKind.u64.wrap ((IntKind.u64.wrap ((IntKind.u64.wrap (x17 * dE)) + fY)) + x46), IntKind.u64.wrap (x * y))
def cV (N : Nat) (x y c : Int) : Option (Int × Int) := o5 x y c
def t0 (N : Nat) (l2 : List Int) : Option ((List Int) × (List Int)) :=
  (aR 8 l2).bind fun q =>
  (qV l2 4 8).bind fun x63 =>
  (nM 4 x63).bind fun x64 =>
  (qV l2 0 4).bind fun x66 =>
  (nM 4 x66).bind fun x67 =>
  some (x64, x67)
def tQ (N : Nat) (va : List Int) (b : List Int) (aZ : Int) (rec : Int → (List Int) → Option (List Int)) (pB : List Int) : Option (List Int) :=
  rec (IntKind.i64.wrap (aZ + 1)) pB
def tX (N : Nat) (va : List Int) (b : List Int) (aZ : Int) (rec : Int → (List Int) → Option (List Int)) (iL : Int) (uE : List Int) : Option (List Int) :=
  (aW 8 uE (IntKind.i64.wrap (aZ + 4))).bind fun x61 =>
  tQ N va b aZ rec (uE.set (Int.toNat (IntKind.i64.wrap (aZ + 4))) iL)
def b8 (N : Nat) (va : List Int) (b : List Int) (aZ : Int) : Nat → Int → Int → (List Int) → Option (Int × (List Int))
  | 0, _, _, _ => none
  | m + 1, carry_1, x17, l4_3 =>
    if decide (x17 < 4) then
      (aW 4 va aZ).bind fun dW =>
      (aW 4 b x17).bind fun x25 =>
      (jX N dW x25).bind fun x27 =>
      (aW 8 l4_3 (IntKind.i64.wrap (aZ + x17))).bind fun x35 =>
      (cV N x27.2 x35 0).bind fun x37 =>
      (cV N x37.1 carry_1 0).bind fun x46 =>
      (b8 N va b aZ m) (IntKind.u64.wrap ((IntKind.u64.wrap (x27.1 + x37.2)) + x46.2)) (IntKind.i64.wrap (x17 + 1)) (l4_3.set (Int.toNat (IntKind.i64.wrap (aZ + x17))) x46.1)
    else
      some (carry_1, l4_3)
def iE (N : Nat) (va : List Int) (b : List Int) : Nat → Int → (List Int) → Option (List Int)
  | 0, _, _ => none
  | m + 1, aZ, l4 =>
    if decide (aZ < 4) then
      (b8 N va b aZ N 0 0 l4).bind fun p5 =>
      tX N va b aZ (iE N va b m) p5.1 p5.2
    else
      some l4
def uG (N : Nat) (va : List Int) (b : List Int) : Option ((List Int) × (List Int)) :=
  (iE N va b N 0 (List.replicate 8 0)).bind fun p2 =>
  t0 N p2
def sI (N : Nat) (aD6 : Int) (l0 : List Int) : Option ((List Int) × Int) :=
  (aR 4 l0).bind fun q =>
  some (l0, aD6)
def kJ (N : Nat) : Nat → Int → Int → (List Int) → Option (Int × (List Int))
  | 0, _, _, _ => none
  | m + 1, low_2, x7, aS =>
    if decide (x7 < 4) then
      (aW 4 aS x7).bind fun cL =>
      (shl .u64 cL 1).bind fun aZ =>
      (shr .u64 cL 63).bind fun eX =>
      (kJ N m) eX (IntKind.i64.wrap (x7 + 1)) (aS.set (Int.toNat x7) (bits .or .u64 aZ low_2))
    else
      some (low_2, aS)
def oJ (N : Nat) (va : List Int) (low : Int) : Option ((List Int) × Int) :=
  (kJ N N low 0 va).bind fun p2 =>
  sI N p2.1 p2.2
def nR (N : Nat) (x y c : Int) : Option (Int × Int) := aAH x y c
def tV (N : Nat) (borrow : Int) (l1 : List Int) : Option ((List Int) × Bool) :=
  (aR 4 l1).bind fun q =>
  some (l1, borrow != 0)
def iB (N : Nat) (va : List Int) (b : List Int) : Nat → Int → Int → (List Int) → Option (Int × (List Int))
  | 0, _, _, _ => none
  | m + 1, borrow_1, x9, l3 =>
    if decide (x9 < 4) then
      (aW 4 va x9).bind fun x15 =>
      (aW 4 b x9).bind fun x18 =>
      (nR N x15 x18 borrow_1).bind fun dE =>
      (aW 4 l3 x9).bind fun jD =>
      (iB N va b m) dE.2 (IntKind.i64.wrap (x9 + 1)) (l3.set (Int.toNat x9) dE.1)
    else
      some (borrow_1, l3)
def oM (N : Nat) (va : List Int) (b : List Int) : Option ((List Int) × Bool) :=
  (iB N va b N 0 0 (List.replicate 4 0)).bind fun p2 =>
  tV N p2.1 p2.2
def wU (N : Nat) (l0 : List Int) (l1 : List Int) : Option ((List Int) × (List Int) × Bool) :=
  (aR 4 l0).bind fun q_2 =>
  (aR 4 l1).bind fun q_3 =>
  some (l0, l1, true)
def wT (N : Nat) (b : List Int) (b6 : Int) (rec : Int → (List Int) → (List Int) → (List Int) → Option ((List Int) × (List Int))) (mJ : List Int) (cX : List Int) (jF : List Int) : Option ((List Int) × (List Int)) :=
  rec (IntKind.i64.wrap (b6 - 1)) mJ cX jF
def qN (N : Nat) (b : List Int) (b6 : Int) (bit : Int) (rec : Int → (List Int) → (List Int) → (List Int) → Option (LR ((List Int) × (List Int) × (List Int)) ((List Int) × (List Int)))) (aEq : List Int) (aEo : List Int) (aEm : List Int) : Option (LR ((List Int) × (List Int) × (List Int)) ((List Int) × (List Int))) :=
  rec (IntKind.i64.wrap (bit - 1)) aEq aEo aEm
def oO (N : Nat) (b : List Int) (b6 : Int) (bit : Int) (eE : List Int) (x40 : (List Int) × Int) (x46 : (List Int) × Int) (rec : Int → (List Int) → (List Int) → (List Int) → Option (LR ((List Int) × (List Int) × (List Int)) ((List Int) × (List Int)))) (x56 : Bool) : Option (LR ((List Int) × (List Int) × (List Int)) ((List Int) × (List Int))) :=
  if x56 then
    (oM N x46.1 b).bind fun x60 =>
    (aR 4 x60.1).bind fun q_8 =>
    (aW 4 eE b6).bind fun x64 =>
    (shl .u64 1 bit).bind fun x67 =>
    qN N b b6 bit rec x40.1 (eE.set (Int.toNat b6) (bits .or .u64 x64 x67)) x60.1
  else
    qN N b b6 bit rec x40.1 eE x46.1
def qS (N : Nat) (b : List Int) (b6 : Int) (bit : Int) (kU : List Int) (eE : List Int) (f7 : List Int) (rec : Int → (List Int) → (List Int) → (List Int) → Option (LR ((List Int) × (List Int) × (List Int)) ((List Int) × (List Int)))) (x37 : Bool) : Option (LR ((List Int) × (List Int) × (List Int)) ((List Int) × (List Int))) :=
  if x37 then
    some (.ret (eE, f7))
  else
    (aR 4 kU).bind fun q_4 =>
    (oJ N kU 0).bind fun x40 =>
    (aR 4 x40.1).bind fun q_5 =>
    (aR 4 f7).bind fun q_6 =>
    (oJ N f7 x40.2).bind fun x46 =>
    (aR 4 x46.1).bind fun q_7 =>
    if x46.2 != 0 then
      oO N b b6 bit eE x40 x46 rec true
    else
      (lL N x46.1 b).bind fun x54 =>
      oO N b b6 bit eE x40 x46 rec (decide (0 ≤ x54))
def cS (N : Nat) (b : List Int) (b6 : Int) : Nat → Int → (List Int) → (List Int) → (List Int) → Option (LR ((List Int) × (List Int) × (List Int)) ((List Int) × (List Int)))
  | 0, _, _, _, _ => none
  | m + 1, bit, kU, eE, f7 =>
    if decide (0 ≤ bit) then
      (aR 4 f7).bind fun q_9 =>
      if f7 == [0, 0, 0, 0] then
        (aR 4 kU).bind fun aO9 =>
        qS N b b6 bit kU eE f7 (cS N b b6 m) (kU == [0, 0, 0, 0])
      else
        qS N b b6 bit kU eE f7 (cS N b b6 m) false
    else
      some (.brk (kU, eE, f7))
def kP (N : Nat) (b : List Int) : Nat → Int → (List Int) → (List Int) → (List Int) → Option ((List Int) × (List Int))
  | 0, _, _, _, _ => none
  | m + 1, b6, aS, l2, l3 =>
    if decide (0 ≤ b6) then
      (cS N b b6 N 63 aS l2 l3).bind fun q => match q with
        | .ret p4_1 =>
          some (p4_1.1, p4_1.2)
        | .brk p4 =>
          wT N b b6 (kP N b m) p4.1 p4.2.1 p4.2.2
    else
      some (l2, l3)
def wG (N : Nat) (hi : List Int) (lo : List Int) (b : List Int) : Option ((List Int) × (List Int) × Bool) :=
  (aR 4 b).bind fun q =>
  (aR 4 hi).bind fun q_1 =>
  (lL N b hi).bind fun x16 =>
  if decide (x16 ≤ 0) then
    some ([0, 0, 0, 0], [0, 0, 0, 0], false)
  else
    (kP N b N 3 lo (List.replicate 4 0) hi).bind fun p2 =>
    wU N p2.1 p2.2
def oN (N : Nat) (va : List Int) (vm : List Int) : Option (List Int) :=
  (aR 4 va).bind fun q =>
  (aR 4 vm).bind fun q_1 =>
  (lL N va vm).bind fun bS =>
  if decide (bS < 0) then
    some va
  else
    (wG N [0, 0, 0, 0] va vm).bind fun x17 =>
    (aR 4 x17.1).bind fun q_2 =>
    (aR 4 x17.2.1).bind fun q_3 =>
    some x17.2.1
def tP (N : Nat) (va : List Int) (b : List Int) (vm : List Int) : Option (List Int) :=
  (aR 4 vm).bind fun q =>
  if vm == [0, 0, 0, 0] then
    some [0, 0, 0, 0]
  else
    (aR 4 va).bind fun q_1 =>
    (aR 4 b).bind fun q_2 =>
    (uG N va b).bind fun x19 =>
    (aR 4 x19.1).bind fun q_3 =>
    (aR 4 x19.2).bind fun q_4 =>
    (oN N x19.1 vm).bind fun x25 =>
    (wG N x25 x19.2 vm).bind fun x28 =>
    (aR 4 x28.1).bind fun q_5 =>
    (aR 4 x28.2.1).bind fun q_6 =>
    some x28.2.1
def sE (N : Nat) (va : List Int) (b : List Int) : Option (List Int) :=
  (aR 4 va).bind fun q =>
  (aR 4 b).bind fun q_1 =>
  (nD N).bind fun x7 =>
  (tP N va b x7).bind fun x8 =>
  (aR 4 x8).bind fun q_2 =>
  some x8
def vU (N : Nat) (l1 : List Int) : Option (List Int) :=
  (aR 4 l1).bind fun q_2 =>
  some l1
def pI (N : Nat) (va : List Int) (ve : List Int) (bW : Int) (d7 : Int) (rec : Int → (List Int) → Option (List Int)) (jF : List Int) : Option (List Int) :=
  rec (IntKind.i64.wrap (d7 + 1)) jF
def jT (N : Nat) (va : List Int) (ve : List Int) (bW : Int) : Nat → Int → (List Int) → Option (List Int)
  | 0, _, _ => none
  | m + 1, d7, l3 =>
    if decide (d7 < bW) then
      (aR 4 l3).bind fun q_3 =>
      (sE N l3 l3).bind fun dW =>
      (aR 4 dW).bind fun q_4 =>
      (aW 4 ve (IntKind.i64.wrap (Int.tdiv (IntKind.i64.wrap ((IntKind.i64.wrap (bW - 1)) - d7)) 64))).bind fun x25 =>
      (shr .u64 x25 (Int.tmod (IntKind.i64.wrap ((IntKind.i64.wrap (bW - 1)) - d7)) 64)).bind fun x29 =>
      if (bits .and .u64 x29 1) == 1 then
        (aR 4 va).bind fun q_5 =>
        (sE N dW va).bind fun fY =>
        (aR 4 fY).bind fun q_6 =>
        pI N va ve bW d7 (jT N va ve bW m) fY
      else
        pI N va ve bW d7 (jT N va ve bW m) dW
    else
      some l3
def rW (N : Nat) (va : List Int) (ve : List Int) : Option (List Int) :=
  (eH N 1).bind fun x9 =>
  (aR 4 x9).bind fun q =>
  (aR 4 ve).bind fun q_1 =>
  (zK N ve).bind fun bW =>
  (jT N va ve bW N 0 x9).bind fun p2 =>
  vU N p2
def jG (N : Nat) (va : List Int) (bW : Bool) : Option Bool :=
  if bW then
    some false
  else
    (aR 4 va).bind fun q =>
    (lV N).bind fun d7 =>
    (rW N va d7).bind fun aZ =>
    (eH N 1).bind fun x15 =>
    (aR 4 aZ).bind fun q_1 =>
    (aR 4 x15).bind fun q_2 =>
    some (aZ == x15)
def mV (N : Nat) (va : List Int) : Option Bool :=
  (aR 4 va).bind fun q_3 =>
  if va == [0, 0, 0, 0] then
    jG N va true
  else
    (nD N).bind fun x8 =>
    (lL N va x8).bind fun x9 =>
    jG N va (decide (0 ≤ x9))
def t9 (N : Nat) (x2 : Bool) : Option Bool :=
  some x2
def oC (N : Nat) (p : List Int) : Option Bool :=
  (aR 4 p).bind fun q =>
  (eH N 1).bind fun x4 =>
  (aR 4 x4).bind fun q_1 =>
  if !(p == x4) then
    (mV N p).bind fun x8 =>
    t9 N x8
  else
    t9 N false
def lW (N : Nat) (va : List Int) : Option Bool :=
  (aR 4 va).bind fun q =>
  (lV N).bind fun x4 =>
  (lL N va x4).bind fun x5 =>
  some (decide (x5 < 0))
def l9 (N : Nat) (d7 : (List Int)) (x18 : (List Int)) (x29 : Bool) : Option ((List Int) × (List Int) × Int) :=
  if x29 then
    some (List.replicate 4 0, List.replicate 4 0, 5)
  else
    some (d7, x18, 0)
def oK (N : Nat) (b : List Int) : Option ((List Int) × (List Int) × Int) :=
  if (b.length : Int) != 64 then
    some (List.replicate 4 0, List.replicate 4 0, 8)
  else
    (sub b 0 32).bind fun bS =>
    (nM 32 bS).bind fun bW =>
    (eM N bW).bind fun d7 =>
    (sub b 32 (b.length : Int)).bind fun x15 =>
    (nM 32 x15).bind fun x16 =>
    (eM N x16).bind fun x18 =>
    (aR 4 d7).bind fun q =>
    (aR 4 x18).bind fun q_1 =>
    (lW N d7).bind fun dW =>
    if !dW then
      l9 N d7 x18 true
    else
      (lW N x18).bind fun x27 =>
      l9 N d7 x18 (!x27)
def qP (N : Nat) (ve : List Int) : Option (List Int) :=
  (eH N 4).bind fun x3 =>
  (aR 4 ve).bind fun q =>
  (rW N x3 ve).bind fun x5 =>
  (aR 4 x5).bind fun q_1 =>
  some x5
def t4 (N : Nat) (l1 : List Int) : Option (List Int) :=
  (aR 32 l1).bind fun q =>
  some l1
def iM (N : Nat) (va : List Int) : Nat → Int → (List Int) → Option (List Int)
  | 0, _, _ => none
  | m + 1, x5, l2 =>
    if decide (x5 < 32) then
      (aW 4 va (IntKind.i64.wrap (3 - (IntKind.i64.wrap (Int.tdiv x5 8))))).bind fun cL =>
      (shr .u64 cL (IntKind.i64.wrap (56 - (IntKind.i64.wrap ((Int.tmod x5 8) * 8))))).bind fun x18 =>
      (aW 32 l2 x5).bind fun eX =>
      (iM N va m) (IntKind.i64.wrap (x5 + 1)) (l2.set (Int.toNat x5) (IntKind.u8.wrap x18))
    else
      some l2
def lS (N : Nat) (va : List Int) : Option (List Int) :=
  (iM N va N 0 (List.replicate 32 0)).bind fun p2 =>
  t4 N p2
def aAq (N : Nat) (l0 : List Int) : Option (List Int) :=
  some l0
def lX (N : Nat) (parts : List (List Int)) : Nat → Int → (List Int) → Option (List Int)
  | 0, _, _ => none
  | m + 1, x8, aS =>
    if decide (x8 < (parts.length : Int)) then
      (cU parts x8).bind fun bS =>
      (aR 32 bS).bind fun q =>
      (app 1 aS bS).bind fun aZ =>
      (lX N parts m) (IntKind.i64.wrap (x8 + 1)) aZ
    else
      some aS
def uF (N : Nat) (parts : List (List Int)) : Option (List Int) :=
  (lX N parts N 0 []).bind fun p2 =>
  aAq N p2
def uY (N : Nat) (tag : ByteArray) (b : List Int) : Option (List Int) :=
  (stb tag).bind fun x7 =>
  (wI N x7).bind fun x8 =>
  (aR 32 x8).bind fun q =>
  (yX N [x8, x8, b]).bind fun d7 =>
  (wI N d7).bind fun aZ =>
  (aR 32 aZ).bind fun q_1 =>
  some aZ
def tK (N : Nat) (iL : Int) (l1 : List Int) : Option ((List Int) × Bool) :=
  (aR 4 l1).bind fun q =>
  some (l1, iL != 0)
def iA (N : Nat) (va : List Int) (b : List Int) : Nat → Int → Int → (List Int) → Option (Int × (List Int))
  | 0, _, _, _ => none
  | m + 1, carry_1, x9, l3 =>
    if decide (x9 < 4) then
      (aW 4 va x9).bind fun x15 =>
      (aW 4 b x9).bind fun x18 =>
      (cV N x15 x18 carry_1).bind fun dE =>
      (aW 4 l3 x9).bind fun jD =>
      (iA N va b m) dE.2 (IntKind.i64.wrap (x9 + 1)) (l3.set (Int.toNat x9) dE.1)
    else
      some (carry_1, l3)
def rS (N : Nat) (va : List Int) (b : List Int) : Option ((List Int) × Bool) :=
  (iA N va b N 0 0 (List.replicate 4 0)).bind fun p2 =>
  tK N p2.1 p2.2
def kK (N : Nat) (l1 : List Int) : Option (List Int) :=
  (aR 4 l1).bind fun q_4 =>
  some l1
def kH (N : Nat) (vm : List Int) (eX : (List Int) × Bool) (x29 : Bool) : Option (List Int) :=
  if x29 then
    (oM N eX.1 vm).bind fun oG =>
    (aR 4 oG.1).bind fun q_5 =>
    kK N oG.1
  else
    kK N eX.1
def tF (N : Nat) (va : List Int) (b : List Int) (vm : List Int) : Option (List Int) :=
  (aR 4 vm).bind fun q =>
  if vm == [0, 0, 0, 0] then
    some [0, 0, 0, 0]
  else
    (aR 4 va).bind fun q_1 =>
    (oN N va vm).bind fun x16 =>
    (aR 4 b).bind fun q_2 =>
    (oN N b vm).bind fun x19 =>
    (rS N x16 x19).bind fun eX =>
    (aR 4 eX.1).bind fun q_3 =>
    if eX.2 then
      kH N vm eX true
    else
      (lL N eX.1 vm).bind fun x27 =>
      kH N vm eX (decide (0 ≤ x27))
def lB (N : Nat) (va : List Int) (b : List Int) : Option (List Int) :=
  (aR 4 va).bind fun q =>
  (aR 4 b).bind fun q_1 =>
  (lV N).bind fun x7 =>
  (tF N va b x7).bind fun x8 =>
  (aR 4 x8).bind fun q_2 =>
  some x8
def mM (N : Nat) (vh : List Int) : Option (List Int) :=
  (aR 32 vh).bind fun q =>
  (eM N vh).bind fun x4 =>
  (lB N x4 [0, 0, 0, 0]).bind fun x6 =>
  (aR 4 x6).bind fun q_1 =>
  some x6
def kI (N : Nat) (vr : List Int) (p : List Int) (vm : List Int) : Option (List Int) :=
  (aR 4 vr).bind fun q =>
  (lS N vr).bind fun x8 =>
  (aR 4 p).bind fun q_1 =>
  (lS N p).bind fun bS =>
  (aR 32 vm).bind fun q_2 =>
  (aR 32 x8).bind fun q_3 =>
  (aR 32 bS).bind fun q_4 =>
  (uF N [x8, bS, vm]).bind fun d7 =>
  (uY N (⟨#[108, 105, 103, 104, 116, 99, 108, 105, 101, 110, 116, 47, 99, 104, 97, 108, 108, 101, 110, 103, 101]⟩) d7).bind fun aZ =>
  (mM N aZ).bind fun x15 =>
  (aR 4 x15).bind fun q_5 =>
  some x15
def i6 (N : Nat) (p : List Int) (vm : List Int) (s_E : List Int) (s_S : List Int) (jD : Bool) : Option Bool :=
  if jD then
    some false
  else
    (lV N).bind fun x26 =>
    (aR 4 s_E).bind fun q =>
    (oM N x26 s_E).bind fun x29 =>
    (aR 4 x29.1).bind fun q_1 =>
    (aR 4 s_S).bind fun q_2 =>
    (qP N s_S).bind fun fY =>
    (aR 4 p).bind fun q_3 =>
    (rW N p x29.1).bind fun x37 =>
    (sE N fY x37).bind fun x38 =>
    (aR 4 x38).bind fun q_4 =>
    (aR 32 vm).bind fun q_5 =>
    (kI N x38 p vm).bind fun x44 =>
    (aR 4 x44).bind fun q_6 =>
    some (s_E == x44)
def oP (N : Nat) (p : List Int) (vm : List Int) (s_E : List Int) (s_S : List Int) : Option Bool :=
  (aR 4 s_E).bind fun q_7 =>
  (lW N s_E).bind fun cL =>
  if !cL then
    i6 N p vm s_E s_S true
  else
    (aR 4 s_S).bind fun q_8 =>
    (lW N s_S).bind fun x17 =>
    if !x17 then
      i6 N p vm s_E s_S true
    else
      (aR 4 p).bind fun q_9 =>
      (oC N p).bind fun dW =>
      i6 N p vm s_E s_S (!dW)
def eJ (N : Nat) (aB : List Int) (aD : Int) (aH : Int) (aF : List (List Int)) (aC : List aE) (aP : Int) (x40 : Bool) : Option Int :=
  if x40 then
    some 61
  else
    some 0
def cF (N : Nat) (aB : List Int) (aD : Int) (aH : Int) (aF : List (List Int)) (aC : List aE) (aP : Int) (key : List Int) (xF : List Int) : Option Int :=
  if (key.length : Int) != 32 then
    some 60
  else
    (nM 32 key).bind fun aZ =>
    (eM N aZ).bind fun x16 =>
    (aR 4 x16).bind fun q =>
    (oC N x16).bind fun x18 =>
    if !x18 then
      some 60
    else
      if (xF.length : Int) == 0 then
        some 0
      else
        (oK N xF).bind fun x25 =>
        if x25.2.2 != 0 then
          eJ N aB aD aH aF aC aP true
        else
          (aR 32 aB).bind fun q_1 =>
          (oP N x16 aB x25.1 x25.2.1).bind fun x38 =>
          eJ N aB aD aH aF aC aP (!x38)
def jJ (N : Nat) (aB : List Int) (aD : Int) (aH : Int) (aF : List (List Int)) (aC : List aE) (aP : Int) (c8 : Int) (vn : Int) (count : Int) : Option (Int × (List Int) × Int × Int × (List (List Int)) × (List aE) × Int) :=
  (lU N (decide (c8 ≤ count))).bind fun x76 =>
  (cK N aB aD aH aF aC aP (IntKind.i64.wrap (2 * vn)) x76).bind fun x77 =>
  some (0, x77.1, x77.2.1, x77.2.2.1, x77.2.2.2.1, x77.2.2.2.2.1, x77.2.2.2.2.2)
def f8 (N : Nat) (aB : List Int) (aD : Int) (aH : Int) (aF : List (List Int)) (aC : List aE) (aP : Int) (c8 : Int) (vn : Int) (e9 : List (List Int)) (x43 : List (List Int)) (x45 : Int) (rec : Int → Int → Option (LR (Int) (Int × (List Int) × Int × Int × (List (List Int)) × (List aE) × Int))) (yZ : Int) : Option (LR (Int) (Int × (List Int) × Int × Int × (List (List Int)) × (List aE) × Int)) :=
  rec yZ (IntKind.i64.wrap (x45 + 1))
def cM (N : Nat) (aB : List Int) (aD : Int) (aH : Int) (aF : List (List Int)) (aC : List aE) (aP : Int) (c8 : Int) (vn : Int) (e9 : List (List Int)) (x43 : List (List Int)) : Nat → Int → Int → Option (LR (Int) (Int × (List Int) × Int × Int × (List (List Int)) × (List aE) × Int))
  | 0, _, _ => none
  | m + 1, count_1, x45 =>
    if decide (x45 < vn) then
      (cU e9 x45).bind fun x51 =>
      (cU x43 x45).bind fun x55 =>
      (cF N aB aD aH aF aC aP x51 x55).bind fun x57 =>
      if x57 != 0 then
        some (.ret (x57, aB, aD, aH, aF, aC, aP))
      else
        if decide (0 < (x55.length : Int)) then
          f8 N aB aD aH aF aC aP c8 vn e9 x43 x45 (cM N aB aD aH aF aC aP c8 vn e9 x43 m) (IntKind.i64.wrap (count_1 + 1))
        else
          f8 N aB aD aH aF aC aP c8 vn e9 x43 x45 (cM N aB aD aH aF aC aP c8 vn e9 x43 m) count_1
    else
      some (.brk count_1)
def fX (N : Nat) (aB : List Int) (aD : Int) (aH : Int) (aF : List (List Int)) (aC : List aE) (aP : Int) (c8 : Int) (vn : Int) : Option (Int × (List Int) × Int × Int × (List (List Int)) × (List aE) × Int) :=
  (qV aF (IntKind.i64.wrap ((aF.length : Int) - vn)) (aF.length : Int)).bind fun e9 =>
  (qV aF (IntKind.i64.wrap ((aF.length : Int) - (IntKind.i64.wrap (2 * vn)))) (IntKind.i64.wrap ((aF.length : Int) - vn))).bind fun x43 =>
  (cM N aB aD aH aF aC aP c8 vn e9 x43 N 0 0).bind fun q => match q with
    | .ret v => some v
    | .brk p2 =>
      jJ N aB aD aH aF aC aP c8 vn p2
def kM (N : Nat) (vn : Int) : Option (Int × Int) :=
  some (vn, 0)
def bJ (N : Nat) (b : List Int) : Nat → Int → Int → Option Int
  | 0, _, _ => none
  | m + 1, fW, x26 =>
    if decide (x26 < (b.length : Int)) then
      (cU b x26).bind fun x29 =>
      (shl .u32 (IntKind.u32.wrap x29) (IntKind.i64.wrap (8 * x26))).bind fun x36 =>
      (bJ N b m) (bits .or .u32 fW x36) (IntKind.i64.wrap (x26 + 1))
    else
      some fW
def dP (N : Nat) (b : List Int) (e9 : Bool) : Option (Int × Int) :=
  if e9 then
    some (0, 82)
  else
    (bJ N b N 0 0).bind fun p3 =>
    kM N p3
def fA (N : Nat) (b : List Int) : Option (Int × Int) :=
  if decide (4 < (b.length : Int)) then
    dP N b true
  else
    if decide (0 < (b.length : Int)) then
      (cU b (IntKind.i64.wrap ((b.length : Int) - 1))).bind fun x19 =>
      dP N b (x19 == 0)
    else
      dP N b false
def nK (N : Nat) (g9 : List Int) (now : Int) : Option Int :=
  (fA N g9).bind fun x9 =>
  if x9.2 != 0 then
    some x9.2
  else
    if decide (now < (IntKind.i64.wrap x9.1)) then
      some 85
    else
      some 0
def cT (N : Nat) (c0 : List Int) (rI : Int) (rN : Int) (qX : Int) (l3 : List (List Int)) (l4 : List aE) : Option (Int × (List Int) × Int × Int × (List (List Int)) × (List aE) × Int) :=
  some (0, c0, rI, rN, l3, l4, qX)
def jW (N : Nat) (aB : List Int) (aD : Int) (aH : Int) (aF : List (List Int)) (aC : List aE) (aP : Int) (aJ : Int) (aU : List Int) (bU : Int) (bN : Int) : Option (Int × (List Int) × Int × Int × (List (List Int)) × (List aE) × Int) :=
  if aJ == 1 then
    (fP N aB aD aH aF aC aP aU).bind fun aZ =>
    some (aZ.1, aZ.2.1, aZ.2.2.1, aZ.2.2.2.1, aZ.2.2.2.2.1, aZ.2.2.2.2.2.1, aZ.2.2.2.2.2.2)
  else
    if aJ == 2 then
      (bY N aB aD aH aF aC aP).bind fun x19 =>
      (fP N aB aD aH aF aC aP x19).bind fun eX =>
      some (eX.1, eX.2.1, eX.2.2.1, eX.2.2.2.1, eX.2.2.2.2.1, eX.2.2.2.2.2.1, eX.2.2.2.2.2.2)
    else
      if aJ == 3 then
        (dB N aB aD aH aF aC aP 1).bind fun jD =>
        cT N jD.1 jD.2.1 jD.2.2.1 jD.2.2.2.2.2 jD.2.2.2.1 jD.2.2.2.2.1
      else
        if aJ == 4 then
          (cU aF (IntKind.i64.wrap ((aF.length : Int) - 2))).bind fun x50 =>
          (cU aF (IntKind.i64.wrap ((aF.length : Int) - 1))).bind fun x58 =>
          (cU (aF.set (Int.toNat (IntKind.i64.wrap ((aF.length : Int) - 1))) x50) (IntKind.i64.wrap ((aF.length : Int) - 2))).bind fun x61 =>
          cT N aB aD aH aP ((aF.set (Int.toNat (IntKind.i64.wrap ((aF.length : Int) - 1))) x50).set (Int.toNat (IntKind.i64.wrap ((aF.length : Int) - 2))) x58) aC
        else
          if aJ == 5 then
            (bY N aB aD aH aF aC aP).bind fun x66 =>
            (cU aF (IntKind.i64.wrap ((aF.length : Int) - 2))).bind fun x77 =>
            (wZ N x66 x77).bind fun x79 =>
            (lU N x79).bind fun x80 =>
            (cK N aB aD aH aF aC aP 2 x80).bind fun x81 =>
            cT N x81.1 x81.2.1 x81.2.2.1 x81.2.2.2.2.2 x81.2.2.2.1 x81.2.2.2.2.1
          else
            if aJ == 6 then
              (bY N aB aD aH aF aC aP).bind fun x86 =>
              (kV N x86).bind fun x87 =>
              (lU N (!x87)).bind fun x89 =>
              (cK N aB aD aH aF aC aP 1 x89).bind fun x90 =>
              cT N x90.1 x90.2.1 x90.2.2.1 x90.2.2.2.2.2 x90.2.2.2.1 x90.2.2.2.2.1
            else
              if aJ == 7 then
                (bY N aB aD aH aF aC aP).bind fun x94 =>
                (kV N x94).bind fun x95 =>
                if !x95 then
                  some (84, aB, aD, aH, aF, aC, aP)
                else
                  (dB N aB aD aH aF aC aP 1).bind fun x98 =>
                  cT N x98.1 x98.2.1 x98.2.2.1 x98.2.2.2.2.2 x98.2.2.2.1 x98.2.2.2.2.1
              else
                if aJ == 8 then
                  (bY N aB aD aH aF aC aP).bind fun aEj =>
                  (wI N aEj).bind fun aKb =>
                  (aR 32 aKb).bind fun q =>
                  (cK N aB aD aH aF aC aP 1 aKb).bind fun rZ =>
                  cT N rZ.1 rZ.2.1 rZ.2.2.1 rZ.2.2.2.2.2 rZ.2.2.2.1 rZ.2.2.2.2.1
                else
                  if aJ == 9 then
                    (bY N aB aD aH aF aC aP).bind fun aNx =>
                    (dA N (IntKind.u32.wrap (aNx.length : Int))).bind fun aEC =>
                    (fP N aB aD aH aF aC aP aEC).bind fun aCb =>
                    some (aCb.1, aCb.2.1, aCb.2.2.1, aCb.2.2.2.1, aCb.2.2.2.2.1, aCb.2.2.2.2.2.1, aCb.2.2.2.2.2.2)
                  else
                    if aJ == 10 then
                      (fX N aB aD aH aF aC aP 1 1).bind fun eU =>
                      some (eU.1, eU.2.1, eU.2.2.1, eU.2.2.2.1, eU.2.2.2.2.1, eU.2.2.2.2.2.1, eU.2.2.2.2.2.2)
                    else
                      if aJ == 11 then
                        (fX N aB aD aH aF aC aP bU bN).bind fun aB1 =>
                        some (aB1.1, aB1.2.1, aB1.2.2.1, aB1.2.2.2.1, aB1.2.2.2.2.1, aB1.2.2.2.2.2.1, aB1.2.2.2.2.2.2)
                      else
                        if aJ == 12 then
                          (bY N aB aD aH aF aC aP).bind fun aNn =>
                          (nK N aNn aD).bind fun gJ =>
                          some (gJ, aB, aD, aH, aF, aC, aP)
                        else
                          if aJ == 13 then
                            (bY N aB aD aH aF aC aP).bind fun wO =>
                            (nK N wO aH).bind fun aNJ =>
                            some (aNJ, aB, aD, aH, aF, aC, aP)
                          else
                            if aJ == 17 then
                              some (84, aB, aD, aH, aF, aC, aP)
                            else
                              cT N aB aD aH aP aF aC
def eC (N : Nat) (rI : List Int) (rN : Int) (qX : Int) (v8 : Int) (l3 : List (List Int)) (l4 : List aE) : Option (Int × (List Int) × Int × Int × (List (List Int)) × (List aE) × Int) :=
  some (0, rI, rN, qX, l3, l4, v8)
def iG (N : Nat) (aB : List Int) (aD : Int) (aH : Int) (aF : List (List Int)) (counted : Bool) (c0 : Int) (jF : List aE) : Option (Int × (List Int) × Int × Int × (List (List Int)) × (List aE) × Int) :=
  if counted then
    (dB N aB aD aH aF jF c0 1).bind fun x86 =>
    eC N x86.1 x86.2.1 x86.2.2.1 x86.2.2.2.2.2 x86.2.2.2.1 x86.2.2.2.2.1
  else
    eC N aB aD aH c0 aF jF
def fG (N : Nat) (aB : List Int) (aD : Int) (aH : Int) (aF : List (List Int)) (aC : List aE) (aJ : Int) (aU : List Int) (bU : Int) (bN : Int) (counted : Bool) (c0 : Int) : Option (Int × (List Int) × Int × Int × (List (List Int)) × (List aE) × Int) :=
  if aJ == 14 then
    if counted then
      (bY N aB aD aH aF aC c0).bind fun x76 =>
      (kV N x76).bind fun x77 =>
      (app 2 aC [(aE.mk counted x77)]).bind fun x81 =>
      iG N aB aD aH aF counted c0 x81
    else
      (app 2 aC [(aE.mk counted false)]).bind fun aHY =>
      iG N aB aD aH aF counted c0 aHY
  else
    if aJ == 15 then
      (cU aC (IntKind.i64.wrap ((aC.length : Int) - 1))).bind fun x99 =>
      eC N aB aD aH c0 aF (aC.set (Int.toNat (IntKind.i64.wrap ((aC.length : Int) - 1))) (aE.mk x99.outer (!x99.taken)))
    else
      if aJ == 16 then
        (sub aC 0 (IntKind.i64.wrap ((aC.length : Int) - 1))).bind fun y9 =>
        eC N aB aD aH c0 aF y9
      else
        if counted then
          (jW N aB aD aH aF aC c0 aJ aU bU bN).bind fun x64 =>
          some (x64.1, x64.2.1, x64.2.2.1, x64.2.2.2.1, x64.2.2.2.2.1, x64.2.2.2.2.2.1, x64.2.2.2.2.2.2)
        else
          eC N aB aD aH c0 aF aC
def fH (N : Nat) (aB : List Int) (aD : Int) (aH : Int) (aF : List (List Int)) (aC : List aE) (aP : Int) (aJ : Int) (aU : List Int) (bU : Int) (bN : Int) (counted : Bool) : Option (Int × (List Int) × Int × Int × (List (List Int)) × (List aE) × Int) :=
  if counted then
    (rP N aJ aU bU bN).bind fun x36 =>
    if decide (500 < (IntKind.i64.wrap (aP + x36))) then
      some (83, aB, aD, aH, aF, aC, IntKind.i64.wrap (aP + x36))
    else
      (rR N aJ aU bU bN).bind fun x51 =>
      if decide ((aF.length : Int) < x51) then
        some (81, aB, aD, aH, aF, aC, IntKind.i64.wrap (aP + x36))
      else
        fG N aB aD aH aF aC aJ aU bU bN counted (IntKind.i64.wrap (aP + x36))
  else
    fG N aB aD aH aF aC aJ aU bU bN counted aP
def fI (N : Nat) (aB : List Int) (aD : Int) (aH : Int) (aF : List (List Int)) (aC : List aE) (aP : Int) (aJ : Int) (aU : List Int) (bU : Int) (bN : Int) (x8 : Bool) (x16 : Bool) : Option (Int × (List Int) × Int × Int × (List (List Int)) × (List aE) × Int) :=
  if x16 then
    (cU aC (IntKind.i64.wrap ((aC.length : Int) - 1))).bind fun x27 =>
    fH N aB aD aH aF aC aP aJ aU bU bN x27.outer
  else
    fH N aB aD aH aF aC aP aJ aU bU bN x8
def fR (N : Nat) (aB : List Int) (aD : Int) (aH : Int) (aF : List (List Int)) (aC : List aE) (aP : Int) (aJ : Int) (aU : List Int) (bU : Int) (bN : Int) : Option (Int × (List Int) × Int × Int × (List (List Int)) × (List aE) × Int) :=
  (lG N aB aD aH aF aC aP).bind fun x8 =>
  if aJ == 15 then
    fI N aB aD aH aF aC aP aJ aU bU bN x8 true
  else
    fI N aB aD aH aF aC aP aJ aU bU bN x8 (aJ == 16)
def t7 (N : Nat) (c0 : List Int) (rI : Int) (rN : Int) (qX : Int) (l1 : List (List Int)) (l2 : List aE) : Option ((List (List Int)) × Int × Int) :=
  (nG N l1).bind fun x47 =>
  some (x47, qX, 0)
def kA (N : Nat) (x17 : (List aM) × Int) : Nat → Int → (List Int) → Int → Int → Int → (List (List Int)) → (List aE) → Option (LR ((List Int) × Int × Int × Int × (List (List Int)) × (List aE)) ((List (List Int)) × Int × Int))
  | 0, _, _, _, _, _, _, _ => none
  | m + 1, x35, v8, c0_5, c0_6, c0_7, cX, l3 =>
    if decide (x35 < (x17.1.length : Int)) then
      (cU x17.1 x35).bind fun x37 =>
      (fR N v8 c0_5 c0_6 cX l3 c0_7 x37.Code x37.Data x37.M x37.N).bind fun x40 =>
      if x40.1 != 0 then
        some (.ret ([], 0, x40.1))
      else
        (kA N x17 m) (IntKind.i64.wrap (x35 + 1)) x40.2.1 x40.2.2.1 x40.2.2.2.1 x40.2.2.2.2.2.2 x40.2.2.2.2.1 x40.2.2.2.2.2.1
    else
      some (.brk (v8, c0_5, c0_6, c0_7, cX, l3))
def sS (N : Nat) (b : List Int) (stack : List (List Int)) (dL : List Int) (eD : Int) (kN : Int) : Option ((List (List Int)) × Int × Int) :=
  (r4 N b).bind fun x17 =>
  if x17.2 != 0 then
    some ([], 0, x17.2)
  else
    (qJ N x17.1).bind fun jD =>
    if !jD then
      some ([], 0, 86)
    else
      (pA N stack).bind fun x27 =>
      if !x27 then
        some ([], 0, 4)
      else
        (nG N stack).bind fun eV =>
        (kA N x17 N 0 dL eD kN 0 eV []).bind fun q => match q with
          | .ret v => some v
          | .brk p2 =>
            t7 N p2.1 p2.2.1 p2.2.2.1 p2.2.2.2.1 p2.2.2.2.2.1 p2.2.2.2.2.2
def j6 (N : Nat) (x0 : Bool) : Option Bool :=
  some x0
def vK (N : Nat) : Option Bool :=
  (sS N [2, 5] [[7]] (List.replicate 32 0) 0 0).bind fun bW =>
  (fA N [1, 0]).bind fun x17 =>
  if bW.2.2 == 0 then
    if bW.2.1 == 2 then
      if (bW.1.length : Int) == 1 then
        (cU bW.1 0).bind fun oG =>
        if (oG.length : Int) == 1 then
          if x17.2 == 82 then
            (dA N 0).bind fun x43 =>
            j6 N ((x43.length : Int) == 0)
          else
            j6 N false
        else
          j6 N false
      else
        j6 N false
    else
      j6 N false
  else
    j6 N false
def nN (N : Nat) (l1 : List Int) : Option (List Int) :=
  (aR 4 l1).bind fun q =>
  some l1
def f5 (N : Nat) (vh : List Int) : Nat → Int → (List Int) → Option (List Int)
  | 0, _, _ => none
  | m + 1, x6, l2 =>
    if decide (x6 < 32) then
      (aW 4 l2 (IntKind.i64.wrap (Int.tdiv (IntKind.i64.wrap (31 - x6)) 8))).bind fun d7 =>
      (aW 32 vh x6).bind fun x16 =>
      (shl .u64 (IntKind.u64.wrap x16) (IntKind.i64.wrap (8 * (Int.tmod (IntKind.i64.wrap (31 - x6)) 8)))).bind fun dW =>
      (f5 N vh m) (IntKind.i64.wrap (x6 + 1)) (l2.set (Int.toNat (IntKind.i64.wrap (Int.tdiv (IntKind.i64.wrap (31 - x6)) 8))) (bits .or .u64 d7 dW))
    else
      some l2
def nX (N : Nat) (vh : List Int) : Option (List Int) :=
  (f5 N vh N 0 (List.replicate 4 0)).bind fun p2 =>
  nN N p2
def gV (N : Nat) (vn : Int) : Option (List Int) :=
  some [vn, 0, 0, 0]
def u3 (N : Nat) (borrow : Int) (l1 : List Int) : Option ((List Int) × Bool) :=
  (aR 4 l1).bind fun q =>
  some (l1, borrow == 1)
def mG (N : Nat) (va : List Int) (b : List Int) : Nat → Int → Int → (List Int) → Option (Int × (List Int))
  | 0, _, _, _ => none
  | m + 1, borrow_1, x9, l3 =>
    if decide (x9 < 4) then
      (aW 4 va x9).bind fun x15 =>
      (aW 4 b x9).bind fun x18 =>
      (nR N x15 x18 borrow_1).bind fun dE =>
      (aW 4 l3 x9).bind fun jD =>
      (mG N va b m) dE.2 (IntKind.i64.wrap (x9 + 1)) (l3.set (Int.toNat x9) dE.1)
    else
      some (borrow_1, l3)
def pQ (N : Nat) (va : List Int) (b : List Int) : Option ((List Int) × Bool) :=
  (mG N va b N 0 0 (List.replicate 4 0)).bind fun p2 =>
  u3 N p2.1 p2.2
def nJ (N : Nat) : Option (List Int) :=
  (gV N 36113).bind fun x5 =>
  (pQ N [0, 0, 0, 0] x5).bind fun x6 =>
  (aR 4 x6.1).bind fun q =>
  some x6.1
def kW (N : Nat) (va : List Int) (vi : Int) : Option Bool :=
  (aW 4 va (IntKind.i64.wrap (Int.tdiv vi 64))).bind fun x7 =>
  (shr .u64 x7 (Int.tmod vi 64)).bind fun bW =>
  some ((bits .and .u64 bW 1) == 1)
def zS (N : Nat) (l1 : List Int) : Option (List Int) :=
  (aR 4 l1).bind fun q_1 =>
  some l1
def vD (N : Nat) (va : List Int) (vn : Int) (vi : Int) (rec : Int → (List Int) → Option (List Int)) (cX : List Int) : Option (List Int) :=
  rec (IntKind.i64.wrap (vi + 1)) cX
def gG (N : Nat) (va : List Int) (vn : Int) : Nat → Int → (List Int) → Option (List Int)
  | 0, _, _ => none
  | m + 1, vi, l2 =>
    if decide ((IntKind.i64.wrap (vi + vn)) < 256) then
      (aR 4 va).bind fun q_2 =>
      (kW N va (IntKind.i64.wrap (vi + vn))).bind fun e9 =>
      if e9 then
        (aW 4 l2 (IntKind.i64.wrap (Int.tdiv vi 64))).bind fun x26 =>
        (shl .u64 1 (Int.tmod vi 64)).bind fun mL =>
        vD N va vn vi (gG N va vn m) (l2.set (Int.toNat (IntKind.i64.wrap (Int.tdiv vi 64))) (bits .or .u64 x26 mL))
      else
        vD N va vn vi (gG N va vn m) l2
    else
      some l2
def z9 (N : Nat) (va : List Int) (vn : Int) : Option (List Int) :=
  if decide (vn ≤ 0) then
    (aR 4 va).bind fun q =>
    some va
  else
    if decide (256 ≤ vn) then
      some [0, 0, 0, 0]
    else
      (gG N va vn N 0 (List.replicate 4 0)).bind fun p2 =>
      zS N p2
def oU (N : Nat) : Option (List Int) :=
  (nJ N).bind fun x1 =>
  (z9 N x1 1).bind fun x2 =>
  (aR 4 x2).bind fun q =>
  some x2
def lR (N : Nat) (va : List Int) : Option Bool :=
  (aR 4 va).bind fun q =>
  some (va == [0, 0, 0, 0])
def zF (N : Nat) : Option Int :=
  some 0
def mT (N : Nat) (va : List Int) (b : List Int) : Nat → Int → Option (LR (Unit) (Int))
  | 0, _ => none
  | m + 1, vi =>
    if decide (0 ≤ vi) then
      (aW 4 va vi).bind fun bW =>
      (aW 4 b vi).bind fun aZ =>
      if decide (bW < aZ) then
        some (.ret (-1))
      else
        if decide (aZ < bW) then
          some (.ret 1)
        else
          (mT N va b m) (IntKind.i64.wrap (vi - 1))
    else
      some (.brk ())
def pP (N : Nat) (va : List Int) (b : List Int) : Option Int :=
  (mT N va b N 3).bind fun q => match q with
    | .ret v => some v
    | .brk p2 =>
      zF N
def uZ (N : Nat) (iL : Int) (l1 : List Int) : Option ((List Int) × Bool) :=
  (aR 4 l1).bind fun q =>
  some (l1, iL == 1)
def mI (N : Nat) (va : List Int) (b : List Int) : Nat → Int → Int → (List Int) → Option (Int × (List Int))
  | 0, _, _, _ => none
  | m + 1, carry_1, x9, l3 =>
    if decide (x9 < 4) then
      (aW 4 va x9).bind fun x15 =>
      (aW 4 b x9).bind fun x18 =>
      (cV N x15 x18 carry_1).bind fun dE =>
      (aW 4 l3 x9).bind fun jD =>
      (mI N va b m) dE.2 (IntKind.i64.wrap (x9 + 1)) (l3.set (Int.toNat x9) dE.1)
    else
      some (carry_1, l3)
def r8 (N : Nat) (va : List Int) (b : List Int) : Option ((List Int) × Bool) :=
  (mI N va b N 0 0 (List.replicate 4 0)).bind fun p2 =>
  uZ N p2.1 p2.2
def u5 (N : Nat) (l0 : List Int) (l1 : List Int) : Option ((List Int) × (List Int) × Bool) :=
  (aR 4 l0).bind fun q_2 =>
  (aR 4 l1).bind fun q_3 =>
  some (l0, l1, true)
def pJ (N : Nat) (lo : List Int) (b : List Int) (vi : Int) (rec : Int → (List Int) → (List Int) → Option ((List Int) × (List Int))) (cX : List Int) (jF : List Int) : Option ((List Int) × (List Int)) :=
  rec (IntKind.i64.wrap (vi - 1)) cX jF
def mX (N : Nat) (lo : List Int) (b : List Int) (vi : Int) (l2 : List Int) (f7 : List Int) (rec : Int → (List Int) → (List Int) → Option ((List Int) × (List Int))) (x43 : Bool) : Option ((List Int) × (List Int)) :=
  if x43 then
    (aR 4 f7).bind fun q_6 =>
    (pQ N f7 b).bind fun x47 =>
    (aR 4 x47.1).bind fun q_7 =>
    (aW 4 l2 (IntKind.i64.wrap (Int.tdiv vi 64))).bind fun x52 =>
    (shl .u64 1 (Int.tmod vi 64)).bind fun x56 =>
    pJ N lo b vi rec (l2.set (Int.toNat (IntKind.i64.wrap (Int.tdiv vi 64))) (bits .or .u64 x52 x56)) x47.1
  else
    pJ N lo b vi rec l2 f7
def pD (N : Nat) (lo : List Int) (b : List Int) (vi : Int) (l2 : List Int) (e9 : Bool) (rec : Int → (List Int) → (List Int) → Option ((List Int) × (List Int))) (f7 : List Int) : Option ((List Int) × (List Int)) :=
  if e9 then
    mX N lo b vi l2 f7 rec true
  else
    (aR 4 f7).bind fun q_8 =>
    (pP N f7 b).bind fun x41 =>
    mX N lo b vi l2 f7 rec (decide (0 ≤ x41))
def dR (N : Nat) (lo : List Int) (b : List Int) : Nat → Int → (List Int) → (List Int) → Option ((List Int) × (List Int))
  | 0, _, _, _ => none
  | m + 1, vi, l2, l3 =>
    if decide (0 ≤ vi) then
      (aR 4 l3).bind fun q_4 =>
      (kW N l3 255).bind fun e9 =>
      (r8 N l3 l3).bind fun x27 =>
      (aR 4 x27.1).bind fun q_5 =>
      (aR 4 lo).bind fun q_9 =>
      (kW N lo vi).bind fun nA =>
      if nA then
        (aW 4 x27.1 0).bind fun oG =>
        pD N lo b vi l2 e9 (dR N lo b m) (x27.1.set (Int.toNat 0) (bits .or .u64 oG 1))
      else
        pD N lo b vi l2 e9 (dR N lo b m) x27.1
    else
      some (l2, l3)
def uM (N : Nat) (hi : List Int) (lo : List Int) (b : List Int) : Option ((List Int) × (List Int) × Bool) :=
  (aR 4 b).bind fun q =>
  (aR 4 hi).bind fun q_1 =>
  (pP N b hi).bind fun d7 =>
  if decide (d7 ≤ 0) then
    some (List.replicate 4 0, List.replicate 4 0, false)
  else
    (dR N lo b N 255 (List.replicate 4 0) hi).bind fun p2 =>
    u5 N p2.1 p2.2
def jK (N : Nat) (va : List Int) (vm : List Int) : Option (List Int) :=
  (aR 4 va).bind fun q =>
  (aR 4 vm).bind fun q_1 =>
  (uM N [0, 0, 0, 0] va vm).bind fun cL =>
  (aR 4 cL.1).bind fun q_2 =>
  (aR 4 cL.2.1).bind fun q_3 =>
  some cL.2.1
def lE (N : Nat) (l1 : List Int) : Option (List Int) :=
  (aR 4 l1).bind fun q_6 =>
  some l1
def jU (N : Nat) (vm : List Int) (dE : (List Int) × Bool) (mL : Bool) : Option (List Int) :=
  if mL then
    (pQ N dE.1 vm).bind fun fY =>
    (aR 4 fY.1).bind fun q_7 =>
    lE N fY.1
  else
    lE N dE.1
def rO (N : Nat) (va : List Int) (b : List Int) (vm : List Int) : Option (List Int) :=
  (aR 4 vm).bind fun q =>
  (lR N vm).bind fun bS =>
  if bS then
    some vm
  else
    (aR 4 va).bind fun q_1 =>
    (jK N va vm).bind fun aZ =>
    (aR 4 b).bind fun q_2 =>
    (jK N b vm).bind fun x17 =>
    (aR 4 aZ).bind fun q_3 =>
    (aR 4 x17).bind fun q_4 =>
    (r8 N aZ x17).bind fun dE =>
    (aR 4 dE.1).bind fun q_5 =>
    if dE.2 then
      jU N vm dE true
    else
      (pP N dE.1 vm).bind fun x28 =>
      jU N vm dE (decide (0 ≤ x28))
def lK (N : Nat) (va : List Int) (b : List Int) : Option (List Int) :=
  (aR 4 va).bind fun q =>
  (aR 4 b).bind fun q_1 =>
  (oU N).bind fun x7 =>
  (rO N va b x7).bind fun x8 =>
  (aR 4 x8).bind fun q_2 =>
  some x8
def kZ (N : Nat) (vh : List Int) : Option (List Int) :=
  (aR 32 vh).bind fun q =>
  (nX N vh).bind fun x4 =>
  (lK N x4 [0, 0, 0, 0]).bind fun x6 =>
  (aR 4 x6).bind fun q_1 =>
  some x6
def q9 (N : Nat) (x2 : Bool) : Option Bool :=
  some x2
def rK (N : Nat) (x : List Int) : Option Bool :=
  (aR 4 x).bind fun q =>
  (lR N x).bind fun x4 =>
  if !x4 then
    (oU N).bind fun x8 =>
    (pP N x x8).bind fun x9 =>
    q9 N (decide (x9 < 0))
  else
    q9 N false
def uU (N : Nat) : Option Int :=
  some 0
def mS (N : Nat) (va : List Int) : Nat → Int → Option (LR (Unit) (Int))
  | 0, _ => none
  | m + 1, vi =>
    if decide (0 ≤ vi) then
      (aR 4 va).bind fun q =>
      (kW N va vi).bind fun bS =>
      if bS then
        some (.ret (IntKind.i64.wrap (vi + 1)))
      else
        (mS N va m) (IntKind.i64.wrap (vi - 1))
    else
      some (.brk ())
def aAa (N : Nat) (va : List Int) : Option Int :=
  (mS N va N 255).bind fun q => match q with
    | .ret v => some v
    | .brk p2 =>
      uU N
def sC (N : Nat) (l2 : List Int) : Option ((List Int) × (List Int)) :=
  (aR 8 l2).bind fun q =>
  (qV l2 0 4).bind fun x64 =>
  (qV l2 4 8).bind fun x67 =>
  (aR 4 (yD (List.replicate 4 0) x67)).bind fun q_1 =>
  (aR 4 (yD (List.replicate 4 0) x64)).bind fun q_2 =>
  some (yD (List.replicate 4 0) x67, yD (List.replicate 4 0) x64)
def uW (N : Nat) (va : List Int) (b : List Int) (x15 : Int) (rec : Int → (List Int) → Option (List Int)) (pB : List Int) : Option (List Int) :=
  rec (IntKind.i64.wrap (x15 + 1)) pB
def vP (N : Nat) (va : List Int) (b : List Int) (x15 : Int) (rec : Int → (List Int) → Option (List Int)) (iL : Int) (uE : List Int) : Option (List Int) :=
  (aW 8 uE (IntKind.i64.wrap (x15 + 4))).bind fun x61 =>
  uW N va b x15 rec (uE.set (Int.toNat (IntKind.i64.wrap (x15 + 4))) iL)
def mP (N : Nat) (va : List Int) (b : List Int) (x15 : Int) : Nat → Int → Int → (List Int) → Option (Int × (List Int))
  | 0, _, _, _ => none
  | m + 1, carry_1, x18, l4_3 =>
    if decide (x18 < 4) then
      (aW 4 va x15).bind fun e9 =>
      (aW 4 b x18).bind fun x26 =>
      (jX N e9 x26).bind fun x28 =>
      (aW 8 l4_3 (IntKind.i64.wrap (x15 + x18))).bind fun x35 =>
      (cV N x35 x28.2 0).bind fun x38 =>
      (cV N x38.1 carry_1 0).bind fun x44 =>
      (mP N va b x15 m) (IntKind.u64.wrap ((IntKind.u64.wrap (x28.1 + x38.2)) + x44.2)) (IntKind.i64.wrap (x18 + 1)) (l4_3.set (Int.toNat (IntKind.i64.wrap (x15 + x18))) x44.1)
    else
      some (carry_1, l4_3)
def jH (N : Nat) (va : List Int) (b : List Int) : Nat → Int → (List Int) → Option (List Int)
  | 0, _, _ => none
  | m + 1, x15, l4 =>
    if decide (x15 < 4) then
      (mP N va b x15 N 0 0 l4).bind fun p5 =>
      vP N va b x15 (jH N va b m) p5.1 p5.2
    else
      some l4
def xP (N : Nat) (va : List Int) (b : List Int) : Option ((List Int) × (List Int)) :=
  (jH N va b N 0 (List.replicate 8 0)).bind fun p2 =>
  sC N p2
def mQ (N : Nat) (va : List Int) (b : List Int) (vm : List Int) : Option (List Int) :=
  (aR 4 vm).bind fun q =>
  (lR N vm).bind fun d7 =>
  if d7 then
    some vm
  else
    (aR 4 va).bind fun q_1 =>
    (jK N va vm).bind fun x18 =>
    (aR 4 b).bind fun q_2 =>
    (jK N b vm).bind fun dE =>
    (xP N x18 dE).bind fun dW =>
    (aR 4 dW.1).bind fun q_3 =>
    (aR 4 dW.2).bind fun q_4 =>
    (uM N dW.1 dW.2 vm).bind fun x29 =>
    (aR 4 x29.1).bind fun q_5 =>
    (aR 4 x29.2.1).bind fun q_6 =>
    some x29.2.1
def vL (N : Nat) (l1 : List Int) : Option (List Int) :=
  (aR 4 l1).bind fun q_2 =>
  some l1
def lJ (N : Nat) (va : List Int) (ve : List Int) (vm : List Int) (vi : Int) (rec : Int → (List Int) → Option (List Int)) (pB : List Int) : Option (List Int) :=
  rec (IntKind.i64.wrap (vi - 1)) pB
def fT (N : Nat) (va : List Int) (ve : List Int) (vm : List Int) : Nat → Int → (List Int) → Option (List Int)
  | 0, _, _ => none
  | m + 1, vi, l4 =>
    if decide (0 ≤ vi) then
      (aR 4 l4).bind fun q_4 =>
      (mQ N l4 l4 vm).bind fun x25 =>
      (aR 4 x25).bind fun q_5 =>
      (kW N ve vi).bind fun x28 =>
      if x28 then
        (aR 4 va).bind fun q_6 =>
        (mQ N x25 va vm).bind fun nA =>
        (aR 4 nA).bind fun q_7 =>
        lJ N va ve vm vi (fT N va ve vm m) nA
      else
        lJ N va ve vm vi (fT N va ve vm m) x25
    else
      some l4
def rX (N : Nat) (va : List Int) (ve : List Int) (vm : List Int) : Option (List Int) :=
  (aR 4 vm).bind fun q =>
  (lR N vm).bind fun bS =>
  if bS then
    some vm
  else
    (gV N 1).bind fun cL =>
    (jK N cL vm).bind fun aZ =>
    (aR 4 aZ).bind fun q_1 =>
    (aR 4 ve).bind fun q_3 =>
    (aAa N ve).bind fun x16 =>
    (fT N va ve vm N (IntKind.i64.wrap (x16 - 1)) aZ).bind fun p2 =>
    vL N p2
def xJ (N : Nat) (va : List Int) (ve : List Int) : Option (List Int) :=
  (aR 4 va).bind fun q =>
  (aR 4 ve).bind fun q_1 =>
  (nJ N).bind fun x7 =>
  (rX N va ve x7).bind fun x8 =>
  (aR 4 x8).bind fun q_2 =>
  some x8
def qO (N : Nat) (ve : List Int) : Option (List Int) :=
  (gV N 4).bind fun x3 =>
  (aR 4 ve).bind fun q =>
  (xJ N x3 ve).bind fun x5 =>
  (aR 4 x5).bind fun q_1 =>
  some x5
def o9 (N : Nat) (x : List Int) : Option ((List Int) × Int) :=
  (aR 4 x).bind fun q =>
  (rK N x).bind fun x5 =>
  if !x5 then
    some ([0, 0, 0, 0], 60)
  else
    (qO N x).bind fun x9 =>
    (aR 4 x9).bind fun q_1 =>
    some (x9, 0)
def vY (N : Nat) (l1 : List Int) : Option (List Int) :=
  (aR 32 l1).bind fun q =>
  some l1
def i9 (N : Nat) (va : List Int) : Nat → Int → (List Int) → Option (List Int)
  | 0, _, _ => none
  | m + 1, x6, l2 =>
    if decide (x6 < 32) then
      (aW 4 va (IntKind.i64.wrap (Int.tdiv (IntKind.i64.wrap (31 - x6)) 8))).bind fun aZ =>
      (shr .u64 aZ (IntKind.i64.wrap (8 * (Int.tmod (IntKind.i64.wrap (31 - x6)) 8)))).bind fun x19 =>
      (aW 32 l2 x6).bind fun dE =>
      (i9 N va m) (IntKind.i64.wrap (x6 + 1)) (l2.set (Int.toNat x6) (IntKind.u8.wrap x19))
    else
      some l2
def tC (N : Nat) (va : List Int) : Option (List Int) :=
  (i9 N va N 0 (List.replicate 32 0)).bind fun p2 =>
  vY N p2
def jN (N : Nat) (va : List Int) : Option (List Int) :=
  (aR 4 va).bind fun q =>
  (tC N va).bind fun x5 =>
  (aR 32 x5).bind fun q_1 =>
  some x5
def u2 (N : Nat) (va : List Int) (b : List Int) : Option (List Int) :=
  (mks 1 0 (IntKind.i64.wrap ((va.length : Int) + (b.length : Int)))).bind fun bW =>
  (app 1 (bW.take 0) va).bind fun aZ =>
  (app 1 aZ b).bind fun x16 =>
  some x16
def xV (N : Nat) (l0 : List Int) : Option (List Int) :=
  some l0
def j9 (N : Nat) (l : List (List Int)) : Nat → Int → (List Int) → Option (List Int)
  | 0, _, _ => none
  | m + 1, x8, aS =>
    if decide (x8 < (l.length : Int)) then
      (cU l x8).bind fun bS =>
      (u2 N aS bS).bind fun aZ =>
      (j9 N l m) (IntKind.i64.wrap (x8 + 1)) aZ
    else
      some aS
def lQ (N : Nat) (l : List (List Int)) : Option (List Int) :=
  (j9 N l N 0 []).bind fun p2 =>
  xV N p2
def zV (N : Nat) (aS : List Int) : Option (List Int) :=
  some aS
def k5 (N : Nat) (vn : Int) : Nat → Int → (List Int) → Option (List Int)
  | 0, _, _ => none
  | m + 1, vi, mJ =>
    if decide (0 ≤ vi) then
      (shr .u64 (IntKind.u64.wrap (8 * vn)) (IntKind.i64.wrap (8 * vi))).bind fun x26 =>
      (app 1 mJ [IntKind.u8.wrap x26]).bind fun x29 =>
      (k5 N vn m) (IntKind.i64.wrap (vi - 1)) x29
    else
      some mJ
def vQ (N : Nat) (vn : Int) (l0 : List Int) : Option (List Int) :=
  (k5 N vn N 7 l0).bind fun p3 =>
  zV N p3
def mY (N : Nat) (vn : Int) : Nat → (List Int) → Option (List Int)
  | 0, _ => none
  | m + 1, kU =>
    if (Int.tmod (IntKind.u64.wrap ((IntKind.u64.wrap (vn + (IntKind.u64.wrap (kU.length : Int)))) + 8)) 64) != 0 then
      (app 1 kU [0]).bind fun x16 =>
      (mY N vn m) x16
    else
      some kU
def xI (N : Nat) (vn : Int) : Option (List Int) :=
  (mY N vn N [128]).bind fun p4 =>
  vQ N vn p4
def t8 (N : Nat) : Option (List Int) :=
  some [1779033703, 3144134277, 1013904242, 2773480762, 1359893119, 2600822924, 528734635, 1541459225]
def gT (N : Nat) (x : Int) (vn : Int) : Option Int :=
  (iC N x (IntKind.i64.wrap (0 - vn))).bind fun x8 =>
  some x8
def oX (N : Nat) (c5 : List Int) : Option (List Int) :=
  (aR 64 c5).bind fun q =>
  some c5
def g7 (N : Nat) : Nat → Int → (List Int) → Option (List Int)
  | 0, _, _ => none
  | m + 1, vi, cO =>
    if decide (vi < 64) then
      (aW 64 cO (IntKind.i64.wrap (vi - 15))).bind fun x49 =>
      (gT N x49 7).bind fun x51 =>
      (gT N x49 18).bind fun x56 =>
      (shr .u32 x49 3).bind fun x62 =>
      (aW 64 cO (IntKind.i64.wrap (vi - 2))).bind fun x66 =>
      (gT N x66 17).bind fun x68 =>
      (gT N x66 19).bind fun x73 =>
      (shr .u32 x66 10).bind fun x79 =>
      (aW 64 cO (IntKind.i64.wrap (vi - 16))).bind fun x84 =>
      (aW 64 cO (IntKind.i64.wrap (vi - 7))).bind fun x90 =>
      (aW 64 cO vi).bind fun x95 =>
      (g7 N m) (IntKind.i64.wrap (vi + 1)) (cO.set (Int.toNat vi) (IntKind.u32.wrap ((IntKind.u32.wrap ((IntKind.u32.wrap (x84 + (bits .xor .u32 (bits .xor .u32 x51 x56) x62))) + x90)) + (bits .xor .u32 (bits .xor .u32 x68 x73) x79))))
    else
      some cO
def oZ (N : Nat) (l1 : List Int) : Option (List Int) :=
  (g7 N N 16 l1).bind fun p3 =>
  oX N p3
def eF (N : Nat) (block : List Int) : Nat → Int → (List Int) → Option (List Int)
  | 0, _, _ => none
  | m + 1, vi_1, l2 =>
    if decide (vi_1 < 16) then
      (aW 64 block (IntKind.i64.wrap (4 * vi_1))).bind fun x15 =>
      (shl .u32 (IntKind.u32.wrap x15) 24).bind fun x18 =>
      (aW 64 block (IntKind.i64.wrap ((IntKind.i64.wrap (4 * vi_1)) + 1))).bind fun dW =>
      (shl .u32 (IntKind.u32.wrap dW) 16).bind fun x25 =>
      (aW 64 block (IntKind.i64.wrap ((IntKind.i64.wrap (4 * vi_1)) + 2))).bind fun mL =>
      (shl .u32 (IntKind.u32.wrap mL) 8).bind fun oG =>
      (aW 64 block (IntKind.i64.wrap ((IntKind.i64.wrap (4 * vi_1)) + 3))).bind fun x38 =>
      (aW 64 l2 vi_1).bind fun x42 =>
      (eF N block m) (IntKind.i64.wrap (vi_1 + 1)) (l2.set (Int.toNat vi_1) (bits .or .u32 (bits .or .u32 (bits .or .u32 x18 x25) oG) (IntKind.u32.wrap x38)))
    else
      some l2
def pL (N : Nat) (block : List Int) : Option (List Int) :=
  (eF N block N 0 (List.replicate 64 0)).bind fun p4 =>
  oZ N p4
def rC (N : Nat) : Option (List Int) :=
  some [1116352408, 1899447441, 3049323471, 3921009573, 961987163, 1508970993, 2453635748, 2870763221, 3624381080, 310598401, 607225278, 1426881987, 1925078388, 2162078206, 2614888103, 3248222580, 3835390401, 4022224774, 264347078, 604807628, 770255983, 1249150122, 1555081692, 1996064986, 2554220882, 2821834349, 2952996808, 3210313671, 3336571891, 3584528711, 113926993, 338241895, 666307205, 773529912, 1294757372, 1396182291, 1695183700, 1986661051, 2177026350, 2456956037, 2730485921, 2820302411, 3259730800, 3345764771, 3516065817, 3600352804, 4094571909, 275423344, 430227734, 506948616, 659060556, 883997877, 958139571, 1322822218, 1537002063, 1747873779, 1955562222, 2024104815, 2227730452, 2361852424, 2428436474, 2756734187, 3204031479, 3329325298]
def o4 (N : Nat) (bX : List Int) (va : Int) (b : Int) (c : Int) (d : Int) (ve : Int) (f : Int) (g : Int) (vh : Int) : Option (List Int) :=
  (aW 8 bX 0).bind fun aKw =>
  (aW 8 bX 1).bind fun aJT =>
  (aW 8 bX 2).bind fun aB7 =>
  (aW 8 bX 3).bind fun aKJ =>
  (aW 8 bX 4).bind fun aKg =>
  (aW 8 bX 5).bind fun gF =>
  (aW 8 bX 6).bind fun gE =>
  (aW 8 bX 7).bind fun aKZ =>
  some [IntKind.u32.wrap (aKw + va), IntKind.u32.wrap (aJT + b), IntKind.u32.wrap (aB7 + c), IntKind.u32.wrap (aKJ + d), IntKind.u32.wrap (aKg + ve), IntKind.u32.wrap (gF + f), IntKind.u32.wrap (gE + g), IntKind.u32.wrap (aKZ + vh)]
def gY (N : Nat) (bX : List Int) (x19 : (List Int)) (eX : (List Int)) : Nat → Int → Int → Int → Int → Int → Int → Int → Int → Int → Option (Int × Int × Int × Int × Int × Int × Int × Int)
  | 0, _, _, _, _, _, _, _, _, _ => none
  | m + 1, va_1, b_1, c_1, d_1, ve_1, f_1, g_1, vh_1, vi =>
    if decide (vi < 64) then
      (gT N ve_1 6).bind fun x43 =>
      (gT N ve_1 11).bind fun x45 =>
      (gT N ve_1 25).bind fun x48 =>
      (aW 64 eX vi).bind fun x61 =>
      (aW 64 x19 vi).bind fun x65 =>
      (gT N va_1 2).bind fun x69 =>
      (gT N va_1 13).bind fun x71 =>
      (gT N va_1 22).bind fun x74 =>
      (gY N bX x19 eX m) (IntKind.u32.wrap ((IntKind.u32.wrap ((IntKind.u32.wrap ((IntKind.u32.wrap ((IntKind.u32.wrap (vh_1 + (bits .xor .u32 (bits .xor .u32 x43 x45) x48))) + (bits .xor .u32 (bits .and .u32 ve_1 f_1) (bits .and .u32 (bits .xor .u32 (IntKind.max .u32) ve_1) g_1)))) + x61)) + x65)) + (IntKind.u32.wrap ((bits .xor .u32 (bits .xor .u32 x69 x71) x74) + (bits .xor .u32 (bits .xor .u32 (bits .and .u32 va_1 b_1) (bits .and .u32 va_1 c_1)) (bits .and .u32 b_1 c_1)))))) va_1 b_1 c_1 (IntKind.u32.wrap (d_1 + (IntKind.u32.wrap ((IntKind.u32.wrap ((IntKind.u32.wrap ((IntKind.u32.wrap (vh_1 + (bits .xor .u32 (bits .xor .u32 x43 x45) x48))) + (bits .xor .u32 (bits .and .u32 ve_1 f_1) (bits .and .u32 (bits .xor .u32 (IntKind.max .u32) ve_1) g_1)))) + x61)) + x65)))) ve_1 f_1 g_1 (IntKind.i64.wrap (vi + 1))
    else
      some (va_1, b_1, c_1, d_1, ve_1, f_1, g_1, vh_1)
def mB (N : Nat) (bX : List Int) (block : List Int) : Option (List Int) :=
  (aR 64 block).bind fun q =>
  (pL N block).bind fun x19 =>
  (rC N).bind fun eX =>
  (aR 64 x19).bind fun q_1 =>
  (aR 64 eX).bind fun q_2 =>
  (aW 8 bX 0).bind fun dE =>
  (aW 8 bX 1).bind fun e9 =>
  (aW 8 bX 2).bind fun x25 =>
  (aW 8 bX 3).bind fun x27 =>
  (aW 8 bX 4).bind fun x29 =>
  (aW 8 bX 5).bind fun eV =>
  (aW 8 bX 6).bind fun oG =>
  (aW 8 bX 7).bind fun x35 =>
  (gY N bX x19 eX N dE e9 x25 x27 x29 eV oG x35 0).bind fun p2 =>
  o4 N bX p2.1 p2.2.1 p2.2.2.1 p2.2.2.2.1 p2.2.2.2.2.1 p2.2.2.2.2.2.1 p2.2.2.2.2.2.2.1 p2.2.2.2.2.2.2.2
def vB (N : Nat) (c5 : List Int) : Option (List Int) :=
  (aR 32 c5).bind fun q_1 =>
  some c5
def mF (N : Nat) (l1 : List Int) : Nat → Int → (List Int) → Option (List Int)
  | 0, _, _ => none
  | m + 1, fY, cO =>
    if decide (fY < 8) then
      (aW 8 l1 fY).bind fun x37 =>
      (shr .u32 x37 24).bind fun x50 =>
      (shr .u32 x37 16).bind fun x53 =>
      (shr .u32 x37 8).bind fun x56 =>
      (aW 32 cO (IntKind.i64.wrap (4 * fY))).bind fun x60 =>
      (aW 32 (cO.set (Int.toNat (IntKind.i64.wrap (4 * fY))) (IntKind.u8.wrap x50)) (IntKind.i64.wrap ((IntKind.i64.wrap (4 * fY)) + 1))).bind fun x61 =>
      (aW 32 ((cO.set (Int.toNat (IntKind.i64.wrap (4 * fY))) (IntKind.u8.wrap x50)).set (Int.toNat (IntKind.i64.wrap ((IntKind.i64.wrap (4 * fY)) + 1))) (IntKind.u8.wrap x53)) (IntKind.i64.wrap ((IntKind.i64.wrap (4 * fY)) + 2))).bind fun x62 =>
      (aW 32 (((cO.set (Int.toNat (IntKind.i64.wrap (4 * fY))) (IntKind.u8.wrap x50)).set (Int.toNat (IntKind.i64.wrap ((IntKind.i64.wrap (4 * fY)) + 1))) (IntKind.u8.wrap x53)).set (Int.toNat (IntKind.i64.wrap ((IntKind.i64.wrap (4 * fY)) + 2))) (IntKind.u8.wrap x56)) (IntKind.i64.wrap ((IntKind.i64.wrap (4 * fY)) + 3))).bind fun x63 =>
      (mF N l1 m) (IntKind.i64.wrap (fY + 1)) ((((cO.set (Int.toNat (IntKind.i64.wrap (4 * fY))) (IntKind.u8.wrap x50)).set (Int.toNat (IntKind.i64.wrap ((IntKind.i64.wrap (4 * fY)) + 1))) (IntKind.u8.wrap x53)).set (Int.toNat (IntKind.i64.wrap ((IntKind.i64.wrap (4 * fY)) + 2))) (IntKind.u8.wrap x56)).set (Int.toNat (IntKind.i64.wrap ((IntKind.i64.wrap (4 * fY)) + 3))) (IntKind.u8.wrap x37))
    else
      some cO
def vJ (N : Nat) (l1 : List Int) : Option (List Int) :=
  (aR 8 l1).bind fun q_2 =>
  (mF N l1 N 0 (List.replicate 32 0)).bind fun p3 =>
  vB N p3
def mU (N : Nat) (x16 : List Int) : Nat → Int → (List Int) → Option (List Int)
  | 0, _, _ => none
  | m + 1, vi, l1_3 =>
    if decide ((IntKind.i64.wrap (vi + 64)) ≤ (x16.length : Int)) then
      (sub x16 vi (x16.length : Int)).bind fun x28 =>
      (aR 8 l1_3).bind fun q_3 =>
      (aR 64 (yD (List.replicate 64 0) x28)).bind fun q_4 =>
      (mB N l1_3 (yD (List.replicate 64 0) x28)).bind fun nA =>
      (aR 8 nA).bind fun q_5 =>
      (mU N x16 m) (IntKind.i64.wrap (vi + 64)) nA
    else
      some l1_3
def uQ (N : Nat) (b : List Int) : Option (List Int) :=
  (app 1 [] b).bind fun bW =>
  (xI N (IntKind.u64.wrap (b.length : Int))).bind fun x15 =>
  (app 1 bW x15).bind fun x16 =>
  (t8 N).bind fun x17 =>
  (aR 8 x17).bind fun q =>
  (mU N x16 N 0 x17).bind fun p4 =>
  vJ N p4
def o7 (N : Nat) (tag : ByteArray) (b : List Int) : Option (List Int) :=
  (stb tag).bind fun x7 =>
  (uQ N x7).bind fun x8 =>
  (aR 32 x8).bind fun q =>
  (app 1 [] x8).bind fun bS =>
  (app 1 bS x8).bind fun cL =>
  (app 1 cL b).bind fun aZ =>
  (uQ N aZ).bind fun x15 =>
  (aR 32 x15).bind fun q_1 =>
  some x15
def tO (N : Nat) (x : List Int) (vm : List Int) : Option (List Int) :=
  (aR 32 vm).bind fun q =>
  (aR 4 x).bind fun q_1 =>
  (jN N x).bind fun x7 =>
  (lQ N [x7, vm]).bind fun bS =>
  (o7 N (⟨#[108, 105, 103, 104, 116, 99, 108, 105, 101, 110, 116, 47, 110, 111, 110, 99, 101]⟩) bS).bind fun bW =>
  (kZ N bW).bind fun cL =>
  (aR 4 cL).bind fun q_2 =>
  (lR N cL).bind fun aZ =>
  if aZ then
    (gV N 1).bind fun x15 =>
    (aR 4 x15).bind fun q_3 =>
    some x15
  else
    some cL
def n8 (N : Nat) (vr : List Int) (p : List Int) (vm : List Int) : Option (List Int) :=
  (aR 4 vr).bind fun q =>
  (jN N vr).bind fun x8 =>
  (aR 4 p).bind fun q_1 =>
  (jN N p).bind fun bS =>
  (aR 32 vm).bind fun q_2 =>
  (lQ N [x8, bS, vm]).bind fun d7 =>
  (o7 N (⟨#[108, 105, 103, 104, 116, 99, 108, 105, 101, 110, 116, 47, 99, 104, 97, 108, 108, 101, 110, 103, 101]⟩) d7).bind fun aZ =>
  (kZ N aZ).bind fun x15 =>
  (aR 4 x15).bind fun q_3 =>
  some x15
def oA (N : Nat) (va : List Int) (b : List Int) : Option (List Int) :=
  (aR 4 va).bind fun q =>
  (aR 4 b).bind fun q_1 =>
  (oU N).bind fun x7 =>
  (mQ N va b x7).bind fun x8 =>
  (aR 4 x8).bind fun q_2 =>
  some x8
def vC (N : Nat) (x : List Int) (vm : List Int) : Option ((List Int) × (List Int) × Int) :=
  (aR 4 x).bind fun q =>
  (o9 N x).bind fun cL =>
  (aR 4 cL.1).bind fun q_1 =>
  if cL.2 != 0 then
    some (List.replicate 4 0, List.replicate 4 0, cL.2)
  else
    (aR 32 vm).bind fun q_2 =>
    (tO N x vm).bind fun dE =>
    (aR 4 dE).bind fun q_3 =>
    (qO N dE).bind fun e9 =>
    (n8 N e9 cL.1 vm).bind fun x26 =>
    (aR 4 x26).bind fun q_4 =>
    (oA N x26 x).bind fun eV =>
    (lK N dE eV).bind fun nA =>
    (aR 4 nA).bind fun q_5 =>
    some (x26, nA, 0)
def r9 (N : Nat) (s_E : List Int) (s_S : List Int) : Option (List Int) :=
  (aR 4 s_E).bind fun q =>
  (jN N s_E).bind fun x5 =>
  (aR 4 s_S).bind fun q_1 =>
  (jN N s_S).bind fun x8 =>
  (lQ N [x5, x8]).bind fun bS =>
  some bS
def k7 (N : Nat) (x37 : Bool) : Option Int :=
  if x37 then
    some 5
  else
    some 0
def jS (N : Nat) (aJ : Int) (aU : List Int) (bU : Int) (bN : Int) (x18 : Bool) : Option Int :=
  if x18 then
    some 6
  else
    if decide (255 < (aU.length : Int)) then
      some 4
    else
      if aJ == 11 then
        (l8 N bU bN).bind fun x46 =>
        k7 N (!x46)
      else
        k7 N false
def lD (N : Nat) (aJ : Int) (aU : List Int) (bU : Int) (bN : Int) (x8 : Bool) : Option Int :=
  if x8 then
    some 6
  else
    if aJ != 11 then
      if bU != 0 then
        jS N aJ aU bU bN true
      else
        jS N aJ aU bU bN (bN != 0)
    else
      jS N aJ aU bU bN false
def k6 (N : Nat) (aJ : Int) (aU : List Int) (bU : Int) (bN : Int) : Option Int :=
  (kT N aJ).bind fun x6 =>
  if !x6 then
    some 80
  else
    if aJ != 1 then
      lD N aJ aU bU bN (decide (0 < (aU.length : Int)))
    else
      lD N aJ aU bU bN false
def l6 (N : Nat) (data : List Int) : Option (List Int) :=
  (iO N [[1, IntKind.u8.wrap (data.length : Int)], data]).bind fun x9 =>
  some x9
def nC (N : Nat) (aJ : Int) (aU : List Int) (bU : Int) (bN : Int) : Option (List Int) :=
  if aJ == 1 then
    (l6 N aU).bind fun x9 =>
    some x9
  else
    if aJ == 11 then
      some [11, IntKind.u8.wrap bU, IntKind.u8.wrap bN]
    else
      some [IntKind.u8.wrap aJ]
def n6 (N : Nat) (l0 : List Int) : Option ((List Int) × Int) :=
  if decide (520 < (l0.length : Int)) then
    some ([], 4)
  else
    some (l0, 0)
def f9 (N : Nat) (l : List aM) : Nat → Int → (List Int) → Option (LR ((List Int)) ((List Int) × Int))
  | 0, _, _ => none
  | m + 1, bS, aS =>
    if decide (bS < (l.length : Int)) then
      (cU l bS).bind fun cL =>
      (k6 N cL.Code cL.Data cL.M cL.N).bind fun x15 =>
      if x15 != 0 then
        some (.ret ([], x15))
      else
        (nC N cL.Code cL.Data cL.M cL.N).bind fun dE =>
        (app 1 aS dE).bind fun dW =>
        (f9 N l m) (IntKind.i64.wrap (bS + 1)) dW
    else
      some (.brk aS)
def q5 (N : Nat) (l : List aM) : Option ((List Int) × Int) :=
  (f9 N l N 0 []).bind fun q => match q with
    | .ret v => some v
    | .brk p2 =>
      n6 N p2
def rD (N : Nat) (vm : Int) (keys : List (List Int)) (l0 : List aM) : Option ((List Int) × Int) :=
  (app 48 l0 [(aM.mk 11 [] vm (keys.length : Int))]).bind fun mL =>
  (q5 N mL).bind fun eV =>
  some (eV.1, eV.2)
def jM (N : Nat) (vm : Int) (keys : List (List Int)) : Nat → Int → (List aM) → Option (List aM)
  | 0, _, _ => none
  | m + 1, cL, aS =>
    if decide (cL < (keys.length : Int)) then
      (cU keys cL).bind fun aZ =>
      (aR 4 aZ).bind fun q =>
      (lS N aZ).bind fun x17 =>
      (aR 32 x17).bind fun q_1 =>
      (app 48 aS [(aM.mk 1 x17 0 0)]).bind fun dW =>
      (jM N vm keys m) (IntKind.i64.wrap (cL + 1)) dW
    else
      some aS
def sB (N : Nat) (vm : Int) (keys : List (List Int)) : Option ((List Int) × Int) :=
  (jM N vm keys N 0 []).bind fun p2 =>
  rD N vm keys p2
def iS (N : Nat) (b : List Int) (aCt : List (List Int)) (dL : List Int) (eD : Int) (kN : Int) : Option Int :=
  (sS N b aCt dL eD kN).bind fun aZ =>
  if aZ.2.2 != 0 then
    some aZ.2.2
  else
    if (aZ.1.length : Int) != 1 then
      some 81
    else
      (cU aZ.1 0).bind fun x28 =>
      (kV N x28).bind fun mL =>
      if !mL then
        some 84
      else
        some 0
def r7 (N : Nat) (age : Int) (rest : List Int) : Option (List Int) :=
  (dA N age).bind fun x6 =>
  (l6 N x6).bind fun x7 =>
  (iO N [x7, [13, 3], rest]).bind fun bW =>
  some bW
def rM (N : Nat) (aDA : Int) (rest : List Int) : Option (List Int) :=
  (dA N aDA).bind fun x6 =>
  (l6 N x6).bind fun x7 =>
  (iO N [x7, [12, 3], rest]).bind fun bW =>
  some bW
def qK (N : Nat) (p : List Int) : Option (List Int) :=
  (aR 4 p).bind fun q =>
  (lS N p).bind fun x5 =>
  (aR 32 x5).bind fun q_1 =>
  (l6 N x5).bind fun x7 =>
  (iO N [x7, [10]]).bind fun bS =>
  some bS
def qG (N : Nat) (va : List Int) (b : List Int) : Option (List Int) :=
  (iO N [[14], va, [15], b, [16]]).bind fun bW =>
  some bW
def jA (N : Nat) (x8 : Bool) : Option Bool :=
  some x8
def i8 (N : Nat) (msg : List Int) (lock : Int) (l1 : List (List Int)) (l2 : List (List Int)) (vn : Int) (x99 : (List Int) × Int) (y9 : Bool) : Option Bool :=
  if y9 then
    some false
  else
    (r7 N (IntKind.u32.wrap lock) x99.1).bind fun eU =>
    (rM N (IntKind.u32.wrap lock) eU).bind fun gF =>
    (cU l1 0).bind fun aB5 =>
    (aR 4 aB5).bind fun q_2 =>
    (qK N aB5).bind fun gE =>
    (qG N gE gF).bind fun cA =>
    if vn == 0 then
      jA N true
    else
      (app 24 [] l2).bind fun gJ =>
      (app 24 gJ [[]]).bind fun cG =>
      (iS N cA cG msg (IntKind.i64.wrap lock) (IntKind.i64.wrap lock)).bind fun wO =>
      if wO == 0 then
        (iS N cA cG msg (IntKind.i64.wrap ((IntKind.i64.wrap lock) - 1)) (IntKind.i64.wrap lock)).bind fun aBH =>
        jA N (aBH == 85)
      else
        jA N false
def lI (N : Nat) (msg : List Int) (lock : Int) (l1 : List (List Int)) (l2 : List (List Int)) (vn : Int) : Option Bool :=
  (aR 32 msg).bind fun q =>
  (aFT 4 l1).bind fun q_1 =>
  (sB N (if vn > 1 then vn else 1) l1).bind fun x99 =>
  if x99.2 != 0 then
    i8 N msg lock l1 l2 vn x99 true
  else
    (iS N x99.1 l2 msg (IntKind.i64.wrap lock) (IntKind.i64.wrap lock)).bind fun aB7 =>
    i8 N msg lock l1 l2 vn x99 ((aB7 == 0) != (decide (0 < vn)))
def i7 (N : Nat) (msg : List Int) (lock : Int) (l1 : List (List Int)) (l2 : List (List Int)) (x79 : Int) (rec : Int → Int → Option Int) (xZ : Int) : Option Int :=
  rec xZ (IntKind.i64.wrap (x79 + 1))
def cR (N : Nat) (msg : List Int) (lock : Int) (l1 : List (List Int)) (l2 : List (List Int)) : Nat → Int → Int → Option Int
  | 0, _, _ => none
  | m + 1, fW, x79 =>
    if decide (x79 < (l2.length : Int)) then
      (cU l2 x79).bind fun x81 =>
      if decide (0 < (x81.length : Int)) then
        i7 N msg lock l1 l2 x79 (cR N msg lock l1 l2 m) (IntKind.i64.wrap (fW + 1))
      else
        i7 N msg lock l1 l2 x79 (cR N msg lock l1 l2 m) fW
    else
      some fW
def lC (N : Nat) (msg : List Int) (lock : Int) (l1 : List (List Int)) (l2 : List (List Int)) : Option Bool :=
  if (l1.length : Int) == 0 then
    some true
  else
    (cR N msg lock l1 l2 N 0 0).bind fun p5 =>
    lI N msg lock l1 l2 p5
def fZ (N : Nat) (dS : List Int) (vm : Int) (msg : List Int) (lock : Int) (vi : Int) (rec : Int → (List (List Int)) → (List (List Int)) → Option ((List (List Int)) × (List (List Int)))) (cO : List (List Int)) (eE : List (List Int)) : Option ((List (List Int)) × (List (List Int))) :=
  rec (IntKind.i64.wrap (vi + 1)) cO eE
def iZ (N : Nat) (dS : List Int) (vm : Int) (msg : List Int) (lock : Int) (vi : Int) (c5 : List (List Int)) (cX : List (List Int)) (rec : Int → (List (List Int)) → (List (List Int)) → Option ((List (List Int)) × (List (List Int)))) (x35 : Bool) : Option ((List (List Int)) × (List (List Int))) :=
  if x35 then
    (cU dS vi).bind fun x40 =>
    (kZ N [0, 0, 0, 1, 0, 0, 0, 0, 0, 0, 0, 0, 0, 0, 0, 0, 0, 0, 0, 0, 0, 0, 0, 0, 0, 0, 0, 0, 0, 0, 0, IntKind.u8.wrap (x40 + 1)]).bind fun x44 =>
    (aR 4 x44).bind fun q_3 =>
    (o9 N x44).bind fun x47 =>
    (aR 4 x47.1).bind fun q_4 =>
    (aR 32 msg).bind fun q_5 =>
    (vC N x44 msg).bind fun x53 =>
    (app 32 c5 [x47.1]).bind fun x59 =>
    (shr .u8 vm vi).bind fun x62 =>
    if (bits .and .i64 (IntKind.i64.wrap x62) 1) == 1 then
      (r9 N x53.1 x53.2.1).bind fun x68 =>
      (app 24 cX [x68]).bind fun x70 =>
      fZ N dS vm msg lock vi rec x59 x70
    else
      (app 24 cX [[]]).bind fun x73 =>
      fZ N dS vm msg lock vi rec x59 x73
  else
    some (c5, cX)
def cH (N : Nat) (dS : List Int) (vm : Int) (msg : List Int) (lock : Int) : Nat → Int → (List (List Int)) → (List (List Int)) → Option ((List (List Int)) × (List (List Int)))
  | 0, _, _, _ => none
  | m + 1, vi, c5, cX =>
    if decide (vi < (dS.length : Int)) then
      iZ N dS vm msg lock vi c5 cX (cH N dS vm msg lock m) (decide (vi < 3))
    else
      iZ N dS vm msg lock vi c5 cX (cH N dS vm msg lock m) false
def i4 (N : Nat) (dS : List Int) (vm : Int) (msg : List Int) (lock : Int) : Option Bool :=
  (vK N).bind fun x26 =>
  if !x26 then
    some false
  else
    (cH N dS vm msg lock N 0 [] []).bind fun p7 =>
    lC N msg lock p7.1 p7.2
end Go.Proofs.YtnoklhehodlkaaaGreatDoor
set_option linter.unusedSimpArgs false
set_option linter.unusedVariables false
namespace Go.Vm
open Go Go.ChangeShapes Go.WideShapes Go.ChangeAt Go.RowKit
section
variable {P : Program} {t e : TypeId}
theorem aDM {α : Type} {w : World} {E : α → V} : ∀ (l : List α) (vs : List Value), l.length = vs.length → (∀ (i : Nat) (x : α) (v : Value), l[i]? = some x → vs[i]? = some v → VR yF [] w (E x) v) → VCells yF [] w (l.map E) vs
  | [], [], _, _ => sY
  | [], _ :: _, h, _ => by cases h
  | _ :: _, [], h, _ => by cases h
  | x :: l, v :: vs, h, k => kQ (k 0 x v rfl rfl) (aDM l vs (by simpa using h) fun i x' v' h1 h2 => k (i + 1) x' v' (by simpa using h1) (by simpa using h2))
theorem aHa {n : Nat} {k : IntKind} (ht : P.underlying t = some (.array n e)) (he : P.underlying e = some (.int k)) (h1 : P.cellsOf e = 1) (hn : P.cellsOf t = n) :
    aD0 P t (fun x : {l : List Int // l.length = n} => ∀ y ∈ x.1, (Lit.int k y).wf = true) (fun x => x.1.map (eI k)) := by
  intro H enc w spare held fuel cs x h
  obtain ⟨xs, m, _, _, hl, hxs, hf⟩ := DataW.trod_array ht h
  rw [hn] at hl
  have each : ∀ i, i < n → ∃ a : Int, (Lit.int k a).wf = true ∧ ∀ v, cs[i]? = some v → VR yF [] w (eI k a) v := by
    intro i hi
    have h2 := hf i hi
    rw [h1, Nat.mul_one, List.getElem?_eq_getElem (by omega)] at h2
    obtain ⟨a, hw, hc⟩ := aBM he h2
    refine ⟨a, hw, fun v hv => ?_⟩
    have e2 : (cs.drop i).take 1 = [v] := by
      obtain ⟨hic, rfl⟩ := List.getElem?_eq_some_iff.1 hv
      rw [List.drop_eq_getElem_cons hic]; rfl
    rw [e2] at hc
    exact aAf hc
  obtain ⟨l, hll, hr⟩ := aAp n each
  refine ⟨⟨l, hll⟩, fun y hy => ?_, aDM l cs (by omega) fun i x v h1 h2 => (hr i x h1).2 v h2⟩
  obtain ⟨i, hi, rfl⟩ := List.mem_iff_getElem.1 hy
  exact (hr i _ (List.getElem?_eq_getElem hi)).1
theorem aGu {w : World} {r : Reach} {base : Nat} {v : Value} {n : Nat} (ht : P.underlying t = some (.array n e)) (h : Value.okWide P w r base t v) : ∃ cs, v = .agg cs := by
  simp only [Value.okWide, ht] at h
  obtain ⟨cs, h1, _⟩ := h
  exact ⟨cs, h1⟩
theorem aHb {n : Nat} {k : IntKind} (ht : P.underlying t = some (.array n e)) (he : P.underlying e = some (.int k)) (h1 : P.cellsOf e = 1) (hn : P.cellsOf t = n) :
    aFO P t (fun x : {l : List Int // l.length = n} => ∀ y ∈ x.1, (Lit.int k y).wf = true) (fun x => eA (eI k) x.1) := by
  intro H enc w base v d p hv ⟨fuel, h⟩
  obtain ⟨cs, rfl⟩ := aGu ht hv
  obtain ⟨a, hq, hc⟩ := aHa ht he h1 hn h
  exact ⟨a, hq, by have := aNI hc; simpa [Value.cells] using this⟩
theorem aJp {n : Nat} {k : IntKind} (ht : P.underlying t = some (.array n e)) (he : P.underlying e = some (.int k)) (h1 : P.cellsOf e = 1) (hn : P.cellsOf t = n) :
    aFO P t (fun x : List Int => x.length = n ∧ ∀ y ∈ x, (Lit.int k y).wf = true) (fun x => eA (eI k) x) := by
  intro H enc w base v d p hv hh
  obtain ⟨a, hq, hc⟩ := aHb ht he h1 hn hv hh
  exact ⟨a.1, ⟨a.2, hq⟩, hc⟩
end
end Go.Vm
set_option linter.unusedSimpArgs false
set_option linter.unusedVariables false
namespace Go.Proofs.YtnoklhehodlkaaaGreatDoor
open Go Go.Vm
open Go.ChangeShapes Go.WideShapes Go.ChangeAt Go.RowKit
structure aCS where
  Version : Int
  Inputs : List tN
  Outputs : List pG
  Lock : Int
abbrev aAQ (x : aCS) : List V := [(eI .u32 x.Version), (.row none 35 (x.Inputs.map aHq)), (.row none 2 (x.Outputs.map aGU)), (eI .u32 x.Lock)]
@[simp] theorem aNj {f : Nat → Nat} (l : List aCS) : V.rns f (l.flatMap aAQ) = l.flatMap aAQ := fN (fun _ => rfl) l
@[simp] theorem aNA {f : Nat → Nat} (x : aCS) : V.rns f (aAQ x) = aAQ x := rfl
end Go.Proofs.YtnoklhehodlkaaaGreatDoor
set_option linter.unusedSimpArgs false
set_option linter.unusedVariables false
namespace Go.Vm
open Go
def iN (l : List Nat) : List Int := l.map fun (x : Nat) => (x : Int)
theorem aDB (l : List Nat) : (iN l).length = l.length := by simp [iN]
theorem aIY {d : List Int} (h : Byt d) : iN (d.map Int.toNat) = d ∧ ∀ x ∈ d.map Int.toNat, x < 256 := by
  constructor
  · simp only [iN, List.map_map]
    conv => rhs; rw [← List.map_id d]
    refine List.map_congr_left fun x hx => ?_
    have := h x hx
    simp only [Function.comp, id]; omega
  · intro x hx
    simp only [List.mem_map] at hx
    obtain ⟨y, hy, rfl⟩ := hx
    have := h y hy
    omega
theorem aHy {d : List Int} (h : Byt d) : ∃ l : List Nat, d = iN l ∧ ∀ x ∈ l, x < 256 := ⟨_, (aIY h).1.symm, (aIY h).2⟩
theorem i1 {j : Nat} (hj : j ≤ 100000) : IntKind.i64.wrap ((j : Int) + 1) = ((j + 1 : Nat) : Int) := by rw [cC (by omega) (by omega)]; simp
theorem dT {j n : Nat} (h : j < n) : decide ((j : Int) < (n : Int)) = true := by simpa using h
theorem dF {j n : Nat} (h : ¬ j < n) : decide ((j : Int) < (n : Int)) = false := by simp; omega
end Go.Vm
set_option linter.unusedSimpArgs false
set_option linter.unusedVariables false
namespace Go.Vm
open Go
theorem lO : 100000000 ≤ lA := by decide
theorem rL {l m : List Int} (h : l.length + m.length ≤ 100000000) : app 1 l m = some (l ++ m) := by
  have := lO
  exact uT (by omega)
theorem aEQ {α : Type} {f : Nat → Int → List Int → Option (List Int)} {xs : List α} {g : α → List Int} {B : Nat} (hn : xs.length ≤ 100000)
    (hs : ∀ m j acc (hj : j < xs.length), acc.length + (g xs[j]).length ≤ B → f (m + 1) (j : Int) acc = f m ((j + 1 : Nat) : Int) (acc ++ g xs[j])) (he : ∀ m j acc, xs.length ≤ j → f (m + 1) (j : Int) acc = some acc) :
    ∀ (m j : Nat) (acc : List Int), xs.length - j < m → j ≤ xs.length → acc.length + ((xs.drop j).flatMap g).length ≤ B → f m (j : Int) acc = some (acc ++ (xs.drop j).flatMap g)
  | 0, j, acc, hm, _, _ => by omega
  | m + 1, j, acc, hm, hj, hB => by
    by_cases h : j < xs.length
    · rw [List.drop_eq_getElem_cons h, List.flatMap_cons, List.length_append] at hB
      rw [hs m j acc h (by omega), aEQ hn hs he m (j + 1) _ (by omega) (by omega) (by rw [List.length_append]; omega), List.drop_eq_getElem_cons h, List.flatMap_cons, List.append_assoc]
    · rw [he m j acc (by omega), List.drop_eq_nil_of_le (by omega)]; simp
theorem aCZ {α R : Type} {f : Nat → Int → Option (LR Unit R)} {xs : List α} {p : α → Bool} {r : R}
    (hs : ∀ m j (hj : j < xs.length), f (m + 1) (j : Int) = if p xs[j] = true then f m ((j + 1 : Nat) : Int) else some (.ret r)) (he : ∀ m j, xs.length ≤ j → f (m + 1) (j : Int) = some (.brk ())) :
    ∀ (m j : Nat), xs.length - j < m → j ≤ xs.length → f m (j : Int) = some (if (xs.drop j).all p = true then .brk () else .ret r)
  | 0, j, hm, _ => by omega
  | m + 1, j, hm, hj => by
    by_cases h : j < xs.length
    · rw [hs m j h, aCZ hs he m (j + 1) (by omega) (by omega), List.drop_eq_getElem_cons h, List.all_cons]
      cases p xs[j] <;> simp
    · rw [he m j (by omega), List.drop_eq_nil_of_le (by omega)]; simp
end Go.Vm
set_option linter.unusedSimpArgs false
set_option linter.unusedVariables false
set_option linter.unusedSectionVars false
namespace Go.Proofs.YtnoklhehodlkaaaGreatDoor
open Go Go.Vm
def w4 (a b c d : Nat) : List Int := [(a : Int), (b : Int), (c : Int), (d : Int)]
def vl (a b c d : Nat) : Nat := a + 18446744073709551616 * b + 340282366920938463463374607431768211456 * c + 6277101735386680763835789423207666416102355444464034512896 * d
def U (n : Nat) : List Int := w4 (n % 18446744073709551616) (n / 18446744073709551616 % 18446744073709551616) (n / 340282366920938463463374607431768211456 % 18446744073709551616) (n / 6277101735386680763835789423207666416102355444464034512896 % 18446744073709551616)
theorem aNY (n : Nat) : (U n).length = 4 := rfl
theorem aCQ {a b c d : Nat} (ha : a < 18446744073709551616) (hb : b < 18446744073709551616) (hc : c < 18446744073709551616) (hd : d < 18446744073709551616) : w4 a b c d = U (vl a b c d) := by
  unfold U vl
  have h0 : (a + 18446744073709551616 * b + 340282366920938463463374607431768211456 * c + 6277101735386680763835789423207666416102355444464034512896 * d) % 18446744073709551616 = a := by omega
  have h1 : (a + 18446744073709551616 * b + 340282366920938463463374607431768211456 * c + 6277101735386680763835789423207666416102355444464034512896 * d) / 18446744073709551616 % 18446744073709551616 = b := by omega
  have h2 : (a + 18446744073709551616 * b + 340282366920938463463374607431768211456 * c + 6277101735386680763835789423207666416102355444464034512896 * d) / 340282366920938463463374607431768211456 % 18446744073709551616 = c := by omega
  have h3 : (a + 18446744073709551616 * b + 340282366920938463463374607431768211456 * c + 6277101735386680763835789423207666416102355444464034512896 * d) / 6277101735386680763835789423207666416102355444464034512896 % 18446744073709551616 = d := by omega
  rw [h0, h1, h2, h3]
theorem vT {n : Nat} (h : n < 115792089237316195423570985008687907853269984665640564039457584007913129639936) : ∃ a b c d, a < 18446744073709551616 ∧ b < 18446744073709551616 ∧ c < 18446744073709551616 ∧ d < 18446744073709551616 ∧ U n = w4 a b c d ∧ n = vl a b c d := by
  refine ⟨n % 18446744073709551616, n / 18446744073709551616 % 18446744073709551616, n / 340282366920938463463374607431768211456 % 18446744073709551616, n / 6277101735386680763835789423207666416102355444464034512896 % 18446744073709551616, by omega, by omega, by omega, by omega, rfl, ?_⟩
  unfold vl
  omega
theorem aCy {a b c d : Nat} (ha : a < 18446744073709551616) (hb : b < 18446744073709551616) (hc : c < 18446744073709551616) (hd : d < 18446744073709551616) : vl a b c d < 115792089237316195423570985008687907853269984665640564039457584007913129639936 := by unfold vl; omega
def Wd (l : List Int) : Prop := l.length = 4 ∧ ∀ x ∈ l, 0 ≤ x ∧ x < 18446744073709551616
theorem Wd.ex {l : List Int} (h : Wd l) : ∃ n, n < 115792089237316195423570985008687907853269984665640564039457584007913129639936 ∧ l = U n := by
  obtain ⟨hl, hx⟩ := h
  match l, hl, hx with
  | [a, b, c, d], _, hx =>
    have ha := hx a (by simp)
    have hb := hx b (by simp)
    have hc := hx c (by simp)
    have hd := hx d (by simp)
    refine ⟨vl a.toNat b.toNat c.toNat d.toNat, aCy (by omega) (by omega) (by omega) (by omega), ?_⟩
    rw [← aCQ (by omega) (by omega) (by omega) (by omega)]
    unfold w4
    rw [Int.toNat_of_nonneg ha.1, Int.toNat_of_nonneg hb.1, Int.toNat_of_nonneg hc.1, Int.toNat_of_nonneg hd.1]
theorem aOj {a b : Nat} (ha : a < 115792089237316195423570985008687907853269984665640564039457584007913129639936) (hb : b < 115792089237316195423570985008687907853269984665640564039457584007913129639936) (h : U a = U b) : a = b := by
  simp only [U, w4, List.cons.injEq, and_true] at h
  omega
theorem aAT {a b : Nat} (ha : a < 115792089237316195423570985008687907853269984665640564039457584007913129639936) (hb : b < 115792089237316195423570985008687907853269984665640564039457584007913129639936) : (U a == U b) = decide (a = b) := by
  by_cases h : a = b
  · subst h; simp
  · rw [decide_eq_false h]
    apply beq_eq_false_iff_ne.2
    exact fun e => h (aOj ha hb e)
theorem tZ : U 0 = [0, 0, 0, 0] := rfl
theorem a40 (a b c d : Nat) : aW 4 (w4 a b c d) 0 = some (a : Int) := rfl
theorem a41 (a b c d : Nat) : aW 4 (w4 a b c d) 1 = some (b : Int) := rfl
theorem a42 (a b c d : Nat) : aW 4 (w4 a b c d) 2 = some (c : Int) := rfl
theorem a43 (a b c d : Nat) : aW 4 (w4 a b c d) 3 = some (d : Int) := rfl
theorem aX (n : Nat) : aR 4 (U n) = some (U n) := rfl
theorem q40 (a b c d : Int) : aW 4 [a, b, c, d] 0 = some a := rfl
theorem q41 (a b c d : Int) : aW 4 [a, b, c, d] 1 = some b := rfl
theorem q42 (a b c d : Int) : aW 4 [a, b, c, d] 2 = some c := rfl
theorem q43 (a b c d : Int) : aW 4 [a, b, c, d] 3 = some d := rfl
theorem t40 (a b c d x : Int) : [a, b, c, d].set (Int.toNat 0) x = [x, b, c, d] := rfl
theorem t41 (a b c d x : Int) : [a, b, c, d].set (Int.toNat 1) x = [a, x, c, d] := rfl
theorem t42 (a b c d x : Int) : [a, b, c, d].set (Int.toNat 2) x = [a, b, x, d] := rfl
theorem t43 (a b c d x : Int) : [a, b, c, d].set (Int.toNat 3) x = [a, b, c, x] := rfl
theorem r40 : List.replicate 4 (0 : Int) = [0, 0, 0, 0] := rfl
theorem aNT (a b c d : Nat) : w4 a b c d = [(a : Int), (b : Int), (c : Int), (d : Int)] := rfl
theorem d04 : decide ((0 : Int) < 4) = true := rfl
theorem d14 : decide ((1 : Int) < 4) = true := rfl
theorem d24 : decide ((2 : Int) < 4) = true := rfl
theorem d34 : decide ((3 : Int) < 4) = true := rfl
theorem d44 : decide ((4 : Int) < 4) = false := rfl
theorem i01 : IntKind.i64.wrap (0 + 1) = 1 := by decide +kernel
theorem i12 : IntKind.i64.wrap (1 + 1) = 2 := by decide +kernel
theorem i23 : IntKind.i64.wrap (2 + 1) = 3 := by decide +kernel
theorem i34 : IntKind.i64.wrap (3 + 1) = 4 := by decide +kernel
theorem i32 : IntKind.i64.wrap (3 - 1) = 2 := by decide +kernel
theorem i21 : IntKind.i64.wrap (2 - 1) = 1 := by decide +kernel
theorem i10 : IntKind.i64.wrap (1 - 1) = 0 := by decide +kernel
theorem i0m : IntKind.i64.wrap (0 - 1) = -1 := by decide +kernel
theorem rA {α : Type} (f : Nat → α) {N : Nat} (h : 70000 ≤ N) : ∃ m, f N = f (m + 1 + 1 + 1 + 1 + 1) := ⟨N - 5, by congr 1; omega⟩
theorem oS {x y c : Nat} (hx : x < 18446744073709551616) (hy : y < 18446744073709551616) (hc : c ≤ 1) : ∃ s k : Nat, o5 (x : Int) (y : Int) (c : Int) = some ((s : Int), (k : Int)) ∧ x + y + c = s + 18446744073709551616 * k ∧ s < 18446744073709551616 ∧ k ≤ 1 := by
  refine ⟨(x + y + c) % 18446744073709551616, (x + y + c) / 18446744073709551616, ?_, by omega, by omega, by omega⟩
  unfold o5
  simp only [Int.toNat_natCast]
  rw [if_pos hc]
theorem rT {x y c : Nat} (hx : x < 18446744073709551616) (hy : y < 18446744073709551616) (hc : c ≤ 1) : ∃ s k : Nat, aAH (x : Int) (y : Int) (c : Int) = some ((s : Int), (k : Int)) ∧ x + 18446744073709551616 * k = y + c + s ∧ s < 18446744073709551616 ∧ k ≤ 1 := by
  refine ⟨(x + 18446744073709551616 - y - c) % 18446744073709551616, if x < y + c then 1 else 0, ?_, ?_, by omega, ?_⟩
  · unfold aAH
    simp only [Int.toNat_natCast]
    rw [if_pos hc]
  · split <;> omega
  · split <;> omega
theorem aNH {N : Nat} (hN : 70000 ≤ N) {a0 a1 a2 a3 b0 b1 b2 b3 : Nat} (ha0 : a0 < 18446744073709551616) (ha1 : a1 < 18446744073709551616) (ha2 : a2 < 18446744073709551616) (ha3 : a3 < 18446744073709551616) (hb0 : b0 < 18446744073709551616) (hb1 : b1 < 18446744073709551616) (hb2 : b2 < 18446744073709551616) (hb3 : b3 < 18446744073709551616) :
    ∃ s0 s1 s2 s3 k : Nat, rS N (w4 a0 a1 a2 a3) (w4 b0 b1 b2 b3) = some (w4 s0 s1 s2 s3, ((k : Int) != 0)) ∧ vl a0 a1 a2 a3 + vl b0 b1 b2 b3 = vl s0 s1 s2 s3 + 115792089237316195423570985008687907853269984665640564039457584007913129639936 * k ∧ s0 < 18446744073709551616 ∧ s1 < 18446744073709551616 ∧ s2 < 18446744073709551616 ∧ s3 < 18446744073709551616 ∧ k ≤ 1 := by
  obtain ⟨s0, k0, e0, f0, g0, l0⟩ := oS ha0 hb0 (Nat.zero_le 1)
  obtain ⟨s1, k1, e1, f1, g1, l1⟩ := oS ha1 hb1 l0
  obtain ⟨s2, k2, e2, f2, g2, l2⟩ := oS ha2 hb2 l1
  obtain ⟨s3, k3, e3, f3, g3, l3⟩ := oS ha3 hb3 l2
  refine ⟨s0, s1, s2, s3, k3, ?_, by unfold vl; omega, g0, g1, g2, g3, l3⟩
  obtain ⟨m, hm⟩ := rA (fun q => iA N (w4 a0 a1 a2 a3) (w4 b0 b1 b2 b3) q 0 0 (List.replicate 4 0)) hN
  unfold rS
  rw [hm]
  have e0' : o5 (a0 : Int) (b0 : Int) 0 = some ((s0 : Int), (k0 : Int)) := e0
  simp only [iA, cV, a40, a41, a42, a43, q40, q41, q42, q43, t40, t41, t42, t43, r40, i01, i12, i23, i34, d04, d14, d24, d34, d44, if_true, Bool.false_eq_true, if_false, Option.bind_some, e0', e1, e2, e3, tK]
  rfl
theorem aK8 {N : Nat} (hN : 70000 ≤ N) {a b : Nat} (ha : a < 115792089237316195423570985008687907853269984665640564039457584007913129639936) (hb : b < 115792089237316195423570985008687907853269984665640564039457584007913129639936) : rS N (U a) (U b) = some (U ((a + b) % 115792089237316195423570985008687907853269984665640564039457584007913129639936), decide (115792089237316195423570985008687907853269984665640564039457584007913129639936 ≤ a + b)) := by
  obtain ⟨a0, a1, a2, a3, x0, x1, x2, x3, ea, va⟩ := vT ha
  obtain ⟨b0, b1, b2, b3, y0, y1, y2, y3, eb, vb⟩ := vT hb
  obtain ⟨s0, s1, s2, s3, k, h1, h2, z0, z1, z2, z3, hk⟩ := aNH hN x0 x1 x2 x3 y0 y1 y2 y3
  have hv := aCy z0 z1 z2 z3
  rw [ea, eb, h1, aCQ z0 z1 z2 z3, show (a + b) % 115792089237316195423570985008687907853269984665640564039457584007913129639936 = vl s0 s1 s2 s3 by omega]
  congr 2
  by_cases h : 115792089237316195423570985008687907853269984665640564039457584007913129639936 ≤ a + b
  · rw [decide_eq_true h, show k = 1 by omega]; rfl
  · rw [decide_eq_false h, show k = 0 by omega]; rfl
theorem aNf {N : Nat} (hN : 70000 ≤ N) {a0 a1 a2 a3 b0 b1 b2 b3 : Nat} (ha0 : a0 < 18446744073709551616) (ha1 : a1 < 18446744073709551616) (ha2 : a2 < 18446744073709551616) (ha3 : a3 < 18446744073709551616) (hb0 : b0 < 18446744073709551616) (hb1 : b1 < 18446744073709551616) (hb2 : b2 < 18446744073709551616) (hb3 : b3 < 18446744073709551616) :
    ∃ s0 s1 s2 s3 k : Nat, oM N (w4 a0 a1 a2 a3) (w4 b0 b1 b2 b3) = some (w4 s0 s1 s2 s3, ((k : Int) != 0)) ∧ vl a0 a1 a2 a3 + 115792089237316195423570985008687907853269984665640564039457584007913129639936 * k = vl b0 b1 b2 b3 + vl s0 s1 s2 s3 ∧ s0 < 18446744073709551616 ∧ s1 < 18446744073709551616 ∧ s2 < 18446744073709551616 ∧ s3 < 18446744073709551616 ∧ k ≤ 1 := by
  obtain ⟨s0, k0, e0, f0, g0, l0⟩ := rT ha0 hb0 (Nat.zero_le 1)
  obtain ⟨s1, k1, e1, f1, g1, l1⟩ := rT ha1 hb1 l0
  obtain ⟨s2, k2, e2, f2, g2, l2⟩ := rT ha2 hb2 l1
  obtain ⟨s3, k3, e3, f3, g3, l3⟩ := rT ha3 hb3 l2
  refine ⟨s0, s1, s2, s3, k3, ?_, by unfold vl; omega, g0, g1, g2, g3, l3⟩
  obtain ⟨m, hm⟩ := rA (fun q => iB N (w4 a0 a1 a2 a3) (w4 b0 b1 b2 b3) q 0 0 (List.replicate 4 0)) hN
  unfold oM
  rw [hm]
  have e0' : aAH (a0 : Int) (b0 : Int) 0 = some ((s0 : Int), (k0 : Int)) := e0
  simp only [iB, nR, a40, a41, a42, a43, q40, q41, q42, q43, t40, t41, t42, t43, r40, i01, i12, i23, i34, d04, d14, d24, d34, d44, if_true, Bool.false_eq_true, if_false, Option.bind_some, e0', e1, e2, e3, tV]
  rfl
theorem aCn {N : Nat} (hN : 70000 ≤ N) {a b : Nat} (ha : a < 115792089237316195423570985008687907853269984665640564039457584007913129639936) (hb : b < 115792089237316195423570985008687907853269984665640564039457584007913129639936) : oM N (U a) (U b) = some (U ((a + 115792089237316195423570985008687907853269984665640564039457584007913129639936 - b) % 115792089237316195423570985008687907853269984665640564039457584007913129639936), decide (a < b)) := by
  obtain ⟨a0, a1, a2, a3, x0, x1, x2, x3, ea, va⟩ := vT ha
  obtain ⟨b0, b1, b2, b3, y0, y1, y2, y3, eb, vb⟩ := vT hb
  obtain ⟨s0, s1, s2, s3, k, h1, h2, z0, z1, z2, z3, hk⟩ := aNf hN x0 x1 x2 x3 y0 y1 y2 y3
  have hv := aCy z0 z1 z2 z3
  rw [ea, eb, h1, aCQ z0 z1 z2 z3, show (a + 115792089237316195423570985008687907853269984665640564039457584007913129639936 - b) % 115792089237316195423570985008687907853269984665640564039457584007913129639936 = vl s0 s1 s2 s3 by omega]
  congr 2
  by_cases h : a < b
  · rw [decide_eq_true h, show k = 1 by omega]; rfl
  · rw [decide_eq_false h, show k = 0 by omega]; rfl
theorem vI {N : Nat} (hN : 70000 ≤ N) {a b : Nat} (ha : a < 115792089237316195423570985008687907853269984665640564039457584007913129639936) (hb : b < 115792089237316195423570985008687907853269984665640564039457584007913129639936) : lL N (U a) (U b) = some (if a < b then -1 else if b < a then 1 else 0) := by
  obtain ⟨a0, a1, a2, a3, x0, x1, x2, x3, ea, va⟩ := vT ha
  obtain ⟨b0, b1, b2, b3, y0, y1, y2, y3, eb, vb⟩ := vT hb
  rw [ea, eb]
  obtain ⟨m, hm⟩ := rA (fun q => kO N (w4 a0 a1 a2 a3) (w4 b0 b1 b2 b3) q 3) hN
  unfold lL
  rw [hm]
  unfold vl at va vb
  simp only [kO, a40, a41, a42, a43, i32, i21, i10, i0m, show decide ((0 : Int) ≤ 3) = true from rfl, show decide ((0 : Int) ≤ 2) = true from rfl, show decide ((0 : Int) ≤ 1) = true from rfl, show decide ((0 : Int) ≤ 0) = true from rfl, show decide ((0 : Int) ≤ -1) = false from rfl, if_true, Bool.false_eq_true, if_false, Option.bind_some, xD, decide_eq_true_eq, Int.ofNat_lt]
  by_cases c3 : a3 < b3
  · rw [if_pos c3, if_pos (by omega)]; rfl
  · rw [if_neg c3]
    by_cases d3 : b3 < a3
    · rw [if_pos d3, if_neg (by omega), if_pos (by omega)]; rfl
    · rw [if_neg d3]
      by_cases c2 : a2 < b2
      · rw [if_pos c2, if_pos (by omega)]; rfl
      · rw [if_neg c2]
        by_cases d2 : b2 < a2
        · rw [if_pos d2, if_neg (by omega), if_pos (by omega)]; rfl
        · rw [if_neg d2]
          by_cases c1 : a1 < b1
          · rw [if_pos c1, if_pos (by omega)]; rfl
          · rw [if_neg c1]
            by_cases d1 : b1 < a1
            · rw [if_pos d1, if_neg (by omega), if_pos (by omega)]; rfl
            · rw [if_neg d1]
              by_cases c0 : a0 < b0
              · rw [if_pos c0, if_pos (by omega)]; rfl
              · rw [if_neg c0]
                by_cases d0 : b0 < a0
                · rw [if_pos d0, if_neg (by omega), if_pos (by omega)]; rfl
                · rw [if_neg d0, if_neg (by omega), if_neg (by omega)]; rfl
theorem aDN {x l : Nat} (hx : x < 18446744073709551616) (hl : l ≤ 1) : ∃ y s k : Nat, shl .u64 (x : Int) 1 = some (y : Int) ∧ shr .u64 (x : Int) 63 = some (k : Int) ∧ bits .or .u64 (y : Int) (l : Int) = (s : Int) ∧ 2 * x + l = s + 18446744073709551616 * k ∧ s < 18446744073709551616 ∧ k ≤ 1 := by
  have h1 : x * 2 ^ 1 % 18446744073709551616 = (x % 9223372036854775808) * 2 ^ 1 := by omega
  refine ⟨x * 2 ^ 1 % 18446744073709551616, (x % 9223372036854775808) * 2 ^ 1 + l, x / 9223372036854775808, uL rfl x 1, sH x 63 hx, ?_, by omega, by omega, by omega⟩
  rw [l5 rfl _ _ (show x * 2 ^ 1 % 18446744073709551616 < 2 ^ 64 by omega) (show l < 2 ^ 64 by omega), h1]
  congr 1
  rw [Nat.mul_comm, ← Nat.two_pow_add_eq_or_of_lt (show l < 2 ^ 1 by omega)]
theorem aLf {N : Nat} (hN : 70000 ≤ N) {a l : Nat} (ha : a < 115792089237316195423570985008687907853269984665640564039457584007913129639936) (hl : l ≤ 1) : ∃ k : Nat, oJ N (U a) (l : Int) = some (U ((2 * a + l) % 115792089237316195423570985008687907853269984665640564039457584007913129639936), (k : Int)) ∧ k = (2 * a + l) / 115792089237316195423570985008687907853269984665640564039457584007913129639936 := by
  obtain ⟨a0, a1, a2, a3, x0, x1, x2, x3, ea, va⟩ := vT ha
  obtain ⟨y0, s0, k0, e0, f0, g0, h0, j0, l0⟩ := aDN x0 hl
  obtain ⟨y1, s1, k1, e1, f1, g1, h1, j1, l1⟩ := aDN x1 l0
  obtain ⟨y2, s2, k2, e2, f2, g2, h2, j2, l2⟩ := aDN x2 l1
  obtain ⟨y3, s3, k3, e3, f3, g3, h3, j3, l3⟩ := aDN x3 l2
  unfold vl at va
  have hv := aCy j0 j1 j2 j3
  have hvv : 2 * a + l = vl s0 s1 s2 s3 + 115792089237316195423570985008687907853269984665640564039457584007913129639936 * k3 := by unfold vl; omega
  refine ⟨k3, ?_, by omega⟩
  rw [ea, show (2 * a + l) % 115792089237316195423570985008687907853269984665640564039457584007913129639936 = vl s0 s1 s2 s3 by omega, ← aCQ j0 j1 j2 j3]
  obtain ⟨m, hm⟩ := rA (fun q => kJ N q (l : Int) 0 (w4 a0 a1 a2 a3)) hN
  unfold oJ
  rw [hm]
  simp only [kJ, aNT, q40, q41, q42, q43, t40, t41, t42, t43, i01, i12, i23, i34, d04, d14, d24, d34, d44, if_true, Bool.false_eq_true, if_false, Option.bind_some, e0, f0, g0, e1, f1, g1, e2, f2, g2, e3, f3, g3, sI]
  rfl
end Go.Proofs.YtnoklhehodlkaaaGreatDoor
set_option linter.unusedSimpArgs false
set_option linter.unusedVariables false
set_option linter.unusedSectionVars false
namespace Go.Proofs.YtnoklhehodlkaaaGreatDoor
open Go Go.Vm
theorem um {a b : Nat} (h : a * b < 18446744073709551616) : IntKind.u64.wrap ((a : Int) * (b : Int)) = ((a * b : Nat) : Int) := by rw [← Int.natCast_mul, uI (by omega) (by omega)]
theorem up {a b : Nat} (h : a + b < 18446744073709551616) : IntKind.u64.wrap ((a : Int) + (b : Int)) = ((a + b : Nat) : Int) := by rw [← Int.natCast_add, uI (by omega) (by omega)]
theorem aIg {x : Nat} (h : x < 18446744073709551616) : bits .and .u64 (x : Int) 4294967295 = ((x % 4294967296 : Nat) : Int) := by
  rw [show (4294967295 : Int) = ((4294967295 : Nat) : Int) from rfl, aBV (k := .u64) rfl x _ (show x < 2 ^ 64 from h) (by decide), show 4294967295 = 2 ^ 32 - 1 from rfl, Nat.and_two_pow_sub_one_eq_mod]
theorem aBB {x : Nat} (h : x < 18446744073709551616) : shr .u64 (x : Int) 32 = some ((x / 4294967296 : Nat) : Int) := sH x 32 h
theorem aKk {N x y : Nat} (hx : x < 18446744073709551616) (hy : y < 18446744073709551616) : ∃ h l : Nat, jX N (x : Int) (y : Int) = some ((h : Int), (l : Int)) ∧ x * y = l + 18446744073709551616 * h ∧ l < 18446744073709551616 ∧ h < 18446744073709551616 := by
  have x0 : x % 4294967296 ≤ 4294967295 := by omega
  have y0 : y % 4294967296 ≤ 4294967295 := by omega
  have x1 : x / 4294967296 ≤ 4294967295 := by omega
  have y1 : y / 4294967296 ≤ 4294967295 := by omega
  have ex : x = 4294967296 * (x / 4294967296) + x % 4294967296 := by omega
  have ey : y = 4294967296 * (y / 4294967296) + y % 4294967296 := by omega
  have lo : IntKind.u64.wrap ((x : Int) * (y : Int)) = ((x * y % 18446744073709551616 : Nat) : Int) := by rw [← Int.natCast_mul, IntKind.wrap_u64]; omega
  unfold jX
  rw [aIg hx, aIg hy, aBB hx, aBB hy, lo]
  simp only [Option.bind_some]
  generalize x / 4294967296 = u1 at *
  generalize x % 4294967296 = u0 at *
  generalize y / 4294967296 = v1 at *
  generalize y % 4294967296 = v0 at *
  have p00 := Nat.mul_le_mul x0 y0
  have p10 := Nat.mul_le_mul x1 y0
  have p01 := Nat.mul_le_mul x0 y1
  have p11 := Nat.mul_le_mul x1 y1
  have hxy : x * y = 18446744073709551616 * (u1 * v1) + 4294967296 * (u1 * v0) + 4294967296 * (u0 * v1) + u0 * v0 := by
    rw [ex, ey, Nat.add_mul, Nat.mul_add, Nat.mul_add, Nat.mul_mul_mul_comm, Nat.mul_assoc 4294967296 u1 v0, Nat.mul_left_comm u0 4294967296 v1]
    omega
  rw [um (a := u0) (b := v0) (by omega), um (a := u1) (b := v0) (by omega), um (a := u0) (b := v1) (by omega), um (a := u1) (b := v1) (by omega)]
  clear ex ey lo
  generalize u0 * v0 = q00 at *
  generalize u1 * v0 = q10 at *
  generalize u0 * v1 = q01 at *
  generalize u1 * v1 = q11 at *
  rw [aBB (x := q00) (by omega)]
  simp only [Option.bind_some]
  rw [up (a := q10) (by omega), aBB (x := q10 + q00 / 4294967296) (by omega), aIg (x := q10 + q00 / 4294967296) (by omega)]
  simp only [Option.bind_some]
  rw [up (a := (q10 + q00 / 4294967296) % 4294967296) (by omega), aBB (x := (q10 + q00 / 4294967296) % 4294967296 + q01) (by omega)]
  simp only [Option.bind_some]
  rw [up (a := q11) (by omega), up (a := q11 + (q10 + q00 / 4294967296) / 4294967296) (by omega)]
  exact ⟨_, _, rfl, by omega, by omega, by omega⟩
theorem oW {N A b w c : Nat} (hA : A < 18446744073709551616) (hb : b < 18446744073709551616) (hw : w < 18446744073709551616) (hc : c < 18446744073709551616) : ∃ h l s k s' k' d : Nat, jX N (A : Int) (b : Int) = some ((h : Int), (l : Int)) ∧ o5 (l : Int) (w : Int) 0 = some ((s : Int), (k : Int)) ∧ o5 (s : Int) (c : Int) 0 = some ((s' : Int), (k' : Int)) ∧
    IntKind.u64.wrap (IntKind.u64.wrap ((h : Int) + (k : Int)) + (k' : Int)) = (d : Int) ∧ A * b + w + c = s' + 18446744073709551616 * d ∧ s' < 18446744073709551616 ∧ d < 18446744073709551616 := by
  obtain ⟨h, l, e1, f1, l1, h1⟩ := aKk (N := N) hA hb
  obtain ⟨s, k, e2, f2, l2, h2⟩ := oS l1 hw (Nat.zero_le 1)
  obtain ⟨s', k', e3, f3, l3, h3⟩ := oS l2 hc (Nat.zero_le 1)
  have hP := Nat.mul_le_mul (Nat.le_pred_of_lt hA) (Nat.le_pred_of_lt hb)
  simp only [Nat.pred_eq_sub_one, Nat.reduceSub, Nat.reduceMul] at hP
  have hd : h + k + k' < 18446744073709551616 := by omega
  refine ⟨h, l, s, k, s', k', h + k + k', e1, e2, e3, ?_, by omega, l3, hd⟩
  rw [up (by omega), up (by omega)]
theorem q80 (a b c d e f g h : Int) : aW 8 [a, b, c, d, e, f, g, h] 0 = some a := rfl
theorem q81 (a b c d e f g h : Int) : aW 8 [a, b, c, d, e, f, g, h] 1 = some b := rfl
theorem q82 (a b c d e f g h : Int) : aW 8 [a, b, c, d, e, f, g, h] 2 = some c := rfl
theorem q83 (a b c d e f g h : Int) : aW 8 [a, b, c, d, e, f, g, h] 3 = some d := rfl
theorem q84 (a b c d e f g h : Int) : aW 8 [a, b, c, d, e, f, g, h] 4 = some e := rfl
theorem q85 (a b c d e f g h : Int) : aW 8 [a, b, c, d, e, f, g, h] 5 = some f := rfl
theorem q86 (a b c d e f g h : Int) : aW 8 [a, b, c, d, e, f, g, h] 6 = some g := rfl
theorem q87 (a b c d e f g h : Int) : aW 8 [a, b, c, d, e, f, g, h] 7 = some h := rfl
theorem t80 (a b c d e f g h x : Int) : [a, b, c, d, e, f, g, h].set (Int.toNat 0) x = [x, b, c, d, e, f, g, h] := rfl
theorem t81 (a b c d e f g h x : Int) : [a, b, c, d, e, f, g, h].set (Int.toNat 1) x = [a, x, c, d, e, f, g, h] := rfl
theorem t82 (a b c d e f g h x : Int) : [a, b, c, d, e, f, g, h].set (Int.toNat 2) x = [a, b, x, d, e, f, g, h] := rfl
theorem t83 (a b c d e f g h x : Int) : [a, b, c, d, e, f, g, h].set (Int.toNat 3) x = [a, b, c, x, e, f, g, h] := rfl
theorem t84 (a b c d e f g h x : Int) : [a, b, c, d, e, f, g, h].set (Int.toNat 4) x = [a, b, c, d, x, f, g, h] := rfl
theorem t85 (a b c d e f g h x : Int) : [a, b, c, d, e, f, g, h].set (Int.toNat 5) x = [a, b, c, d, e, x, g, h] := rfl
theorem t86 (a b c d e f g h x : Int) : [a, b, c, d, e, f, g, h].set (Int.toNat 6) x = [a, b, c, d, e, f, x, h] := rfl
theorem t87 (a b c d e f g h x : Int) : [a, b, c, d, e, f, g, h].set (Int.toNat 7) x = [a, b, c, d, e, f, g, x] := rfl
theorem x00 : IntKind.i64.wrap (0 + 0) = 0 := by decide +kernel
theorem x01 : IntKind.i64.wrap (0 + 1) = 1 := by decide +kernel
theorem x02 : IntKind.i64.wrap (0 + 2) = 2 := by decide +kernel
theorem x03 : IntKind.i64.wrap (0 + 3) = 3 := by decide +kernel
theorem x04 : IntKind.i64.wrap (0 + 4) = 4 := by decide +kernel
theorem bS : IntKind.i64.wrap (1 + 0) = 1 := by decide +kernel
theorem bW : IntKind.i64.wrap (1 + 1) = 2 := by decide +kernel
theorem cL : IntKind.i64.wrap (1 + 2) = 3 := by decide +kernel
theorem d7 : IntKind.i64.wrap (1 + 3) = 4 := by decide +kernel
theorem aZ : IntKind.i64.wrap (1 + 4) = 5 := by decide +kernel
theorem eX : IntKind.i64.wrap (2 + 0) = 2 := by decide +kernel
theorem dE : IntKind.i64.wrap (2 + 1) = 3 := by decide +kernel
theorem dW : IntKind.i64.wrap (2 + 2) = 4 := by decide +kernel
theorem e9 : IntKind.i64.wrap (2 + 3) = 5 := by decide +kernel
theorem jD : IntKind.i64.wrap (2 + 4) = 6 := by decide +kernel
theorem mL : IntKind.i64.wrap (3 + 0) = 3 := by decide +kernel
theorem eV : IntKind.i64.wrap (3 + 1) = 4 := by decide +kernel
theorem nA : IntKind.i64.wrap (3 + 2) = 5 := by decide +kernel
theorem oG : IntKind.i64.wrap (3 + 3) = 6 := by decide +kernel
theorem fY : IntKind.i64.wrap (3 + 4) = 7 := by decide +kernel
theorem aPC {N : Nat} (hN : 70000 ≤ N) {va : List Int} {A b0 b1 b2 b3 w0 w1 w2 w3 w4' w5 w6 w7 : Nat} (hA : aW 4 va 0 = some (A : Int)) (gA : A < 18446744073709551616) (g0 : b0 < 18446744073709551616) (g1 : b1 < 18446744073709551616) (g2 : b2 < 18446744073709551616) (g3 : b3 < 18446744073709551616) (h0 : w0 < 18446744073709551616) (h1 : w1 < 18446744073709551616) (h2 : w2 < 18446744073709551616) (h3 : w3 < 18446744073709551616) :
    ∃ s0 s1 s2 s3 c : Nat, b8 N va (w4 b0 b1 b2 b3) 0 N 0 0 [(w0 : Int), (w1 : Int), (w2 : Int), (w3 : Int), (w4' : Int), (w5 : Int), (w6 : Int), (w7 : Int)] = some ((c : Int), [(s0 : Int), (s1 : Int), (s2 : Int), (s3 : Int), (w4' : Int), (w5 : Int), (w6 : Int), (w7 : Int)]) ∧ vl w0 w1 w2 w3 + (A * b0 + 18446744073709551616 * (A * b1) + 340282366920938463463374607431768211456 * (A * b2) + 6277101735386680763835789423207666416102355444464034512896 * (A * b3)) = vl s0 s1 s2 s3 + 115792089237316195423570985008687907853269984665640564039457584007913129639936 * c ∧ s0 < 18446744073709551616 ∧ s1 < 18446744073709551616 ∧ s2 < 18446744073709551616 ∧ s3 < 18446744073709551616 ∧ c < 18446744073709551616 := by
  obtain ⟨hh0, ll0, ss0, kk0, s0, jj0, c0, e0, f0, m0, n0, v0, y0, z0⟩ := oW (N := N) gA g0 h0 (show (0 : Nat) < 18446744073709551616 by omega)
  obtain ⟨hh1, ll1, ss1, kk1, s1, jj1, c1, e1, f1, m1, n1, v1, y1, z1⟩ := oW (N := N) gA g1 h1 z0
  obtain ⟨hh2, ll2, ss2, kk2, s2, jj2, c2, e2, f2, m2, n2, v2, y2, z2⟩ := oW (N := N) gA g2 h2 z1
  obtain ⟨hh3, ll3, ss3, kk3, s3, jj3, c3, e3, f3, m3, n3, v3, y3, z3⟩ := oW (N := N) gA g3 h3 z2
  refine ⟨s0, s1, s2, s3, c3, ?_, by unfold vl; omega, y0, y1, y2, y3, z3⟩
  obtain ⟨m, hm⟩ := rA (fun q => b8 N va (w4 b0 b1 b2 b3) 0 q 0 0 [(w0 : Int), (w1 : Int), (w2 : Int), (w3 : Int), (w4' : Int), (w5 : Int), (w6 : Int), (w7 : Int)]) hN
  rw [hm]
  have m0' : o5 (ss0 : Int) 0 0 = some ((s0 : Int), (jj0 : Int)) := m0
  simp only [b8, cV, hA, a40, a41, a42, a43, q80, q81, q82, q83, q84, q85, q86, q87, t80, t81, t82, t83, t84, t85, t86, t87, i01, i12, i23, i34, d04, d14, d24, d34, d44, x00, x01, x02, x03, x04, bS, bW, cL, d7, aZ, eX, dE, dW, e9, jD, mL, eV, nA, oG, fY, if_true, Bool.false_eq_true, if_false, Option.bind_some, e0, e1, e2, e3, f0, f1, f2, f3, m0', m1, m2, m3, n0, n1, n2, n3]
theorem aPO {N : Nat} (hN : 70000 ≤ N) {va : List Int} {A b0 b1 b2 b3 w0 w1 w2 w3 w4' w5 w6 w7 : Nat} (hA : aW 4 va 1 = some (A : Int)) (gA : A < 18446744073709551616) (g0 : b0 < 18446744073709551616) (g1 : b1 < 18446744073709551616) (g2 : b2 < 18446744073709551616) (g3 : b3 < 18446744073709551616) (h0 : w1 < 18446744073709551616) (h1 : w2 < 18446744073709551616) (h2 : w3 < 18446744073709551616) (h3 : w4' < 18446744073709551616) :
    ∃ s0 s1 s2 s3 c : Nat, b8 N va (w4 b0 b1 b2 b3) 1 N 0 0 [(w0 : Int), (w1 : Int), (w2 : Int), (w3 : Int), (w4' : Int), (w5 : Int), (w6 : Int), (w7 : Int)] = some ((c : Int), [(w0 : Int), (s0 : Int), (s1 : Int), (s2 : Int), (s3 : Int), (w5 : Int), (w6 : Int), (w7 : Int)]) ∧ vl w1 w2 w3 w4' + (A * b0 + 18446744073709551616 * (A * b1) + 340282366920938463463374607431768211456 * (A * b2) + 6277101735386680763835789423207666416102355444464034512896 * (A * b3)) = vl s0 s1 s2 s3 + 115792089237316195423570985008687907853269984665640564039457584007913129639936 * c ∧ s0 < 18446744073709551616 ∧ s1 < 18446744073709551616 ∧ s2 < 18446744073709551616 ∧ s3 < 18446744073709551616 ∧ c < 18446744073709551616 := by
  obtain ⟨hh0, ll0, ss0, kk0, s0, jj0, c0, e0, f0, m0, n0, v0, y0, z0⟩ := oW (N := N) gA g0 h0 (show (0 : Nat) < 18446744073709551616 by omega)
  obtain ⟨hh1, ll1, ss1, kk1, s1, jj1, c1, e1, f1, m1, n1, v1, y1, z1⟩ := oW (N := N) gA g1 h1 z0
  obtain ⟨hh2, ll2, ss2, kk2, s2, jj2, c2, e2, f2, m2, n2, v2, y2, z2⟩ := oW (N := N) gA g2 h2 z1
  obtain ⟨hh3, ll3, ss3, kk3, s3, jj3, c3, e3, f3, m3, n3, v3, y3, z3⟩ := oW (N := N) gA g3 h3 z2
  refine ⟨s0, s1, s2, s3, c3, ?_, by unfold vl; omega, y0, y1, y2, y3, z3⟩
  obtain ⟨m, hm⟩ := rA (fun q => b8 N va (w4 b0 b1 b2 b3) 1 q 0 0 [(w0 : Int), (w1 : Int), (w2 : Int), (w3 : Int), (w4' : Int), (w5 : Int), (w6 : Int), (w7 : Int)]) hN
  rw [hm]
  have m0' : o5 (ss0 : Int) 0 0 = some ((s0 : Int), (jj0 : Int)) := m0
  simp only [b8, cV, hA, a40, a41, a42, a43, q80, q81, q82, q83, q84, q85, q86, q87, t80, t81, t82, t83, t84, t85, t86, t87, i01, i12, i23, i34, d04, d14, d24, d34, d44, x00, x01, x02, x03, x04, bS, bW, cL, d7, aZ, eX, dE, dW, e9, jD, mL, eV, nA, oG, fY, if_true, Bool.false_eq_true, if_false, Option.bind_some, e0, e1, e2, e3, f0, f1, f2, f3, m0', m1, m2, m3, n0, n1, n2, n3]
theorem aPo {N : Nat} (hN : 70000 ≤ N) {va : List Int} {A b0 b1 b2 b3 w0 w1 w2 w3 w4' w5 w6 w7 : Nat} (hA : aW 4 va 2 = some (A : Int)) (gA : A < 18446744073709551616) (g0 : b0 < 18446744073709551616) (g1 : b1 < 18446744073709551616) (g2 : b2 < 18446744073709551616) (g3 : b3 < 18446744073709551616) (h0 : w2 < 18446744073709551616) (h1 : w3 < 18446744073709551616) (h2 : w4' < 18446744073709551616) (h3 : w5 < 18446744073709551616) :
    ∃ s0 s1 s2 s3 c : Nat, b8 N va (w4 b0 b1 b2 b3) 2 N 0 0 [(w0 : Int), (w1 : Int), (w2 : Int), (w3 : Int), (w4' : Int), (w5 : Int), (w6 : Int), (w7 : Int)] = some ((c : Int), [(w0 : Int), (w1 : Int), (s0 : Int), (s1 : Int), (s2 : Int), (s3 : Int), (w6 : Int), (w7 : Int)]) ∧ vl w2 w3 w4' w5 + (A * b0 + 18446744073709551616 * (A * b1) + 340282366920938463463374607431768211456 * (A * b2) + 6277101735386680763835789423207666416102355444464034512896 * (A * b3)) = vl s0 s1 s2 s3 + 115792089237316195423570985008687907853269984665640564039457584007913129639936 * c ∧ s0 < 18446744073709551616 ∧ s1 < 18446744073709551616 ∧ s2 < 18446744073709551616 ∧ s3 < 18446744073709551616 ∧ c < 18446744073709551616 := by
  obtain ⟨hh0, ll0, ss0, kk0, s0, jj0, c0, e0, f0, m0, n0, v0, y0, z0⟩ := oW (N := N) gA g0 h0 (show (0 : Nat) < 18446744073709551616 by omega)
  obtain ⟨hh1, ll1, ss1, kk1, s1, jj1, c1, e1, f1, m1, n1, v1, y1, z1⟩ := oW (N := N) gA g1 h1 z0
  obtain ⟨hh2, ll2, ss2, kk2, s2, jj2, c2, e2, f2, m2, n2, v2, y2, z2⟩ := oW (N := N) gA g2 h2 z1
  obtain ⟨hh3, ll3, ss3, kk3, s3, jj3, c3, e3, f3, m3, n3, v3, y3, z3⟩ := oW (N := N) gA g3 h3 z2
  refine ⟨s0, s1, s2, s3, c3, ?_, by unfold vl; omega, y0, y1, y2, y3, z3⟩
  obtain ⟨m, hm⟩ := rA (fun q => b8 N va (w4 b0 b1 b2 b3) 2 q 0 0 [(w0 : Int), (w1 : Int), (w2 : Int), (w3 : Int), (w4' : Int), (w5 : Int), (w6 : Int), (w7 : Int)]) hN
  rw [hm]
  have m0' : o5 (ss0 : Int) 0 0 = some ((s0 : Int), (jj0 : Int)) := m0
  simp only [b8, cV, hA, a40, a41, a42, a43, q80, q81, q82, q83, q84, q85, q86, q87, t80, t81, t82, t83, t84, t85, t86, t87, i01, i12, i23, i34, d04, d14, d24, d34, d44, x00, x01, x02, x03, x04, bS, bW, cL, d7, aZ, eX, dE, dW, e9, jD, mL, eV, nA, oG, fY, if_true, Bool.false_eq_true, if_false, Option.bind_some, e0, e1, e2, e3, f0, f1, f2, f3, m0', m1, m2, m3, n0, n1, n2, n3]
theorem aPB {N : Nat} (hN : 70000 ≤ N) {va : List Int} {A b0 b1 b2 b3 w0 w1 w2 w3 w4' w5 w6 w7 : Nat} (hA : aW 4 va 3 = some (A : Int)) (gA : A < 18446744073709551616) (g0 : b0 < 18446744073709551616) (g1 : b1 < 18446744073709551616) (g2 : b2 < 18446744073709551616) (g3 : b3 < 18446744073709551616) (h0 : w3 < 18446744073709551616) (h1 : w4' < 18446744073709551616) (h2 : w5 < 18446744073709551616) (h3 : w6 < 18446744073709551616) :
    ∃ s0 s1 s2 s3 c : Nat, b8 N va (w4 b0 b1 b2 b3) 3 N 0 0 [(w0 : Int), (w1 : Int), (w2 : Int), (w3 : Int), (w4' : Int), (w5 : Int), (w6 : Int), (w7 : Int)] = some ((c : Int), [(w0 : Int), (w1 : Int), (w2 : Int), (s0 : Int), (s1 : Int), (s2 : Int), (s3 : Int), (w7 : Int)]) ∧ vl w3 w4' w5 w6 + (A * b0 + 18446744073709551616 * (A * b1) + 340282366920938463463374607431768211456 * (A * b2) + 6277101735386680763835789423207666416102355444464034512896 * (A * b3)) = vl s0 s1 s2 s3 + 115792089237316195423570985008687907853269984665640564039457584007913129639936 * c ∧ s0 < 18446744073709551616 ∧ s1 < 18446744073709551616 ∧ s2 < 18446744073709551616 ∧ s3 < 18446744073709551616 ∧ c < 18446744073709551616 := by
  obtain ⟨hh0, ll0, ss0, kk0, s0, jj0, c0, e0, f0, m0, n0, v0, y0, z0⟩ := oW (N := N) gA g0 h0 (show (0 : Nat) < 18446744073709551616 by omega)
  obtain ⟨hh1, ll1, ss1, kk1, s1, jj1, c1, e1, f1, m1, n1, v1, y1, z1⟩ := oW (N := N) gA g1 h1 z0
  obtain ⟨hh2, ll2, ss2, kk2, s2, jj2, c2, e2, f2, m2, n2, v2, y2, z2⟩ := oW (N := N) gA g2 h2 z1
  obtain ⟨hh3, ll3, ss3, kk3, s3, jj3, c3, e3, f3, m3, n3, v3, y3, z3⟩ := oW (N := N) gA g3 h3 z2
  refine ⟨s0, s1, s2, s3, c3, ?_, by unfold vl; omega, y0, y1, y2, y3, z3⟩
  obtain ⟨m, hm⟩ := rA (fun q => b8 N va (w4 b0 b1 b2 b3) 3 q 0 0 [(w0 : Int), (w1 : Int), (w2 : Int), (w3 : Int), (w4' : Int), (w5 : Int), (w6 : Int), (w7 : Int)]) hN
  rw [hm]
  have m0' : o5 (ss0 : Int) 0 0 = some ((s0 : Int), (jj0 : Int)) := m0
  simp only [b8, cV, hA, a40, a41, a42, a43, q80, q81, q82, q83, q84, q85, q86, q87, t80, t81, t82, t83, t84, t85, t86, t87, i01, i12, i23, i34, d04, d14, d24, d34, d44, x00, x01, x02, x03, x04, bS, bW, cL, d7, aZ, eX, dE, dW, e9, jD, mL, eV, nA, oG, fY, if_true, Bool.false_eq_true, if_false, Option.bind_some, e0, e1, e2, e3, f0, f1, f2, f3, m0', m1, m2, m3, n0, n1, n2, n3]
theorem aNN (A b0 b1 b2 b3 : Nat) : A * vl b0 b1 b2 b3 = A * b0 + 18446744073709551616 * (A * b1) + 340282366920938463463374607431768211456 * (A * b2) + 6277101735386680763835789423207666416102355444464034512896 * (A * b3) := by
  unfold vl
  rw [Nat.mul_add, Nat.mul_add, Nat.mul_add, Nat.mul_left_comm A 18446744073709551616 b1, Nat.mul_left_comm A 340282366920938463463374607431768211456 b2, Nat.mul_left_comm A 6277101735386680763835789423207666416102355444464034512896 b3]
theorem aLo {N : Nat} (hN : 70000 ≤ N) {a b : Nat} (ha : a < 115792089237316195423570985008687907853269984665640564039457584007913129639936) (hb : b < 115792089237316195423570985008687907853269984665640564039457584007913129639936) : uG N (U a) (U b) = some (U (a * b / 115792089237316195423570985008687907853269984665640564039457584007913129639936), U (a * b % 115792089237316195423570985008687907853269984665640564039457584007913129639936)) := by
  obtain ⟨a0, a1, a2, a3, x0, x1, x2, x3, ea, va⟩ := vT ha
  obtain ⟨b0, b1, b2, b3, y0, y1, y2, y3, eb, vb⟩ := vT hb
  have zW : (0 : Nat) < 18446744073709551616 := by omega
  obtain ⟨s00, s01, s02, s03, c0, e0, f0, g00, g01, g02, g03, h0⟩ := aPC (N := N) hN (w0 := 0) (w1 := 0) (w2 := 0) (w3 := 0) (w4' := 0) (w5 := 0) (w6 := 0) (w7 := 0) (a40 a0 a1 a2 a3) x0 y0 y1 y2 y3 zW zW zW zW
  obtain ⟨s10, s11, s12, s13, c1, e1, f1, g10, g11, g12, g13, h1⟩ := aPO (N := N) hN (w0 := s00) (w5 := 0) (w6 := 0) (w7 := 0) (a41 a0 a1 a2 a3) x1 y0 y1 y2 y3 g01 g02 g03 h0
  obtain ⟨s20, s21, s22, s23, c2, e2, f2, g20, g21, g22, g23, h2⟩ := aPo (N := N) hN (w0 := s00) (w1 := s10) (w6 := 0) (w7 := 0) (a42 a0 a1 a2 a3) x2 y0 y1 y2 y3 g11 g12 g13 h1
  obtain ⟨s30, s31, s32, s33, c3, e3, f3, g30, g31, g32, g33, h3⟩ := aPB (N := N) hN (w0 := s00) (w1 := s10) (w2 := s20) (w7 := 0) (a43 a0 a1 a2 a3) x3 y0 y1 y2 y3 g21 g22 g23 h2
  rw [← aNN] at f0 f1 f2 f3
  rw [← vb] at f0 f1 f2 f3
  have hab : a * b = a0 * b + 18446744073709551616 * (a1 * b) + 340282366920938463463374607431768211456 * (a2 * b) + 6277101735386680763835789423207666416102355444464034512896 * (a3 * b) := by
    rw [va]; unfold vl
    rw [Nat.add_mul, Nat.add_mul, Nat.add_mul, Nat.mul_assoc, Nat.mul_assoc, Nat.mul_assoc]
  have k1 := aCy g00 g10 g20 g30
  have hsum : a * b = vl s00 s10 s20 s30 + 115792089237316195423570985008687907853269984665640564039457584007913129639936 * vl s31 s32 s33 c3 := by
    rw [hab]
    unfold vl at *
    omega
  rw [ea, eb, show a * b / 115792089237316195423570985008687907853269984665640564039457584007913129639936 = vl s31 s32 s33 c3 by omega, show a * b % 115792089237316195423570985008687907853269984665640564039457584007913129639936 = vl s00 s10 s20 s30 by omega, ← aCQ g00 g10 g20 g30, ← aCQ g31 g32 g33 h3]
  obtain ⟨m, hm⟩ := rA (fun q => iE N (w4 a0 a1 a2 a3) (w4 b0 b1 b2 b3) q 0 (List.replicate 8 0)) hN
  unfold uG
  rw [hm]
  have e0' : b8 N (w4 a0 a1 a2 a3) (w4 b0 b1 b2 b3) 0 N 0 0 [0, 0, 0, 0, 0, 0, 0, 0] = some ((c0 : Int), [(s00 : Int), (s01 : Int), (s02 : Int), (s03 : Int), 0, 0, 0, 0]) := e0
  have e1' : b8 N (w4 a0 a1 a2 a3) (w4 b0 b1 b2 b3) 1 N 0 0 [(s00 : Int), (s01 : Int), (s02 : Int), (s03 : Int), (c0 : Int), 0, 0, 0] = some ((c1 : Int), [(s00 : Int), (s10 : Int), (s11 : Int), (s12 : Int), (s13 : Int), 0, 0, 0]) := e1
  have e2' : b8 N (w4 a0 a1 a2 a3) (w4 b0 b1 b2 b3) 2 N 0 0 [(s00 : Int), (s10 : Int), (s11 : Int), (s12 : Int), (s13 : Int), (c1 : Int), 0, 0] = some ((c2 : Int), [(s00 : Int), (s10 : Int), (s20 : Int), (s21 : Int), (s22 : Int), (s23 : Int), 0, 0]) := e2
  have e3' : b8 N (w4 a0 a1 a2 a3) (w4 b0 b1 b2 b3) 3 N 0 0 [(s00 : Int), (s10 : Int), (s20 : Int), (s21 : Int), (s22 : Int), (s23 : Int), (c2 : Int), 0] = some ((c3 : Int), [(s00 : Int), (s10 : Int), (s20 : Int), (s30 : Int), (s31 : Int), (s32 : Int), (s33 : Int), 0]) := e3
  simp only [iE, tX, tQ, show List.replicate 8 (0 : Int) = [0, 0, 0, 0, 0, 0, 0, 0] from rfl, e0', e1', e2', e3', q84, q85, q86, q87, t84, t85, t86, t87, i01, i12, i23, i34, d04, d14, d24, d34, d44, x04, aZ, jD, fY, if_true, Bool.false_eq_true, if_false, Option.bind_some]
  rfl
end Go.Proofs.YtnoklhehodlkaaaGreatDoor
set_option linter.unusedSimpArgs false
set_option linter.unusedVariables false
set_option linter.unusedSectionVars false
namespace Go.Proofs.YtnoklhehodlkaaaGreatDoor
open Go Go.Vm
theorem aAx : (2 : Nat) ^ 256 = 115792089237316195423570985008687907853269984665640564039457584007913129639936 := by decide +kernel
theorem aNL {K v : Nat} (hK : K + 1 ≤ 256) (hv : v < 2 ^ (K + 1)) : ∃ t v', t ≤ 1 ∧ v' < 2 ^ K ∧ v = t * 2 ^ K + v' ∧ 2 * (v * 2 ^ (256 - (K + 1))) = t * 115792089237316195423570985008687907853269984665640564039457584007913129639936 + v' * 2 ^ (256 - K) ∧ v' * 2 ^ (256 - K) < 115792089237316195423570985008687907853269984665640564039457584007913129639936 := by
  have hp : 0 < 2 ^ K := Nat.pow_pos (by omega)
  rw [Nat.pow_succ] at hv
  have h256 : 2 ^ K * 2 ^ (256 - K) = 115792089237316195423570985008687907853269984665640564039457584007913129639936 := by rw [← Nat.pow_add, show K + (256 - K) = 256 by omega, aAx]
  have hlt : v % 2 ^ K < 2 ^ K := Nat.mod_lt _ hp
  refine ⟨v / 2 ^ K, v % 2 ^ K, ?_, hlt, ?_, ?_, ?_⟩
  · exact Nat.le_of_lt_succ ((Nat.div_lt_iff_lt_mul hp).2 (by rw [Nat.mul_comm]; exact hv))
  · rw [Nat.mul_comm]; exact (Nat.div_add_mod v (2 ^ K)).symm
  · have hx : 2 ^ (256 - K) = 2 * 2 ^ (256 - (K + 1)) := by rw [show 256 - K = (256 - (K + 1)) + 1 by omega, Nat.pow_succ, Nat.mul_comm]
    rw [Nat.mul_left_comm, ← hx]
    conv => lhs; rw [← Nat.div_add_mod v (2 ^ K), Nat.add_mul, Nat.mul_right_comm, h256]
    rw [Nat.mul_comm]
  · rw [← h256]
    exact Nat.mul_lt_mul_of_pos_right hlt (Nat.pow_pos (by omega))
theorem sV {α : Type} {n : Nat} {l : List α} (h : l.length = n) : aR n l = some l := by unfold aR; rw [if_pos h]
theorem aDf (T b p v : Nat) : ((T % b) * p + v) % b = (T * p + v) % b := by
  rw [Nat.add_mod, Nat.mul_mod, Nat.mod_mod, ← Nat.mul_mod, ← Nat.add_mod]
theorem aDy (a b : Nat) : decide ((0 : Int) ≤ if a < b then -1 else if b < a then 1 else 0) = decide (b ≤ a) := by
  by_cases h : a < b
  · rw [if_pos h, decide_eq_false (show ¬ b ≤ a by omega)]; rfl
  · rw [if_neg h, decide_eq_true (show b ≤ a by omega)]
    split <;> rfl
theorem aH8 (a b : Nat) : decide ((if a < b then (-1 : Int) else if b < a then 1 else 0) < 0) = decide (a < b) := by
  by_cases h : a < b
  · rw [if_pos h, decide_eq_true h]; rfl
  · rw [if_neg h, decide_eq_false h]
    split <;> rfl
theorem aLl (a b : Nat) : decide ((if a < b then (-1 : Int) else if b < a then 1 else 0) ≤ 0) = decide (a ≤ b) := by
  by_cases h : a < b
  · rw [if_pos h, decide_eq_true (show a ≤ b by omega)]; rfl
  · rw [if_neg h]
    by_cases h2 : b < a
    · rw [if_pos h2, decide_eq_false (show ¬ a ≤ b by omega)]; rfl
    · rw [if_neg h2, decide_eq_true (show a ≤ b by omega)]; rfl
section
variable {N : Nat} (hN : 70000 ≤ N) {b : Nat} (hb : b < 115792089237316195423570985008687907853269984665640564039457584007913129639936) (hb0 : 0 < b)
include hN hb hb0
theorem aL2 {b6 : Nat} (hw : b6 < 4) {m c K v r : Nat} (hc : c < 64) (hK : K = 64 * b6 + c) (hv : v < 2 ^ (K + 1)) (hr : r < b) {q : List Int} (hq : q.length = 4) (hnz : ¬ (r = 0 ∧ v = 0)) :
    ∃ q' v' r', q'.length = 4 ∧ v' < 2 ^ K ∧ r' < b ∧ (r' * 2 ^ K + v') % b = (r * 2 ^ (K + 1) + v) % b ∧
      cS N (U b) (b6 : Int) (m + 1) (c : Int) (U (v * 2 ^ (256 - (K + 1)))) q (U r) = cS N (U b) (b6 : Int) m ((c : Int) - 1) (U (v' * 2 ^ (256 - K))) q' (U r') := by
  obtain ⟨t, v', ht, hv', hvv, h2, h3⟩ := aNL (by omega : K + 1 ≤ 256) hv
  have hlo : v * 2 ^ (256 - (K + 1)) < 115792089237316195423570985008687907853269984665640564039457584007913129639936 := by
    have h5 := (Nat.mul_lt_mul_right (Nat.pow_pos (n := 256 - (K + 1)) (show 0 < 2 by omega))).2 hv
    rw [← Nat.pow_add, show K + 1 + (256 - (K + 1)) = 256 by omega, aAx] at h5
    exact h5
  generalize hlov : v * 2 ^ (256 - (K + 1)) = lo at *
  generalize hlov' : v' * 2 ^ (256 - K) = lo' at *
  have hr4 : r < 115792089237316195423570985008687907853269984665640564039457584007913129639936 := by omega
  obtain ⟨k, d1, d2⟩ := aLf hN hlo (Nat.zero_le 1)
  rw [show (2 * lo + 0) % 115792089237316195423570985008687907853269984665640564039457584007913129639936 = lo' by omega, show (2 * lo + 0) / 115792089237316195423570985008687907853269984665640564039457584007913129639936 = t by omega] at *
  rw [d2] at d1
  clear d2
  obtain ⟨k, d3, d4⟩ := aLf hN hr4 ht
  have d1' : oJ N (U lo) 0 = some (U lo', ((t : Nat) : Int)) := d1
  have hT : (2 * r + t) % b < b := Nat.mod_lt _ hb0
  have hTv : ((2 * r + t) % b * 2 ^ K + v') % b = (r * 2 ^ (K + 1) + v) % b := by
    rw [aDf, hvv, Nat.add_mul, Nat.pow_succ, Nat.add_assoc, Nat.mul_right_comm 2 r, Nat.mul_comm (2 ^ K) 2, Nat.mul_comm (2 * 2 ^ K) r]
  have main : ∀ (q : List Int), q.length = 4 → ∃ q', q'.length = 4 ∧ qS N (U b) (b6 : Int) (c : Int) (U lo) q (U r) (cS N (U b) (b6 : Int) m) false = cS N (U b) (b6 : Int) m ((c : Int) - 1) (U lo') q' (U ((2 * r + t) % b)) := by
    intro q hq
    simp only [qS, Bool.false_eq_true, if_false, aX, d1', d3, Option.bind_some]
    have hcw : IntKind.i64.wrap ((c : Int) - 1) = (c : Int) - 1 := cC (by omega) (by omega)
    have hsub : ∀ (x : Nat), x < 115792089237316195423570985008687907853269984665640564039457584007913129639936 → (x + 115792089237316195423570985008687907853269984665640564039457584007913129639936 - b) % 115792089237316195423570985008687907853269984665640564039457584007913129639936 = (2 * r + t) % b → ∃ q', q'.length = 4 ∧ oO N (U b) (b6 : Int) (c : Int) q (U lo', ((t : Nat) : Int)) (U x, (k : Int)) (cS N (U b) (b6 : Int) m) true = cS N (U b) (b6 : Int) m ((c : Int) - 1) (U lo') q' (U ((2 * r + t) % b)) := by
      intro x hx he
      have hs : shl .u64 1 (c : Int) = some ((1 * 2 ^ c % 2 ^ IntKind.u64.bits : Nat) : Int) := uL rfl 1 c
      have ha : aW 4 q (b6 : Int) = some (q[b6]'(by omega)) := by
        unfold aW
        rw [if_pos (by omega), eY q (by omega)]
      refine ⟨q.set (Int.toNat (b6 : Int)) (bits .or .u64 (q[b6]'(by omega)) ((1 * 2 ^ c % 2 ^ IntKind.u64.bits : Nat) : Int)), by rw [List.length_set]; exact hq, ?_⟩
      simp only [oO, if_true, aCn hN hx hb, Option.bind_some, aX, ha, hs, qN, hcw, he]
    by_cases h1 : 2 * r + t < 115792089237316195423570985008687907853269984665640564039457584007913129639936
    · have hk0 : k = 0 := by omega
      subst hk0
      simp only [show (((0 : Nat) : Int) != 0) = false from rfl, Bool.false_eq_true, if_false, vI hN (show (2 * r + t) % 115792089237316195423570985008687907853269984665640564039457584007913129639936 < 115792089237316195423570985008687907853269984665640564039457584007913129639936 by omega) hb, Option.bind_some, aDy]
      rw [Nat.mod_eq_of_lt h1] at *
      by_cases h4 : b ≤ 2 * r + t
      · rw [decide_eq_true h4]
        refine hsub _ h1 ?_
        rw [Nat.mod_eq_sub_mod h4, Nat.mod_eq_of_lt (show 2 * r + t - b < b by omega)]
        omega
      · rw [decide_eq_false h4]
        refine ⟨q, hq, ?_⟩
        simp only [oO, Bool.false_eq_true, if_false, qN, hcw]
        rw [Nat.mod_eq_of_lt (show 2 * r + t < b by omega)]
    · have hk1 : k = 1 := by omega
      subst hk1
      simp only [show (((1 : Nat) : Int) != 0) = true from rfl, if_true]
      refine hsub _ (by omega) ?_
      rw [Nat.mod_eq_sub_mod (show b ≤ 2 * r + t by omega), Nat.mod_eq_of_lt (show 2 * r + t - b < b by omega)]
      omega
  obtain ⟨q', hq', he⟩ := main q hq
  refine ⟨q', v', (2 * r + t) % b, hq', hv', hT, hTv, ?_⟩
  rw [hlov']
  rw [cS, show decide ((0 : Int) ≤ (c : Int)) = true from decide_eq_true (by omega), if_pos rfl, aX, Option.bind_some, ← tZ]
  rw [aAT hr4 (show 0 < 115792089237316195423570985008687907853269984665640564039457584007913129639936 by omega), aX, Option.bind_some, aAT hlo (show 0 < 115792089237316195423570985008687907853269984665640564039457584007913129639936 by omega)]
  by_cases h0 : r = 0
  · have hl0 : lo ≠ 0 := by
      intro h
      have : v = 0 := by
        rcases Nat.mul_eq_zero.1 (hlov.trans h) with h | h
        · exact h
        · exact absurd h (Nat.ne_of_gt (Nat.pow_pos (by omega)))
      exact hnz ⟨h0, this⟩
    rw [decide_eq_true h0, if_pos rfl, decide_eq_false hl0]
    exact he
  · rw [decide_eq_false h0]
    exact he
theorem aF2 {b6 : Nat} (hw : b6 < 4) : ∀ (c m v r : Nat) (q : List Int), c ≤ 64 → c < m → v < 2 ^ (64 * b6 + c) → r < b → q.length = 4 →
    (∃ q', q'.length = 4 ∧ (r * 2 ^ (64 * b6 + c) + v) % b = 0 ∧ cS N (U b) (b6 : Int) m ((c : Int) - 1) (U (v * 2 ^ (256 - (64 * b6 + c)))) q (U r) = some (.ret (q', U 0))) ∨
    (∃ q' v' r', q'.length = 4 ∧ v' < 2 ^ (64 * b6) ∧ r' < b ∧ (r' * 2 ^ (64 * b6) + v') % b = (r * 2 ^ (64 * b6 + c) + v) % b ∧
      cS N (U b) (b6 : Int) m ((c : Int) - 1) (U (v * 2 ^ (256 - (64 * b6 + c)))) q (U r) = some (.brk (U (v' * 2 ^ (256 - 64 * b6)), q', U r')))
  | 0, m, v, r, q, _, hm, hv, hr, hq => by
    obtain ⟨m, rfl⟩ : ∃ k, m = k + 1 := ⟨m - 1, by omega⟩
    refine .inr ⟨q, v, r, hq, hv, hr, rfl, ?_⟩
    rw [cS, show decide ((0 : Int) ≤ ((0 : Nat) : Int) - 1) = false from rfl]
    rfl
  | c + 1, m, v, r, q, hc, hm, hv, hr, hq => by
    obtain ⟨m, rfl⟩ : ∃ k, m = k + 1 := ⟨m - 1, by omega⟩
    rw [show ((c + 1 : Nat) : Int) - 1 = (c : Int) by omega]
    by_cases hz : r = 0 ∧ v = 0
    · obtain ⟨rfl, rfl⟩ := hz
      refine .inl ⟨q, hq, by simp, ?_⟩
      rw [cS, show decide ((0 : Int) ≤ (c : Int)) = true from decide_eq_true (by omega), if_pos rfl, Nat.zero_mul]
      rfl
    · obtain ⟨q', v', r', h1, h2, h3, h4, h5⟩ := aL2 hN hb hb0 hw (m := m) (show c < 64 by omega) rfl (show v < 2 ^ (64 * b6 + c + 1) from hv) hr hq hz
      rw [show 64 * b6 + (c + 1) = 64 * b6 + c + 1 from rfl, h5, ← h4]
      exact aF2 hw c m v' r' q' (by omega) (by omega) h2 h3 h1
theorem aHF : ∀ (w m v r : Nat) (q : List Int), w ≤ 4 → w < m → v < 2 ^ (64 * w) → r < b → q.length = 4 →
    ∃ q', q'.length = 4 ∧ kP N (U b) m ((w : Int) - 1) (U (v * 2 ^ (256 - 64 * w))) q (U r) = some (q', U ((r * 2 ^ (64 * w) + v) % b))
  | 0, m, v, r, q, _, hm, hv, hr, hq => by
    obtain ⟨m, rfl⟩ : ∃ k, m = k + 1 := ⟨m - 1, by omega⟩
    refine ⟨q, hq, ?_⟩
    have hv0 : v = 0 := by simpa using hv
    subst hv0
    rw [kP, show decide ((0 : Int) ≤ ((0 : Nat) : Int) - 1) = false from rfl]
    simp [Nat.mod_eq_of_lt hr]
  | w + 1, m, v, r, q, hw, hm, hv, hr, hq => by
    obtain ⟨m, rfl⟩ : ∃ k, m = k + 1 := ⟨m - 1, by omega⟩
    rw [kP, show ((w + 1 : Nat) : Int) - 1 = (w : Int) by omega, show decide ((0 : Int) ≤ (w : Int)) = true from decide_eq_true (by omega), if_pos rfl]
    have e63 : (63 : Int) = ((64 : Nat) : Int) - 1 := rfl
    have ek : 64 * (w + 1) = 64 * w + 64 := by omega
    rw [ek] at hv
    rw [e63, ek]
    rcases aF2 hN hb hb0 (show w < 4 by omega) 64 N v r q (Nat.le_refl _) (by omega) hv hr hq with ⟨q', h1, h2, h3⟩ | ⟨q', v', r', h1, h2, h3, h4, h5⟩
    · rw [h3, h2]
      exact ⟨q', h1, rfl⟩
    · rw [h5, ← h4]
      simp only [Option.bind_some, wT]
      rw [cC (a := (w : Int) - 1) (by omega) (by omega)]
      exact aHF w m v' r' q' (by omega) (by omega) h2 h3 h1
theorem aLa {hi lo : Nat} (hh : hi < b) (hl : lo < 115792089237316195423570985008687907853269984665640564039457584007913129639936) : ∃ q', q'.length = 4 ∧ wG N (U hi) (U lo) (U b) = some (q', U ((hi * 115792089237316195423570985008687907853269984665640564039457584007913129639936 + lo) % b), true) := by
  obtain ⟨q', h1, h2⟩ := aHF hN hb hb0 4 N lo hi (List.replicate 4 0) (Nat.le_refl _) (by omega) (by rw [show 64 * 4 = 256 from rfl, aAx]; exact hl) hh (by simp)
  rw [show ((4 : Nat) : Int) - 1 = 3 from rfl, show 256 - 64 * 4 = 0 from rfl, Nat.pow_zero, Nat.mul_one, show 64 * 4 = 256 from rfl, aAx] at h2
  refine ⟨q', h1, ?_⟩
  simp only [wG, aX, Option.bind_some, vI hN hb (show hi < 115792089237316195423570985008687907853269984665640564039457584007913129639936 by omega), aLl]
  rw [decide_eq_false (show ¬ b ≤ hi by omega)]
  simp only [Bool.false_eq_true, if_false, h2, Option.bind_some, wU, sV h1, aX]
theorem aDd {a : Nat} (ha : a < 115792089237316195423570985008687907853269984665640564039457584007913129639936) : oN N (U a) (U b) = some (U (a % b)) := by
  simp only [oN, aX, Option.bind_some, vI hN ha hb, aH8]
  by_cases h : a < b
  · rw [decide_eq_true h, if_pos rfl, Nat.mod_eq_of_lt h]
  · rw [decide_eq_false h]
    obtain ⟨q', h1, h2⟩ := aLa hN hb hb0 hb0 ha
    rw [tZ, Nat.zero_mul, Nat.zero_add] at h2
    simp only [Bool.false_eq_true, if_false, h2, Option.bind_some, sV h1, aX]
theorem aNP : (U b == [0, 0, 0, 0]) = false := by
  rw [← tZ, aAT hb (by omega)]
  exact decide_eq_false (by omega)
theorem aJ9 {x y : Nat} (hx : x < 115792089237316195423570985008687907853269984665640564039457584007913129639936) (hy : y < 115792089237316195423570985008687907853269984665640564039457584007913129639936) : tP N (U x) (U y) (U b) = some (U (x * y % b)) := by
  have hp : x * y / 115792089237316195423570985008687907853269984665640564039457584007913129639936 < 115792089237316195423570985008687907853269984665640564039457584007913129639936 := by
    have h5 := Nat.mul_le_mul (Nat.le_pred_of_lt hx) (Nat.le_pred_of_lt hy)
    simp only [Nat.pred_eq_sub_one, Nat.reduceSub, Nat.reduceMul] at h5
    omega
  obtain ⟨q', h1, h2⟩ := aLa hN hb hb0 (Nat.mod_lt (x * y / 115792089237316195423570985008687907853269984665640564039457584007913129639936) hb0) (show x * y % 115792089237316195423570985008687907853269984665640564039457584007913129639936 < 115792089237316195423570985008687907853269984665640564039457584007913129639936 by omega)
  rw [aDf, Nat.mul_comm (x * y / 115792089237316195423570985008687907853269984665640564039457584007913129639936) 115792089237316195423570985008687907853269984665640564039457584007913129639936, Nat.div_add_mod] at h2
  simp only [tP, aX, Option.bind_some, aNP hN hb hb0, Bool.false_eq_true, if_false, aLo hN hx hy, aDd hN hb hb0 hp, h2, sV h1]
theorem aGk {x y : Nat} (hx : x < 115792089237316195423570985008687907853269984665640564039457584007913129639936) (hy : y < 115792089237316195423570985008687907853269984665640564039457584007913129639936) : tF N (U x) (U y) (U b) = some (U ((x + y) % b)) := by
  have h1 := Nat.mod_lt x hb0
  have h2 := Nat.mod_lt y hb0
  have key : (x + y) % b = if x % b + y % b < b then x % b + y % b else x % b + y % b - b := by
    rw [Nat.add_mod]
    split
    · rename_i h; exact Nat.mod_eq_of_lt h
    · rename_i h; rw [Nat.mod_eq_sub_mod (by omega), Nat.mod_eq_of_lt (by omega)]
  simp only [tF, aX, Option.bind_some, aNP hN hb hb0, Bool.false_eq_true, if_false, aDd hN hb hb0 hx, aDd hN hb hb0 hy, aK8 hN (show x % b < 115792089237316195423570985008687907853269984665640564039457584007913129639936 by omega) (show y % b < 115792089237316195423570985008687907853269984665640564039457584007913129639936 by omega)]
  rw [key]
  generalize x % b = u at *
  generalize y % b = v at *
  by_cases h : 115792089237316195423570985008687907853269984665640564039457584007913129639936 ≤ u + v
  · rw [decide_eq_true h, if_neg (show ¬ u + v < b by omega)]
    simp only [if_true, kH, aCn hN (show (u + v) % 115792089237316195423570985008687907853269984665640564039457584007913129639936 < 115792089237316195423570985008687907853269984665640564039457584007913129639936 by omega) hb, Option.bind_some, aX, kK]
    rw [show ((u + v) % 115792089237316195423570985008687907853269984665640564039457584007913129639936 + 115792089237316195423570985008687907853269984665640564039457584007913129639936 - b) % 115792089237316195423570985008687907853269984665640564039457584007913129639936 = u + v - b by omega]
  · rw [decide_eq_false h]
    simp only [Bool.false_eq_true, if_false, vI hN (show (u + v) % 115792089237316195423570985008687907853269984665640564039457584007913129639936 < 115792089237316195423570985008687907853269984665640564039457584007913129639936 by omega) hb, Option.bind_some, aDy]
    rw [Nat.mod_eq_of_lt (show u + v < 115792089237316195423570985008687907853269984665640564039457584007913129639936 by omega)]
    by_cases h3 : b ≤ u + v
    · rw [decide_eq_true h3, if_neg (show ¬ u + v < b by omega)]
      simp only [if_true, kH, aCn hN (show u + v < 115792089237316195423570985008687907853269984665640564039457584007913129639936 by omega) hb, Option.bind_some, aX, kK]
      rw [show (u + v + 115792089237316195423570985008687907853269984665640564039457584007913129639936 - b) % 115792089237316195423570985008687907853269984665640564039457584007913129639936 = u + v - b by omega]
    · rw [decide_eq_false h3, if_pos (show u + v < b by omega)]
      simp only [Bool.false_eq_true, if_false, kH, Option.bind_some, aX, kK]
end
end Go.Proofs.YtnoklhehodlkaaaGreatDoor
set_option linter.unusedSimpArgs false
set_option linter.unusedVariables false
set_option linter.unusedSectionVars false
set_option maxRecDepth 20000
namespace Go.Proofs.YtnoklhehodlkaaaGreatDoor
open Go Go.Vm
theorem aMm : ((List.range 256).all fun y => match gB 0 (y : Int) 0 with | some v => decide (0 ≤ v ∧ v ≤ 8 ∧ y < 2 ^ v.toNat) | none => false) = true := by decide +kernel
theorem aJn (z : Int) : IntKind.i64.wrap (0 + IntKind.i64.wrap z) = IntKind.i64.wrap z := by simp only [IntKind.wrap_i64]; omega
theorem aM6 {N x : Nat} (hx : x < 256) {n : Nat} (hn : n ≤ 1000) : ∃ t : Nat, t ≤ 8 ∧ x < 2 ^ t ∧ gB N (x : Int) (n : Int) = some ((n + t : Nat) : Int) := by
  have h := List.all_eq_true.1 aMm x (by simpa using hx)
  unfold gB at h ⊢
  generalize hs : aIE _ (IntKind.u8.wrap (x : Int)) = s at h ⊢
  cases s with
  | none => simp at h
  | some z =>
    simp only [Option.bind_some, aJn, decide_eq_true_eq] at h ⊢
    generalize IntKind.i64.wrap z = w at *
    obtain ⟨h1, h2, h3⟩ := h
    clear hs
    refine ⟨w.toNat, ?_, h3, ?_⟩ <;> clear h3
    · omega
    · rw [cC (by omega) (by omega)]
      congr 1; omega
theorem aF4 {x k t : Nat} (h : x / 2 ^ k < 2 ^ t) : x < 2 ^ (k + t) := by
  rw [Nat.pow_add, Nat.mul_comm]
  exact (Nat.div_lt_iff_lt_mul (Nat.pow_pos (by omega))).1 h
theorem aKQ (a b : Nat) : decide ((a : Int) ≤ (b : Int)) = decide (a ≤ b) := by
  by_cases h : a ≤ b
  · rw [decide_eq_true h, decide_eq_true (by omega)]
  · rw [decide_eq_false h, decide_eq_false (by omega)]
theorem aAX {N x : Nat} (hx : x < 18446744073709551616) : ∃ n : Nat, n ≤ 64 ∧ x < 2 ^ n ∧ nV N (x : Int) = some (n : Int) := by
  have j2 : ∀ (x n : Nat), x < 65536 → n ≤ 100 → ∃ t : Nat, t ≤ 16 ∧ x < 2 ^ t ∧ i5 N (x : Int) (n : Int) = some ((n + t : Nat) : Int) := by
    intro x n hx hn
    unfold i5
    rw [show (256 : Int) = ((256 : Nat) : Int) from rfl, aKQ]
    by_cases h : 256 ≤ x
    · rw [decide_eq_true h, if_pos rfl, show shr .u64 (x : Int) 8 = some ((x / 256 : Nat) : Int) from sH x 8 (Nat.lt_of_lt_of_le hx (by decide)), Option.bind_some, cC (a := (n : Int) + 8) (by omega) (by omega), show (n : Int) + 8 = ((n + 8 : Nat) : Int) by omega]
      obtain ⟨t, h1, h2, h3⟩ := aM6 (N := N) (show x / 256 < 256 by omega) (show n + 8 ≤ 1000 by omega)
      exact ⟨8 + t, Nat.add_le_add_left h1 8, aF4 (k := 8) h2, by rw [h3, Nat.add_assoc]⟩
    · rw [decide_eq_false h]
      obtain ⟨t, h1, h2, h3⟩ := aM6 (N := N) (show x < 256 by omega) (show n ≤ 1000 by omega)
      exact ⟨t, Nat.le_trans h1 (by decide), h2, h3⟩
  have j1 : ∀ (x n : Nat), x < 4294967296 → n ≤ 50 → ∃ t : Nat, t ≤ 32 ∧ x < 2 ^ t ∧ iV N (x : Int) (n : Int) = some ((n + t : Nat) : Int) := by
    intro x n hx hn
    unfold iV
    rw [show (65536 : Int) = ((65536 : Nat) : Int) from rfl, aKQ]
    by_cases h : 65536 ≤ x
    · rw [decide_eq_true h, if_pos rfl, show shr .u64 (x : Int) 16 = some ((x / 65536 : Nat) : Int) from sH x 16 (Nat.lt_of_lt_of_le hx (by decide)), Option.bind_some, cC (a := (n : Int) + 16) (by omega) (by omega), show (n : Int) + 16 = ((n + 16 : Nat) : Int) by omega]
      obtain ⟨t, h1, h2, h3⟩ := j2 (x / 65536) (n + 16) (by omega) (by omega)
      exact ⟨16 + t, Nat.add_le_add_left h1 16, aF4 (k := 16) h2, by rw [h3, Nat.add_assoc]⟩
    · rw [decide_eq_false h]
      obtain ⟨t, h1, h2, h3⟩ := j2 x n (by omega) (by omega)
      exact ⟨t, Nat.le_trans h1 (by decide), h2, h3⟩
  unfold nV
  rw [show (4294967296 : Int) = ((4294967296 : Nat) : Int) from rfl, aKQ]
  by_cases h : 4294967296 ≤ x
  · rw [decide_eq_true h, if_pos rfl, show shr .u64 (x : Int) 32 = some ((x / 4294967296 : Nat) : Int) from sH x 32 hx, Option.bind_some]
    obtain ⟨t, h1, h2, h3⟩ := j1 (x / 4294967296) 32 (by omega) (by omega)
    exact ⟨32 + t, Nat.add_le_add_left h1 32, aF4 (k := 32) h2, h3⟩
  · rw [decide_eq_false h]
    obtain ⟨t, h1, h2, h3⟩ := j1 x 0 (by omega) (by omega)
    exact ⟨t, Nat.le_trans h1 (by decide), h2, by rw [Nat.zero_add] at h3; exact h3⟩
theorem aOv {N : Nat} (hN : 70000 ≤ N) {e : Nat} (he : e < 115792089237316195423570985008687907853269984665640564039457584007913129639936) : ∃ n : Nat, n ≤ 256 ∧ e < 2 ^ n ∧ zK N (U e) = some (n : Int) := by
  obtain ⟨a0, a1, a2, a3, x0, x1, x2, x3, ea, va⟩ := vT he
  unfold vl at va
  obtain ⟨n0, l0, p0, f0⟩ := aAX (N := N) x0
  obtain ⟨n1, l1, p1, f1⟩ := aAX (N := N) x1
  obtain ⟨n2, l2, p2, f2⟩ := aAX (N := N) x2
  obtain ⟨n3, l3, p3, f3⟩ := aAX (N := N) x3
  rw [ea]
  obtain ⟨m, hm⟩ := rA (fun q => oI N (w4 a0 a1 a2 a3) q 3) hN
  unfold zK
  rw [hm]
  simp only [oI, a40, a41, a42, a43, i32, i21, i10, i0m, show decide ((0 : Int) ≤ 3) = true from rfl, show decide ((0 : Int) ≤ 2) = true from rfl, show decide ((0 : Int) ≤ 1) = true from rfl, show decide ((0 : Int) ≤ 0) = true from rfl, show decide ((0 : Int) ≤ -1) = false from rfl, if_true, Bool.false_eq_true, if_false, Option.bind_some, wW, f0, f1, f2, f3]
  have nz : ∀ x : Nat, (((x : Nat) : Int) != 0) = !decide (x = 0) := fun x => by
    by_cases h : x = 0
    · subst h; rfl
    · rw [decide_eq_false h]; simp; omega
  rw [nz, nz, nz, nz]
  have wr : ∀ (i n : Nat), i ≤ 3 → n ≤ 64 → IntKind.i64.wrap (IntKind.i64.wrap (64 * (i : Int)) + (n : Int)) = ((64 * i + n : Nat) : Int) := fun i n hi hn => by
    rw [cC (a := 64 * (i : Int)) (by omega) (by omega), cC (by omega) (by omega)]; omega
  have q3 := wr 3 n3 (by omega) l3
  have q2 := wr 2 n2 (by omega) l2
  have q1 := wr 1 n1 (by omega) l1
  have q0 := wr 0 n0 (by omega) l0
  have pw : ∀ i n : Nat, 2 ^ (64 * i + n) = 2 ^ (64 * i) * 2 ^ n := fun i n => Nat.pow_add _ _ _
  by_cases h3 : a3 = 0
  · rw [decide_eq_true h3]
    by_cases h2 : a2 = 0
    · rw [decide_eq_true h2]
      by_cases h1 : a1 = 0
      · rw [decide_eq_true h1]
        by_cases h0 : a0 = 0
        · rw [decide_eq_true h0]
          exact ⟨0, by omega, by simp; omega, rfl⟩
        · rw [decide_eq_false h0]
          refine ⟨64 * 0 + n0, by omega, ?_, ?_⟩
          · rw [show 64 * 0 + n0 = n0 by omega]; omega
          · rw [← q0]; rfl
      · rw [decide_eq_false h1]
        refine ⟨64 * 1 + n1, by omega, ?_, ?_⟩
        · rw [pw, show 2 ^ (64 * 1) = 18446744073709551616 from rfl]
          generalize 2 ^ n1 = z at *
          omega
        · rw [← q1]; rfl
    · rw [decide_eq_false h2]
      refine ⟨64 * 2 + n2, by omega, ?_, ?_⟩
      · rw [pw, show 2 ^ (64 * 2) = 340282366920938463463374607431768211456 from rfl]
        generalize 2 ^ n2 = z at *
        omega
      · rw [← q2]; rfl
  · rw [decide_eq_false h3]
    refine ⟨64 * 3 + n3, by omega, ?_, ?_⟩
    · rw [pw, show 2 ^ (64 * 3) = 6277101735386680763835789423207666416102355444464034512896 from rfl]
      generalize 2 ^ n3 = z at *
      omega
    · rw [← q3]; rfl
theorem aGp (N : Nat) : nD N = some (U 115792089237316195423570985008687907853269984665640564039457584007913129603823) := by unfold nD; decide +kernel
theorem zC (N : Nat) : lV N = some (U 57896044618658097711785492504343953926634992332820282019728792003956564801911) := by unfold lV; decide +kernel
theorem aIf {N : Nat} (hN : 70000 ≤ N) {a b : Nat} (ha : a < 115792089237316195423570985008687907853269984665640564039457584007913129639936) (hb : b < 115792089237316195423570985008687907853269984665640564039457584007913129639936) : sE N (U a) (U b) = some (U (a * b % 115792089237316195423570985008687907853269984665640564039457584007913129603823)) := by
  simp only [sE, aX, aGp, Option.bind_some, aJ9 (b := 115792089237316195423570985008687907853269984665640564039457584007913129603823) hN (by decide) (by decide) ha hb]
theorem aLb {e : Nat} (he : e < 115792089237316195423570985008687907853269984665640564039457584007913129639936) {j : Nat} (hj : j < 256) : ∃ x y : Nat, aW 4 (U e) ((j / 64 : Nat) : Int) = some (x : Int) ∧ shr .u64 (x : Int) ((j % 64 : Nat) : Int) = some (y : Int) ∧ (bits .and .u64 (y : Int) 1 == 1) = decide (e / 2 ^ j % 2 = 1) := by
  have hx : aW 4 (U e) ((j / 64 : Nat) : Int) = some ((e / 2 ^ (64 * (j / 64)) % 18446744073709551616 : Nat) : Int) := by
    have h4 : j / 64 < 4 := by omega
    unfold U
    generalize j / 64 = k at *
    match k, h4 with
    | 0, _ => rw [show 2 ^ (64 * 0) = 1 from rfl, Nat.div_one]; rfl
    | 1, _ => rfl
    | 2, _ => rfl
    | 3, _ => rfl
  refine ⟨_, _, hx, sH _ _ (show e / 2 ^ (64 * (j / 64)) % 18446744073709551616 < 2 ^ 64 by omega), ?_⟩
  have hlt : e / 2 ^ (64 * (j / 64)) % 18446744073709551616 / 2 ^ (j % 64) < 2 ^ 64 := Nat.lt_of_le_of_lt (Nat.div_le_self _ _) (show e / 2 ^ (64 * (j / 64)) % 18446744073709551616 < 2 ^ 64 by omega)
  rw [show (1 : Int) = ((1 : Nat) : Int) from rfl, aBV (k := .u64) rfl _ 1 hlt (by decide), Nat.and_one_is_mod]
  have key : e / 2 ^ (64 * (j / 64)) % 18446744073709551616 / 2 ^ (j % 64) % 2 = e / 2 ^ j % 2 := by
    have h1 : (e / 2 ^ (64 * (j / 64)) % 2 ^ 64).testBit (j % 64) = (e / 2 ^ (64 * (j / 64))).testBit (j % 64) := by
      rw [Nat.testBit_mod_two_pow, decide_eq_true (Nat.mod_lt _ (by omega)), Bool.true_and]
    rw [Nat.testBit_div_two_pow, show j % 64 + 64 * (j / 64) = j by omega] at h1
    rw [Nat.testBit_eq_decide_div_mod_eq, Nat.testBit_eq_decide_div_mod_eq, decide_eq_decide] at h1
    have h2 : e / 2 ^ (64 * (j / 64)) % 2 ^ 64 / 2 ^ (j % 64) % 2 = e / 2 ^ j % 2 := by
      generalize e / 2 ^ (64 * (j / 64)) % 2 ^ 64 / 2 ^ (j % 64) = u at *
      generalize e / 2 ^ j = w at *
      omega
    exact h2
  rw [key]
  generalize e / 2 ^ j % 2 = u
  by_cases h : u = 1
  · subst h; rfl
  · rw [decide_eq_false h]; simp; omega
theorem aC3 (a p e : Nat) : (a ^ (e / 2) % p) * (a ^ (e / 2) % p) % p * (if e % 2 = 1 then a else 1) % p = a ^ e % p := by
  have h : a ^ e = a ^ (e / 2) * a ^ (e / 2) * (if e % 2 = 1 then a else 1) := by
    rw [← Nat.pow_add]
    split
    · rename_i h1
      rw [← Nat.pow_succ]; congr 1; omega
    · rw [Nat.mul_one]; congr 1; omega
  rw [h, ← Nat.mul_mod, Nat.mod_mul_mod]
section
variable {N : Nat} (hN : 70000 ≤ N)
include hN
theorem aC8 {a e n : Nat} (ha : a < 115792089237316195423570985008687907853269984665640564039457584007913129639936) (he : e < 115792089237316195423570985008687907853269984665640564039457584007913129639936) (hn : n ≤ 256) : ∀ (m j : Nat), n - j < m → j ≤ n → jT N (U a) (U e) (n : Int) m (j : Int) (U (a ^ (e / 2 ^ (n - j)) % 115792089237316195423570985008687907853269984665640564039457584007913129603823)) = some (U (a ^ e % 115792089237316195423570985008687907853269984665640564039457584007913129603823))
  | 0, j, hm, _ => by omega
  | m + 1, j, hm, hj => by
    rw [jT]
    by_cases h : j < n
    · rw [dT h, if_pos rfl]
      have hp : a ^ (e / 2 ^ (n - j)) % 115792089237316195423570985008687907853269984665640564039457584007913129603823 < 115792089237316195423570985008687907853269984665640564039457584007913129639936 := Nat.lt_of_lt_of_le (Nat.mod_lt _ (by omega)) (by omega)
      obtain ⟨x, y, b1, b2, b3⟩ := aLb he (show n - 1 - j < 256 by omega)
      rw [cC (a := (n : Int) - 1) (by omega) (by omega), cC (a := (n : Int) - 1 - (j : Int)) (by omega) (by omega), show (n : Int) - 1 - (j : Int) = ((n - 1 - j : Nat) : Int) by omega, show (64 : Int) = ((64 : Nat) : Int) from rfl, pU, p9, cC (a := (((n - 1 - j) / 64 : Nat) : Int)) (by omega) (by omega)]
      simp only [aX, aIf hN hp hp, Option.bind_some, b1, b2, b3]
      have hdiv : e / 2 ^ (n - (j + 1)) / 2 = e / 2 ^ (n - j) := by rw [Nat.div_div_eq_div_mul, show 2 ^ (n - (j + 1)) * 2 = 2 ^ (n - j) by rw [← Nat.pow_succ]; congr 1; omega]
      have key := aC3 a 115792089237316195423570985008687907853269984665640564039457584007913129603823 (e / 2 ^ (n - (j + 1)))
      rw [hdiv] at key
      have hlt2 : (a ^ (e / 2 ^ (n - j)) % 115792089237316195423570985008687907853269984665640564039457584007913129603823) * (a ^ (e / 2 ^ (n - j)) % 115792089237316195423570985008687907853269984665640564039457584007913129603823) % 115792089237316195423570985008687907853269984665640564039457584007913129603823 < 115792089237316195423570985008687907853269984665640564039457584007913129639936 := Nat.lt_of_lt_of_le (Nat.mod_lt _ (by omega)) (by omega)
      rw [show n - 1 - j = n - (j + 1) by omega]
      by_cases hb : e / 2 ^ (n - (j + 1)) % 2 = 1
      · rw [decide_eq_true hb, if_pos rfl, aIf hN hlt2 ha]
        rw [if_pos hb] at key
        simp only [Option.bind_some, aX, pI, i1 (show j ≤ 100000 by omega), key]
        exact aC8 ha he hn m (j + 1) (by omega) (by omega)
      · rw [decide_eq_false hb]
        rw [if_neg hb, Nat.mul_one, Nat.mod_mod] at key
        simp only [Bool.false_eq_true, if_false, pI, i1 (show j ≤ 100000 by omega), key]
        exact aC8 ha he hn m (j + 1) (by omega) (by omega)
    · obtain rfl : j = n := by omega
      rw [dF h, Nat.sub_self, Nat.pow_zero, Nat.div_one]
      rfl
theorem aCs {a e : Nat} (ha : a < 115792089237316195423570985008687907853269984665640564039457584007913129639936) (he : e < 115792089237316195423570985008687907853269984665640564039457584007913129639936) : rW N (U a) (U e) = some (U (a ^ e % 115792089237316195423570985008687907853269984665640564039457584007913129603823)) := by
  obtain ⟨n, h1, h2, h3⟩ := aOv hN he
  have h4 := aC8 hN ha he h1 N 0 (by omega) (by omega)
  rw [Nat.sub_zero, Nat.div_eq_of_lt h2, Nat.pow_zero, show 1 % 115792089237316195423570985008687907853269984665640564039457584007913129603823 = 1 from rfl, show ((0 : Nat) : Int) = 0 from rfl] at h4
  have hU1 : ([1, 0, 0, 0] : List Int) = U 1 := by decide +kernel
  simp only [rW, eH, hU1, aX, h3, Option.bind_some, h4, vU]
end
end Go.Proofs.YtnoklhehodlkaaaGreatDoor
set_option linter.unusedSimpArgs false
set_option linter.unusedVariables false
set_option linter.unusedSectionVars false
namespace Go.Proofs.YtnoklhehodlkaaaGreatDoor
open Go Go.Vm
theorem aI3 {k : Nat} (h : k ≤ 1) : ((k : Int) == 1) = ((k : Int) != 0) := by
  rcases (by omega : k = 0 ∨ k = 1) with rfl | rfl <;> rfl
theorem aIK (N : Nat) (a b : List Int) : ∀ (m : Nat) (c x : Int) (l : List Int), mI N a b m c x l = iA N a b m c x l
  | 0, _, _, _ => rfl
  | m + 1, c, x, l => by simp only [mI, iA, aIK N a b m]
theorem aI8 (N : Nat) (a b : List Int) : ∀ (m : Nat) (c x : Int) (l : List Int), mG N a b m c x l = iB N a b m c x l
  | 0, _, _, _ => rfl
  | m + 1, c, x, l => by simp only [mG, iB, aI8 N a b m]
theorem aJw (N : Nat) (a b : List Int) : ∀ (m : Nat) (x : Int), mT N a b m x = kO N a b m x
  | 0, _ => rfl
  | m + 1, x => by simp only [mT, kO, aJw N a b m]
theorem aIi (N : Nat) (a b : List Int) : pP N a b = lL N a b := by
  unfold pP lL
  rw [aJw]
  rfl
theorem aL3 {N : Nat} (hN : 70000 ≤ N) {a0 a1 a2 a3 b0 b1 b2 b3 : Nat} (ha0 : a0 < 18446744073709551616) (ha1 : a1 < 18446744073709551616) (ha2 : a2 < 18446744073709551616) (ha3 : a3 < 18446744073709551616) (hb0 : b0 < 18446744073709551616) (hb1 : b1 < 18446744073709551616) (hb2 : b2 < 18446744073709551616) (hb3 : b3 < 18446744073709551616) :
    r8 N (w4 a0 a1 a2 a3) (w4 b0 b1 b2 b3) = rS N (w4 a0 a1 a2 a3) (w4 b0 b1 b2 b3) := by
  obtain ⟨s0, k0, e0, f0, g0, l0⟩ := oS ha0 hb0 (Nat.zero_le 1)
  obtain ⟨s1, k1, e1, f1, g1, l1⟩ := oS ha1 hb1 l0
  obtain ⟨s2, k2, e2, f2, g2, l2⟩ := oS ha2 hb2 l1
  obtain ⟨s3, k3, e3, f3, g3, l3⟩ := oS ha3 hb3 l2
  obtain ⟨m, hm⟩ := rA (fun q => iA N (w4 a0 a1 a2 a3) (w4 b0 b1 b2 b3) q 0 0 (List.replicate 4 0)) hN
  unfold r8 rS
  rw [aIK, hm]
  have e0' : o5 (a0 : Int) (b0 : Int) 0 = some ((s0 : Int), (k0 : Int)) := e0
  simp only [iA, cV, a40, a41, a42, a43, q40, q41, q42, q43, t40, t41, t42, t43, r40, i01, i12, i23, i34, d04, d14, d24, d34, d44, if_true, Bool.false_eq_true, if_false, Option.bind_some, e0', e1, e2, e3, tK, uZ, aI3 l3]
theorem aJu {N : Nat} (hN : 70000 ≤ N) {a b : Nat} (ha : a < 115792089237316195423570985008687907853269984665640564039457584007913129639936) (hb : b < 115792089237316195423570985008687907853269984665640564039457584007913129639936) : r8 N (U a) (U b) = some (U ((a + b) % 115792089237316195423570985008687907853269984665640564039457584007913129639936), decide (115792089237316195423570985008687907853269984665640564039457584007913129639936 ≤ a + b)) := by
  obtain ⟨a0, a1, a2, a3, x0, x1, x2, x3, ea, va⟩ := vT ha
  obtain ⟨b0, b1, b2, b3, y0, y1, y2, y3, eb, vb⟩ := vT hb
  rw [← aK8 hN ha hb, ea, eb]
  exact aL3 hN x0 x1 x2 x3 y0 y1 y2 y3
theorem aLR {N : Nat} (hN : 70000 ≤ N) {a0 a1 a2 a3 b0 b1 b2 b3 : Nat} (ha0 : a0 < 18446744073709551616) (ha1 : a1 < 18446744073709551616) (ha2 : a2 < 18446744073709551616) (ha3 : a3 < 18446744073709551616) (hb0 : b0 < 18446744073709551616) (hb1 : b1 < 18446744073709551616) (hb2 : b2 < 18446744073709551616) (hb3 : b3 < 18446744073709551616) :
    pQ N (w4 a0 a1 a2 a3) (w4 b0 b1 b2 b3) = oM N (w4 a0 a1 a2 a3) (w4 b0 b1 b2 b3) := by
  obtain ⟨s0, k0, e0, f0, g0, l0⟩ := rT ha0 hb0 (Nat.zero_le 1)
  obtain ⟨s1, k1, e1, f1, g1, l1⟩ := rT ha1 hb1 l0
  obtain ⟨s2, k2, e2, f2, g2, l2⟩ := rT ha2 hb2 l1
  obtain ⟨s3, k3, e3, f3, g3, l3⟩ := rT ha3 hb3 l2
  obtain ⟨m, hm⟩ := rA (fun q => iB N (w4 a0 a1 a2 a3) (w4 b0 b1 b2 b3) q 0 0 (List.replicate 4 0)) hN
  unfold pQ oM
  rw [aI8, hm]
  have e0' : aAH (a0 : Int) (b0 : Int) 0 = some ((s0 : Int), (k0 : Int)) := e0
  simp only [iB, nR, a40, a41, a42, a43, q40, q41, q42, q43, t40, t41, t42, t43, r40, i01, i12, i23, i34, d04, d14, d24, d34, d44, if_true, Bool.false_eq_true, if_false, Option.bind_some, e0', e1, e2, e3, tV, u3, aI3 l3]
theorem aFX {N : Nat} (hN : 70000 ≤ N) {a b : Nat} (ha : a < 115792089237316195423570985008687907853269984665640564039457584007913129639936) (hb : b < 115792089237316195423570985008687907853269984665640564039457584007913129639936) : pQ N (U a) (U b) = some (U ((a + 115792089237316195423570985008687907853269984665640564039457584007913129639936 - b) % 115792089237316195423570985008687907853269984665640564039457584007913129639936), decide (a < b)) := by
  obtain ⟨a0, a1, a2, a3, x0, x1, x2, x3, ea, va⟩ := vT ha
  obtain ⟨b0, b1, b2, b3, y0, y1, y2, y3, eb, vb⟩ := vT hb
  rw [← aCn hN ha hb, ea, eb]
  exact aLR hN x0 x1 x2 x3 y0 y1 y2 y3
theorem aDS {N e : Nat} (he : e < 115792089237316195423570985008687907853269984665640564039457584007913129639936) {j : Nat} (hj : j < 256) : kW N (U e) (j : Int) = some (decide (e / 2 ^ j % 2 = 1)) := by
  obtain ⟨x, y, h1, h2, h3⟩ := aLb he hj
  have hd : Int.tdiv (j : Int) 64 = ((j / 64 : Nat) : Int) := pU j 64
  have hm : Int.tmod (j : Int) 64 = ((j % 64 : Nat) : Int) := p9 j 64
  unfold kW
  rw [hd, hm, cC (by omega) (by omega), h1]
  simp only [Option.bind_some, h2, h3]
theorem aAu {N n : Nat} (hn : n < 115792089237316195423570985008687907853269984665640564039457584007913129639936) : lR N (U n) = some (decide (n = 0)) := by
  unfold lR
  rw [aX]
  simp only [Option.bind_some]
  rw [← tZ, aAT hn (by omega)]
theorem aFk {N e : Nat} (he : e < 115792089237316195423570985008687907853269984665640564039457584007913129639936) : ∀ (f k : Nat), k < f → k ≤ 256 → e < 2 ^ k → ∃ n : Nat, n ≤ 256 ∧ e < 2 ^ n ∧ ((mS N (U e) f ((k : Int) - 1)).bind fun q => match q with | .ret v => some v | .brk _ => uU N) = some (n : Int)
  | f + 1, 0, _, _, h => by
    refine ⟨0, by omega, h, ?_⟩
    rfl
  | f + 1, k + 1, hf, hk, h => by
    unfold mS
    rw [show (((k + 1 : Nat) : Int) - 1) = (k : Int) by omega, if_pos (decide_eq_true (by omega)), aX]
    simp only [Option.bind_some]
    rw [aDS he (by omega)]
    simp only [Option.bind_some]
    by_cases hb : e / 2 ^ k % 2 = 1
    · rw [if_pos (decide_eq_true hb)]
      refine ⟨k + 1, by omega, h, ?_⟩
      simp only [Option.bind_some]
      rw [cC (by omega) (by omega)]
      rfl
    · rw [if_neg (by simpa using hb), cC (by omega) (by omega)]
      refine aFk he f k (by omega) (by omega) ?_
      have h1 : e / 2 ^ k < 2 := by
        rw [Nat.div_lt_iff_lt_mul (Nat.pow_pos (by omega))]
        rw [Nat.pow_succ] at h
        omega
      have h2 : e / 2 ^ k = 0 := by revert h1 hb; generalize e / 2 ^ k = q; intro h1 hb; omega
      exact (Nat.div_eq_zero_iff.1 h2).resolve_left (by have := Nat.pow_pos (n := k) (show 0 < 2 by omega); omega)
theorem aNB {N e : Nat} (hN : 70000 ≤ N) (he : e < 115792089237316195423570985008687907853269984665640564039457584007913129639936) : ∃ n : Nat, n ≤ 256 ∧ e < 2 ^ n ∧ aAa N (U e) = some (n : Int) := by
  obtain ⟨n, h1, h2, h3⟩ := aFk (N := N) he N 256 (by omega) (by omega) (by rw [aAx]; exact he)
  exact ⟨n, h1, h2, h3⟩
end Go.Proofs.YtnoklhehodlkaaaGreatDoor
set_option linter.unusedSimpArgs false
set_option linter.unusedVariables false
set_option linter.unusedSectionVars false
namespace Go.Proofs.YtnoklhehodlkaaaGreatDoor
open Go Go.Vm
theorem aIA (x y c : Int) : o5 x y c = o5 y x c := by
  unfold o5
  rw [Nat.add_comm x.toNat y.toNat]
theorem aHS (N : Nat) (a b : List Int) (i : Int) : ∀ (m : Nat) (c x : Int) (l : List Int), mP N a b i m c x l = b8 N a b i m c x l
  | 0, _, _, _ => rfl
  | m + 1, c, x, l => by
    unfold mP b8
    simp only [aHS N a b i m, cV]
    split
    · refine congrArg _ (funext fun p => congrArg _ (funext fun q => congrArg _ (funext fun r => congrArg _ (funext fun t => ?_))))
      rw [aIA t r.2 0]
    · rfl
theorem aHU (N : Nat) (a b : List Int) : ∀ (m : Nat) (x : Int) (l : List Int), jH N a b m x l = iE N a b m x l
  | 0, _, _ => rfl
  | m + 1, x, l => by
    unfold jH iE
    simp only [aHS, vP, uW, tX, tQ, aHU N a b m]
theorem aMB (N : Nat) (l : List Int) : sC N l = t0 N l := by
  by_cases h : l.length = 8
  · match l, h with
    | [a, b, c, d, e, f, g, h], _ => rfl
  · unfold sC t0
    simp only [aR, if_neg h, Option.bind_none]
theorem aO1 (N : Nat) (a b : List Int) : xP N a b = uG N a b := by
  unfold xP uG
  rw [aHU]
  exact congrArg _ (funext fun l => aMB N l)
theorem aM3 {n : Nat} (h2 : n % 2 = 0) (hn : n < 115792089237316195423570985008687907853269984665640564039457584007913129639936) : ∃ x : Int, aW 4 (U n) 0 = some x ∧ (U n).set (Int.toNat 0) (bits .or .u64 x 1) = U (n + 1) := by
  refine ⟨_, rfl, ?_⟩
  have h1 : bits .or .u64 ((n % 18446744073709551616 : Nat) : Int) 1 = (((n + 1) % 18446744073709551616 : Nat) : Int) := by
    rw [show (1 : Int) = ((1 : Nat) : Int) from rfl, l5 (k := .u64) rfl _ 1 (show n % 18446744073709551616 < 2 ^ 64 by omega) (by decide)]
    congr 1
    have h3 : n % 18446744073709551616 = 2 * (n % 18446744073709551616 / 2) := by omega
    rw [h3, show 2 * (n % 18446744073709551616 / 2) ||| 1 = 2 * (n % 18446744073709551616 / 2) + 1 from by
      have := Nat.two_pow_add_eq_or_of_lt (i := 1) (b := 1) (by decide) (n % 18446744073709551616 / 2)
      simpa using this.symm]
    omega
  show [bits .or .u64 ((n % 18446744073709551616 : Nat) : Int) 1, ((n / 18446744073709551616 % 18446744073709551616 : Nat) : Int), ((n / 340282366920938463463374607431768211456 % 18446744073709551616 : Nat) : Int), ((n / 6277101735386680763835789423207666416102355444464034512896 % 18446744073709551616 : Nat) : Int)] = U (n + 1)
  rw [h1]
  unfold U w4
  rw [show (n + 1) / 18446744073709551616 = n / 18446744073709551616 by omega, show (n + 1) / 340282366920938463463374607431768211456 = n / 340282366920938463463374607431768211456 by omega, show (n + 1) / 6277101735386680763835789423207666416102355444464034512896 = n / 6277101735386680763835789423207666416102355444464034512896 by omega]
section
variable {N : Nat} (hN : 70000 ≤ N) {b : Nat} (hb : b < 115792089237316195423570985008687907853269984665640564039457584007913129639936) (hb0 : 0 < b)
include hN hb hb0
theorem aOX {q : List Int} (hq : q.length = 4) {k : Nat} (hk : k < 256) : ∃ x y : Int, aW 4 q (IntKind.i64.wrap (Int.tdiv (k : Int) 64)) = some x ∧ shl .u64 1 (Int.tmod (k : Int) 64) = some y := by
  have hd : Int.tdiv (k : Int) 64 = ((k / 64 : Nat) : Int) := pU k 64
  have hm : Int.tmod (k : Int) 64 = ((k % 64 : Nat) : Int) := p9 k 64
  rw [hd, hm, cC (by omega) (by omega)]
  refine ⟨q[k / 64]'(by omega), _, ?_, uL (k := .u64) rfl 1 (k % 64)⟩
  unfold aW
  rw [if_pos (show ((k / 64 : Nat) : Int) < ((4 : Nat) : Int) by omega)]
  exact eY q (by omega)
theorem aEZ {lo : Nat} (hlo : lo < 115792089237316195423570985008687907853269984665640564039457584007913129639936) : ∀ (f k r : Nat) (q : List Int), k < f → k ≤ 256 → r < b → q.length = 4 → ∃ q', q'.length = 4 ∧ dR N (U lo) (U b) f ((k : Int) - 1) q (U r) = some (q', U ((r * 2 ^ k + lo % 2 ^ k) % b))
  | f + 1, 0, r, q, _, _, hr, hq => by
    refine ⟨q, hq, ?_⟩
    rw [show (r * 2 ^ 0 + lo % 2 ^ 0) % b = r by rw [Nat.pow_zero, Nat.mod_one]; simpa using Nat.mod_eq_of_lt hr]
    rfl
  | f + 1, k + 1, r, q, hf, hk, hr, hq => by
    have key : ∀ t : Nat, t ≤ 1 → lo / 2 ^ k % 2 = t → ∀ q1 : List Int, q1.length = 4 → ∃ q', q'.length = 4 ∧ dR N (U lo) (U b) f ((k : Int) - 1) q1 (U ((2 * r + t) % b)) = some (q', U ((r * 2 ^ (k + 1) + lo % 2 ^ (k + 1)) % b)) := by
      intro t ht hbit q1 hq1
      obtain ⟨q', h1, h2⟩ := aEZ hlo f k ((2 * r + t) % b) q1 (by omega) (by omega) (Nat.mod_lt _ hb0) hq1
      refine ⟨q', h1, ?_⟩
      rw [h2, aDf, show lo % 2 ^ (k + 1) = t * 2 ^ k + lo % 2 ^ k from by rw [Nat.pow_succ, Nat.mod_mul, hbit, Nat.add_comm, Nat.mul_comm], show r * 2 ^ (k + 1) + (t * 2 ^ k + lo % 2 ^ k) = (2 * r + t) * 2 ^ k + lo % 2 ^ k from by rw [Nat.pow_succ, Nat.add_mul, Nat.mul_comm (2 ^ k) 2, ← Nat.mul_assoc, Nat.mul_comm r 2, Nat.add_assoc]]
    have hr4 : r < 115792089237316195423570985008687907853269984665640564039457584007913129639936 := by omega
    have fin : ∀ t : Nat, t ≤ 1 → lo / 2 ^ k % 2 = t → ∃ q', q'.length = 4 ∧ pD N (U lo) (U b) (k : Int) q (decide (r / 2 ^ 255 % 2 = 1)) (dR N (U lo) (U b) f) (U ((2 * r + t) % 115792089237316195423570985008687907853269984665640564039457584007913129639936)) = some (q', U ((r * 2 ^ (k + 1) + lo % 2 ^ (k + 1)) % b)) := by
      intro t ht hbit
      have hx : (2 * r + t) % 115792089237316195423570985008687907853269984665640564039457584007913129639936 < 115792089237316195423570985008687907853269984665640564039457584007913129639936 := Nat.mod_lt _ (by omega)
      obtain ⟨y, z, e1, e2⟩ := aOX hN hb hb0 hq (show k < 256 by omega)
      have sub : ∀ (h : 115792089237316195423570985008687907853269984665640564039457584007913129639936 ≤ 2 * r + t ∨ b ≤ 2 * r + t), ∃ q', q'.length = 4 ∧ mX N (U lo) (U b) (k : Int) q (U ((2 * r + t) % 115792089237316195423570985008687907853269984665640564039457584007913129639936)) (dR N (U lo) (U b) f) true = some (q', U ((r * 2 ^ (k + 1) + lo % 2 ^ (k + 1)) % b)) := by
        intro h
        have hb2 : b ≤ 2 * r + t := by omega
        have hm : (2 * r + t) % b = 2 * r + t - b := by rw [Nat.mod_eq_sub_mod hb2, Nat.mod_eq_of_lt (by omega)]
        have hs : ((2 * r + t) % 115792089237316195423570985008687907853269984665640564039457584007913129639936 + 115792089237316195423570985008687907853269984665640564039457584007913129639936 - b) % 115792089237316195423570985008687907853269984665640564039457584007913129639936 = (2 * r + t) % b := by rw [hm]; omega
        unfold mX
        rw [if_pos rfl, aX, Option.bind_some, aFX hN hx hb, Option.bind_some, hs]
        simp only [aX, Option.bind_some, e1, e2, pJ]
        rw [cC (by omega) (by omega)]
        exact key t ht hbit _ (by rw [List.length_set]; exact hq)
      unfold pD
      by_cases ho : r / 2 ^ 255 % 2 = 1
      · rw [if_pos (decide_eq_true ho)]
        exact sub (.inl (by omega))
      · rw [if_neg (by simpa using ho), aX, Option.bind_some, aIi, vI hN hx hb, Option.bind_some, aDy]
        have hnw : 2 * r + t < 115792089237316195423570985008687907853269984665640564039457584007913129639936 := by omega
        by_cases hc : b ≤ (2 * r + t) % 115792089237316195423570985008687907853269984665640564039457584007913129639936
        · rw [decide_eq_true hc]
          exact sub (.inr (by omega))
        · rw [decide_eq_false hc]
          rw [Nat.mod_eq_of_lt hnw] at hc ⊢
          unfold mX
          simp only [Bool.false_eq_true, if_false, pJ]
          rw [cC (by omega) (by omega)]
          have := key t ht hbit q hq
          rwa [Nat.mod_eq_of_lt (show 2 * r + t < b by omega)] at this
    have h255 : kW N (U r) 255 = some (decide (r / 2 ^ 255 % 2 = 1)) := aDS (j := 255) hr4 (by omega)
    unfold dR
    rw [show (((k + 1 : Nat) : Int) - 1) = (k : Int) by omega, if_pos (decide_eq_true (by omega)), aX, Option.bind_some, h255, Option.bind_some, aJu hN hr4 hr4, Option.bind_some]
    simp only [aX, Option.bind_some]
    rw [aDS hlo (show k < 256 by omega), Option.bind_some, show r + r = 2 * r by omega]
    by_cases hbit : lo / 2 ^ k % 2 = 1
    · rw [if_pos (decide_eq_true hbit)]
      obtain ⟨x, h1, h2⟩ := aM3 (n := 2 * r % 115792089237316195423570985008687907853269984665640564039457584007913129639936) (by omega) (by omega)
      rw [h1, Option.bind_some, h2, show 2 * r % 115792089237316195423570985008687907853269984665640564039457584007913129639936 + 1 = (2 * r + 1) % 115792089237316195423570985008687907853269984665640564039457584007913129639936 by omega]
      exact fin 1 (by omega) hbit
    · rw [if_neg (by simpa using hbit)]
      exact fin 0 (by omega) (by omega)
theorem aJv {hi lo : Nat} (hh : hi < b) (hl : lo < 115792089237316195423570985008687907853269984665640564039457584007913129639936) : ∃ q', q'.length = 4 ∧ uM N (U hi) (U lo) (U b) = some (q', U ((hi * 115792089237316195423570985008687907853269984665640564039457584007913129639936 + lo) % b), true) := by
  obtain ⟨q', h1, h2⟩ := aEZ hN hb hb0 hl N 256 hi (List.replicate 4 0) (by omega) (by omega) hh rfl
  refine ⟨q', h1, ?_⟩
  rw [aAx, Nat.mod_eq_of_lt hl] at h2
  unfold uM
  rw [aX, Option.bind_some, aX, Option.bind_some, aIi, vI hN hb (by omega), Option.bind_some, aLl, decide_eq_false (by omega)]
  simp only [Bool.false_eq_true, if_false]
  rw [show dR N (U lo) (U b) N 255 (List.replicate 4 0) (U hi) = _ from h2, Option.bind_some]
  simp only [u5, sV h1, aX, Option.bind_some]
theorem xE {a : Nat} (ha : a < 115792089237316195423570985008687907853269984665640564039457584007913129639936) : jK N (U a) (U b) = some (U (a % b)) := by
  obtain ⟨q', h1, h2⟩ := aJv hN hb hb0 (hi := 0) hb0 ha
  rw [Nat.zero_mul, Nat.zero_add] at h2
  unfold jK
  rw [aX, Option.bind_some, aX, Option.bind_some, ← tZ, h2, Option.bind_some]
  simp only [sV h1, aX, Option.bind_some]
theorem aBP {x y : Nat} (hx : x < 115792089237316195423570985008687907853269984665640564039457584007913129639936) (hy : y < 115792089237316195423570985008687907853269984665640564039457584007913129639936) : mQ N (U x) (U y) (U b) = some (U (x * y % b)) := by
  have hxb : x % b < b := Nat.mod_lt _ hb0
  have hyb : y % b < b := Nat.mod_lt _ hb0
  have hp : x % b * (y % b) / 115792089237316195423570985008687907853269984665640564039457584007913129639936 < b := by
    rw [Nat.div_lt_iff_lt_mul (by omega)]
    exact Nat.lt_of_lt_of_le (Nat.mul_lt_mul_of_lt_of_lt hxb hyb) (Nat.mul_le_mul_left _ (by omega))
  obtain ⟨q', h1, h2⟩ := aJv hN hb hb0 hp (Nat.mod_lt (x % b * (y % b)) (show 0 < 115792089237316195423570985008687907853269984665640564039457584007913129639936 by omega))
  rw [Nat.mul_comm (x % b * (y % b) / _), Nat.div_add_mod, ← Nat.mul_mod] at h2
  unfold mQ
  rw [aX, Option.bind_some, aAu hb, Option.bind_some, decide_eq_false (by omega)]
  simp only [Bool.false_eq_true, if_false, aX, Option.bind_some, xE hN hb hb0 hx, xE hN hb hb0 hy, aO1, aLo hN (show x % b < 115792089237316195423570985008687907853269984665640564039457584007913129639936 by omega) (show y % b < 115792089237316195423570985008687907853269984665640564039457584007913129639936 by omega), h2, sV h1]
theorem aJt {x y : Nat} (hx : x < 115792089237316195423570985008687907853269984665640564039457584007913129639936) (hy : y < 115792089237316195423570985008687907853269984665640564039457584007913129639936) : rO N (U x) (U y) (U b) = some (U ((x + y) % b)) := by
  have hxb : x % b < b := Nat.mod_lt _ hb0
  have hyb : y % b < b := Nat.mod_lt _ hb0
  have hs := Nat.add_mod x y b
  unfold rO
  rw [aX, Option.bind_some, aAu hb, Option.bind_some, decide_eq_false (by omega)]
  simp only [Bool.false_eq_true, if_false, aX, Option.bind_some, xE hN hb hb0 hx, xE hN hb hb0 hy, aJu hN (show x % b < 115792089237316195423570985008687907853269984665640564039457584007913129639936 by omega) (show y % b < 115792089237316195423570985008687907853269984665640564039457584007913129639936 by omega)]
  have sub : b ≤ x % b + y % b → jU N (U b) (U ((x % b + y % b) % 115792089237316195423570985008687907853269984665640564039457584007913129639936), decide (115792089237316195423570985008687907853269984665640564039457584007913129639936 ≤ x % b + y % b)) true = some (U ((x + y) % b)) := by
    intro h
    have hm : (x + y) % b = x % b + y % b - b := by rw [hs, Nat.mod_eq_sub_mod h, Nat.mod_eq_of_lt (by omega)]
    unfold jU
    rw [if_pos rfl, aFX hN (Nat.mod_lt _ (by omega)) hb, Option.bind_some]
    simp only [aX, Option.bind_some, lE]
    rw [hm]
    congr 2
    omega
  by_cases ho : 115792089237316195423570985008687907853269984665640564039457584007913129639936 ≤ x % b + y % b
  · rw [if_pos (decide_eq_true ho)]
    exact sub (by omega)
  · rw [if_neg (by simpa using ho), aIi, vI hN (Nat.mod_lt _ (by omega)) hb, Option.bind_some, aDy]
    by_cases hc : b ≤ (x % b + y % b) % 115792089237316195423570985008687907853269984665640564039457584007913129639936
    · rw [decide_eq_true hc]
      exact sub (by omega)
    · rw [decide_eq_false hc]
      unfold jU
      simp only [Bool.false_eq_true, if_false, aX, Option.bind_some, lE]
      rw [hs, Nat.mod_eq_of_lt (show x % b + y % b < 115792089237316195423570985008687907853269984665640564039457584007913129639936 by omega), Nat.mod_eq_of_lt (show x % b + y % b < b by omega)]
end
end Go.Proofs.YtnoklhehodlkaaaGreatDoor
set_option linter.unusedSimpArgs false
set_option linter.unusedVariables false
set_option linter.unusedSectionVars false
namespace Go.Proofs.YtnoklhehodlkaaaGreatDoor
open Go Go.Vm
section
variable {N : Nat} (hN : 70000 ≤ N) {b : Nat} (hb : b < 115792089237316195423570985008687907853269984665640564039457584007913129639936) (hb0 : 0 < b)
include hN hb hb0
theorem aFq {a e : Nat} (ha : a < 115792089237316195423570985008687907853269984665640564039457584007913129639936) (he : e < 115792089237316195423570985008687907853269984665640564039457584007913129639936) : ∀ (f k : Nat), k < f → k ≤ 256 → fT N (U a) (U e) (U b) f ((k : Int) - 1) (U (a ^ (e / 2 ^ k) % b)) = some (U (a ^ e % b))
  | f + 1, 0, _, _ => by rw [Nat.pow_zero, Nat.div_one]; rfl
  | f + 1, k + 1, hf, hk => by
    have ih := aFq ha he f k (by omega) (by omega)
    have hs := aC3 a b (e / 2 ^ k)
    have hd : e / 2 ^ (k + 1) = e / 2 ^ k / 2 := by rw [Nat.pow_succ, Nat.div_div_eq_div_mul]
    rw [hd]
    generalize hT : a ^ (e / 2 ^ k / 2) % b = T at *
    have hTb : T < b := hT ▸ Nat.mod_lt _ hb0
    have hTT : T * T % b < b := Nat.mod_lt _ hb0
    unfold fT
    rw [show (((k + 1 : Nat) : Int) - 1) = (k : Int) by omega, if_pos (decide_eq_true (by omega)), aX, Option.bind_some, aBP hN hb hb0 (show T < 115792089237316195423570985008687907853269984665640564039457584007913129639936 by omega) (show T < 115792089237316195423570985008687907853269984665640564039457584007913129639936 by omega), Option.bind_some, aX, Option.bind_some, aDS he (show k < 256 by omega), Option.bind_some]
    by_cases hbit : e / 2 ^ k % 2 = 1
    · rw [if_pos hbit] at hs
      rw [if_pos (decide_eq_true hbit), aX, Option.bind_some, aBP hN hb hb0 (show T * T % b < 115792089237316195423570985008687907853269984665640564039457584007913129639936 by omega) ha, Option.bind_some, aX, Option.bind_some, hs]
      unfold lJ
      rw [cC (by omega) (by omega)]
      exact ih
    · rw [if_neg hbit, Nat.mul_one, Nat.mod_mod] at hs
      rw [if_neg (by simpa using hbit), hs]
      unfold lJ
      rw [cC (by omega) (by omega)]
      exact ih
theorem aJg {a e : Nat} (ha : a < 115792089237316195423570985008687907853269984665640564039457584007913129639936) (he : e < 115792089237316195423570985008687907853269984665640564039457584007913129639936) : rX N (U a) (U e) (U b) = some (U (a ^ e % b)) := by
  obtain ⟨n, h1, h2, h3⟩ := aNB hN he
  have hl := aFq hN hb hb0 ha he N n (by omega) h1
  rw [Nat.div_eq_of_lt h2, Nat.pow_zero] at hl
  unfold rX
  rw [aX, Option.bind_some, aAu hb, Option.bind_some, decide_eq_false (by omega)]
  simp only [Bool.false_eq_true, if_false]
  rw [show gV N 1 = some (U 1) from rfl, Option.bind_some, xE hN hb hb0 (by omega), Option.bind_some, aX, Option.bind_some, aX, Option.bind_some, h3, Option.bind_some, cC (by omega) (by omega), hl, Option.bind_some]
  rfl
end
section
variable {N : Nat} (hN : 70000 ≤ N)
theorem aHN (N : Nat) (hN : 70000 ≤ N) : nJ N = some (U 115792089237316195423570985008687907853269984665640564039457584007913129603823) := by
  unfold nJ
  rw [show gV N 36113 = some (U 36113) from rfl, Option.bind_some, ← tZ, aFX hN (by omega) (by omega), Option.bind_some, aX, Option.bind_some]
theorem aG1 (N : Nat) (va : List Int) (n : Int) : ∀ (f f' : Nat) (i : Int) (l r : List Int), f ≤ f' → gG 0 va n f i l = some r → gG N va n f' i l = some r
  | 0, _, _, _, _, _, h => by cases h
  | f + 1, 0, _, _, _, hf, _ => by omega
  | f + 1, f' + 1, i, l, r, hf, h => by
    have ih := aG1 N va n f f'
    unfold gG at h ⊢
    split at h
    · rename_i hc
      rw [if_pos hc]
      obtain ⟨q, h1, h⟩ := Option.bind_eq_some_iff.1 h
      obtain ⟨x, h2, h⟩ := Option.bind_eq_some_iff.1 h
      rw [h1, Option.bind_some, show kW N va (IntKind.i64.wrap (i + n)) = some x from h2, Option.bind_some]
      split at h
      · rename_i hx
        rw [if_pos hx]
        obtain ⟨y, h3, h⟩ := Option.bind_eq_some_iff.1 h
        obtain ⟨z, h4, h⟩ := Option.bind_eq_some_iff.1 h
        rw [h3, Option.bind_some, h4, Option.bind_some]
        exact ih _ _ _ (by omega) h
      · rename_i hx
        rw [if_neg hx]
        exact ih _ _ _ (by omega) h
    · rename_i hc
      rw [if_neg hc]
      exact h
theorem aNF : gG 0 (U 115792089237316195423570985008687907853269984665640564039457584007913129603823) 1 300 0 (List.replicate 4 0) = some (U 57896044618658097711785492504343953926634992332820282019728792003956564801911) := by decide +kernel
theorem aEn (N : Nat) (hN : 70000 ≤ N) : oU N = some (U 57896044618658097711785492504343953926634992332820282019728792003956564801911) := by
  unfold oU
  rw [aHN N hN, Option.bind_some]
  unfold z9
  rw [if_neg (by decide), if_neg (by decide), aG1 N _ 1 300 N 0 _ _ (by omega) aNF, Option.bind_some]
  rfl
include hN
theorem aNR {a e : Nat} (ha : a < 115792089237316195423570985008687907853269984665640564039457584007913129639936) (he : e < 115792089237316195423570985008687907853269984665640564039457584007913129639936) : xJ N (U a) (U e) = some (U (a ^ e % 115792089237316195423570985008687907853269984665640564039457584007913129603823)) := by
  unfold xJ
  rw [aX, Option.bind_some, aX, Option.bind_some, aHN N hN, Option.bind_some, aJg hN (by omega) (by omega) ha he, Option.bind_some, aX, Option.bind_some]
theorem aGC {e : Nat} (he : e < 115792089237316195423570985008687907853269984665640564039457584007913129639936) : qO N (U e) = some (U (4 ^ e % 115792089237316195423570985008687907853269984665640564039457584007913129603823)) := by
  unfold qO
  rw [show gV N 4 = some (U 4) from rfl, Option.bind_some, aX, Option.bind_some, aNR hN (by omega) he, Option.bind_some, aX, Option.bind_some]
theorem aCa {a b : Nat} (ha : a < 115792089237316195423570985008687907853269984665640564039457584007913129639936) (hb : b < 115792089237316195423570985008687907853269984665640564039457584007913129639936) : lK N (U a) (U b) = some (U ((a + b) % 57896044618658097711785492504343953926634992332820282019728792003956564801911)) := by
  unfold lK
  rw [aX, Option.bind_some, aX, Option.bind_some, aEn N hN, Option.bind_some, aJt hN (by omega) (by omega) ha hb, Option.bind_some, aX, Option.bind_some]
theorem aGY {a b : Nat} (ha : a < 115792089237316195423570985008687907853269984665640564039457584007913129639936) (hb : b < 115792089237316195423570985008687907853269984665640564039457584007913129639936) : oA N (U a) (U b) = some (U (a * b % 57896044618658097711785492504343953926634992332820282019728792003956564801911)) := by
  unfold oA
  rw [aX, Option.bind_some, aX, Option.bind_some, aEn N hN, Option.bind_some, aBP hN (by omega) (by omega) ha hb, Option.bind_some, aX, Option.bind_some]
theorem aJm {x : Nat} (hx : x < 115792089237316195423570985008687907853269984665640564039457584007913129639936) : rK N (U x) = some (!decide (x = 0) && decide (x < 57896044618658097711785492504343953926634992332820282019728792003956564801911)) := by
  unfold rK
  rw [aX, Option.bind_some, aAu hx, Option.bind_some]
  by_cases h : x = 0
  · rw [decide_eq_true h]; rfl
  · rw [decide_eq_false h]
    simp only [Bool.not_false, if_true, Bool.true_and]
    rw [aEn N hN, Option.bind_some, aIi, vI hN hx (by omega), Option.bind_some, aH8]
    rfl
theorem aFl {x : Nat} (h0 : x ≠ 0) (hx : x < 57896044618658097711785492504343953926634992332820282019728792003956564801911) : o9 N (U x) = some (U (4 ^ x % 115792089237316195423570985008687907853269984665640564039457584007913129603823), 0) := by
  unfold o9
  rw [aX, Option.bind_some, aJm hN (by omega), Option.bind_some, decide_eq_false h0, decide_eq_true hx]
  simp only [Bool.not_false, Bool.and_self, Bool.not_true, Bool.false_eq_true, if_false]
  rw [aGC hN (by omega), Option.bind_some, aX, Option.bind_some]
end
end Go.Proofs.YtnoklhehodlkaaaGreatDoor
set_option linter.unusedSimpArgs false
set_option linter.unusedVariables false
set_option linter.unusedSectionVars false
namespace Go.Proofs.YtnoklhehodlkaaaGreatDoor
open Go Go.Vm
abbrev gP : Nat := 115792089237316195423570985008687907853269984665640564039457584007913129603823
abbrev gQ : Nat := 57896044618658097711785492504343953926634992332820282019728792003956564801911
def pm (a p : Nat) : Nat → Nat → Nat
  | 0, _ => 1 % p
  | k + 1, e => if e = 0 then 1 % p else pm a p k (e / 2) * pm a p k (e / 2) % p * (if e % 2 = 1 then a else 1) % p
theorem aHW (a p : Nat) : ∀ (k e : Nat), e < 2 ^ k → pm a p k e = a ^ e % p
  | 0, e, h => by
    obtain rfl : e = 0 := by simp at h; exact h
    rfl
  | k + 1, e, h => by
    unfold pm
    by_cases h0 : e = 0
    · rw [if_pos h0, h0]; rfl
    · rw [if_neg h0, aHW a p k (e / 2) (by rw [Nat.pow_succ] at h; omega)]
      exact aC3 a p e
def pm' (a p : Nat) : Nat → Nat → Nat
  | 0, _ => 1 % p
  | k + 1, e => if e = 0 then 1 % p else (fun t => t * t % p * (if e % 2 = 1 then a else 1) % p) (pm' a p k (e / 2))
theorem aF1 (a p : Nat) : ∀ (k e : Nat), pm' a p k e = pm a p k e
  | 0, _ => rfl
  | k + 1, e => by unfold pm' pm; simp only [aF1 a p k (e / 2)]
theorem aNt : 4 ^ gQ % gP = 1 := by
  rw [← aHW 4 gP 256 gQ (by decide +kernel), ← aF1]
  decide +kernel
theorem aGv (k : Nat) : 4 ^ (gQ * k) % gP = 1 := by
  rw [Nat.pow_mul, Nat.pow_mod, aNt, Nat.one_pow]
  exact Nat.mod_eq_of_lt (by decide)
theorem aC9 (a : Nat) : 4 ^ a % gP = 4 ^ (a % gQ) % gP := by
  conv => lhs; rw [← Nat.div_add_mod a gQ, Nat.pow_add, Nat.mul_mod, aGv, Nat.one_mul, Nat.mod_mod]
theorem aH1 {a b : Nat} (h : a % gQ = b % gQ) : 4 ^ a % gP = 4 ^ b % gP := by rw [aC9 a, aC9 b, h]
theorem aHM (x e : Nat) : (4 ^ x % gP) ^ e % gP = 4 ^ (x * e) % gP := by rw [← Nat.pow_mod, Nat.pow_mul]
theorem aLi (x : Nat) : (4 ^ x % gP) ^ gQ % gP = 1 := by rw [aHM, Nat.mul_comm, aGv]
theorem aMD (x : Nat) : 4 ^ x % gP ≠ 0 := by
  intro h
  have := aLi x
  rw [h] at this
  have h2 : (0 : Nat) ^ gQ = 0 := Nat.zero_pow (by decide)
  rw [h2] at this
  exact absurd this (by decide +kernel)
theorem aLN {k c x : Nat} (hc : c ≤ gQ) : (4 ^ ((k + c * x) % gQ) % gP) * ((4 ^ x % gP) ^ (gQ - c) % gP) % gP = 4 ^ k % gP := by
  rw [← aC9, aHM, ← Nat.mul_mod, ← Nat.pow_add]
  apply aH1
  have h1 : x * (gQ - c) = x * gQ - x * c := Nat.mul_sub ..
  have h2 : x * c ≤ x * gQ := Nat.mul_le_mul_left _ hc
  have h3 : k + c * x + x * (gQ - c) = k + gQ * x := by
    rw [h1, Nat.mul_comm c x, Nat.mul_comm gQ x]; omega
  rw [h3, Nat.add_mul_mod_self_left]
end Go.Proofs.YtnoklhehodlkaaaGreatDoor
set_option linter.unusedSimpArgs false
set_option linter.unusedVariables false
set_option linter.unusedSectionVars false
namespace Go.Proofs.YtnoklhehodlkaaaGreatDoor
open Go Go.Vm
theorem cQ {α : Type} {n : Nat} {l : List α} {i : Nat} (h : i < n) (hl : i < l.length) : aW n l (i : Int) = some l[i] := by
  unfold aW; rw [if_pos (by omega), eY l hl]
theorem cZ {α : Type} {n : Nat} {l : List α} (h : l.length = n) : aR n l = some l := by unfold aR; rw [if_pos h]
theorem t3 (N : Nat) (x n s : Int) (hs : bits .and .u64 (IntKind.u64.wrap (IntKind.i64.wrap (0 - n))) 31 = s) (h0 : 0 ≤ s) (h1 : s ≤ 32) : ∃ y, cN N x n = some y := by
  unfold cN iC
  rw [hs, uI (a := 32 - s) (by omega) (by omega)]
  unfold shl shr
  rw [if_neg (by omega), if_neg (by omega)]
  exact ⟨_, rfl⟩
def rv (N : Nat) (x n : Int) : Int := (cN N x n).getD 0
theorem w9 {N : Nat} {x n : Int} (h : ∃ y, cN N x n = some y) : cN N x n = some (rv N x n) := by obtain ⟨y, h⟩ := h; simp [rv, h]
theorem rv2 (N : Nat) (x : Int) : cN N x 2 = some (rv N x 2) := w9 (t3 N x 2 30 (by decide +kernel) (by omega) (by omega))
theorem rv6 (N : Nat) (x : Int) : cN N x 6 = some (rv N x 6) := w9 (t3 N x 6 26 (by decide +kernel) (by omega) (by omega))
theorem rv7 (N : Nat) (x : Int) : cN N x 7 = some (rv N x 7) := w9 (t3 N x 7 25 (by decide +kernel) (by omega) (by omega))
theorem aOZ (N : Nat) (x : Int) : cN N x 11 = some (rv N x 11) := w9 (t3 N x 11 21 (by decide +kernel) (by omega) (by omega))
theorem aO5 (N : Nat) (x : Int) : cN N x 13 = some (rv N x 13) := w9 (t3 N x 13 19 (by decide +kernel) (by omega) (by omega))
theorem aPg (N : Nat) (x : Int) : cN N x 17 = some (rv N x 17) := w9 (t3 N x 17 15 (by decide +kernel) (by omega) (by omega))
theorem aPx (N : Nat) (x : Int) : cN N x 18 = some (rv N x 18) := w9 (t3 N x 18 14 (by decide +kernel) (by omega) (by omega))
theorem aPE (N : Nat) (x : Int) : cN N x 19 = some (rv N x 19) := w9 (t3 N x 19 13 (by decide +kernel) (by omega) (by omega))
theorem aO2 (N : Nat) (x : Int) : cN N x 22 = some (rv N x 22) := w9 (t3 N x 22 10 (by decide +kernel) (by omega) (by omega))
theorem aPG (N : Nat) (x : Int) : cN N x 25 = some (rv N x 25) := w9 (t3 N x 25 7 (by decide +kernel) (by omega) (by omega))
theorem aON (x : Int) : shr .u32 x 3 = some (x.fdiv (2 ^ (min (3 : Int).toNat 32))) := by unfold shr; rw [if_neg (by omega)]; rfl
theorem aOq (x : Int) : shr .u32 x 10 = some (x.fdiv (2 ^ (min (10 : Int).toNat 32))) := by unfold shr; rw [if_neg (by omega)]; rfl
theorem sL3 (N : Nat) : ∀ (m j : Nat) (l : List Int), l.length = 64 → 16 ≤ j → j ≤ 64 → 64 - j < m → ∃ r, fV N m (j : Int) l = some r ∧ r.length = 64
  | 0, j, l, _, _, _, hm => by omega
  | m + 1, j, l, hl, h1, h2, hm => by
    rw [fV]
    by_cases h : j < 64
    · rw [show decide ((j : Int) < 64) = true from decide_eq_true (by omega), if_pos rfl]
      rw [cC (a := (j : Int) - 15) (by omega) (by omega), show (j : Int) - 15 = ((j - 15 : Nat) : Int) by omega, cQ (show j - 15 < 64 by omega) (by omega)]
      rw [cC (a := (j : Int) - 2) (by omega) (by omega), show (j : Int) - 2 = ((j - 2 : Nat) : Int) by omega, cQ (show j - 2 < 64 by omega) (by omega)]
      rw [cC (a := (j : Int) - 16) (by omega) (by omega), show (j : Int) - 16 = ((j - 16 : Nat) : Int) by omega, cQ (show j - 16 < 64 by omega) (by omega)]
      rw [cC (a := (j : Int) - 7) (by omega) (by omega), show (j : Int) - 7 = ((j - 7 : Nat) : Int) by omega, cQ (show j - 7 < 64 by omega) (by omega)]
      rw [cQ h (by omega)]
      simp only [Option.bind_some, rv7, aPx, aPg, aPE, aON, aOq, i1 (show j ≤ 100000 by omega)]
      exact sL3 N m (j + 1) _ (by rw [List.length_set]; exact hl) (by omega) (by omega) (by omega)
    · rw [show decide ((j : Int) < 64) = false from decide_eq_false (by omega)]
      exact ⟨l, rfl, hl⟩
theorem cL2 (N : Nat) (st w : List Int) (hw : w.length = 64) : ∀ (m j : Nat) (a b c d e f g h : Int), j ≤ 64 → 64 - j < m → ∃ r, fS N st w m a b c d e f g h (j : Int) = some r
  | 0, j, _, _, _, _, _, _, _, _, _, hm => by omega
  | m + 1, j, a, b, c, d, e, f, g, h, hj, hm => by
    rw [fS]
    by_cases h1 : j < 64
    · rw [show decide ((j : Int) < 64) = true from decide_eq_true (by omega), if_pos rfl, cQ h1 (show j < aAk.length from h1), cQ h1 (by omega)]
      simp only [Option.bind_some, rv2, rv6, aOZ, aO5, aO2, aPG, i1 (show j ≤ 100000 by omega)]
      exact cL2 N st w hw m (j + 1) _ _ _ _ _ _ _ _ (by omega) (by omega)
    · rw [show decide ((j : Int) < 64) = false from decide_eq_false (by omega)]
      exact ⟨_, rfl⟩
def wd (b : List Nat) (i : Nat) : Nat := ((b.getD (4 * i) 0 * 256 + b.getD (4 * i + 1) 0) * 256 + b.getD (4 * i + 2) 0) * 256 + b.getD (4 * i + 3) 0
theorem uR {b : List Nat} (h : ∀ x ∈ b, x < 256) (i : Nat) : b.getD i 0 < 256 := by
  rw [List.getD_eq_getElem?_getD]
  rcases Nat.lt_or_ge i b.length with hi | hi
  · rw [List.getElem?_eq_getElem hi]; exact h _ (List.getElem_mem hi)
  · rw [List.getElem?_eq_none hi]; simp
theorem aDE (a b k : Nat) (h : b < 2 ^ k) : a * 2 ^ k ||| b = a * 2 ^ k + b := by
  rw [Nat.mul_comm, ← Nat.two_pow_add_eq_or_of_lt h]
theorem orU (a b : Nat) (ha : a < 4294967296) (hb : b < 4294967296) : bits .or .u32 (a : Int) (b : Int) = ((a ||| b : Nat) : Int) := l5 rfl a b ha hb
theorem aNQ (a b : Nat) : shl .u32 (a : Int) (b : Int) = some ((a * 2 ^ b % 4294967296 : Nat) : Int) := uL rfl a b
theorem aBY {b : List Nat} {i : Nat} (hl : b.length = 64) (hi : i < 64) : aW 64 (iN b) (i : Int) = some ((b.getD i 0 : Nat) : Int) := by
  rw [cQ hi (by rw [aDB]; omega)]
  have h1 : i < b.length := by omega
  simp [iN, h1]
theorem aCk (n : Nat) (h : n < 4294967296) : IntKind.u32.wrap (n : Int) = n := aPb (by omega) (by omega)
def aAZ (b : List Nat) (j : Nat) (l : List Int) : List Int := (List.range' j (16 - j)).foldl (fun l i => l.set i ((wd b i : Nat) : Int)) l
theorem aIV (b : List Nat) (j : Nat) (l : List Int) : (aAZ b j l).length = l.length := by
  unfold aAZ
  generalize List.range' j (16 - j) = r
  induction r generalizing l with
  | nil => rfl
  | cons x r ih => rw [List.foldl_cons, ih, List.length_set]
section
variable (N : Nat) (b : List Nat) (hl : b.length = 64) (hb : ∀ x ∈ b, x < 256)
include hl hb
theorem sL6 (i : Nat) (hi : i < 16) (m j : Nat) (hj : j < 4) (l : List Int) (hll : l.length = 64) (v : Nat) (hv : v < 16777216) (hli : l[i]? = some (v : Int)) :
    c6 N (iN b) (i : Int) (m + 1) (j : Int) l = c6 N (iN b) (i : Int) m ((j + 1 : Nat) : Int) (l.set i ((v * 256 + b.getD (4 * i + j) 0 : Nat) : Int)) := by
  have hil : i < l.length := by omega
  have hbl := uR hb (4 * i + j)
  rw [c6, show decide ((j : Int) < 4) = true from decide_eq_true (by omega), if_pos rfl, cQ (show i < 64 by omega) hil]
  rw [List.getElem?_eq_getElem hil] at hli
  rw [Option.some.inj hli, cC (a := 4 * (i : Int)) (by omega) (by omega), cC (a := 4 * (i : Int) + (j : Int)) (by omega) (by omega), show 4 * (i : Int) + (j : Int) = ((4 * i + j : Nat) : Int) by omega, aBY hl (by omega)]
  rw [show (8 : Int) = ((8 : Nat) : Int) from rfl]
  simp only [Option.bind_some, aNQ, Int.toNat_natCast, i1 (show j ≤ 100000 by omega)]
  rw [aCk _ (by omega), orU _ _ (Nat.mod_lt _ (by omega)) (by omega), Nat.mod_eq_of_lt (by omega), aDE _ _ 8 (by omega)]
theorem aMS (i : Nat) (hi : i < 16) (l : List Int) (hll : l.length = 64) (hli : l[i]? = some 0) (hN : 10 ≤ N) : c6 N (iN b) (i : Int) N 0 l = some (l.set i ((wd b i : Nat) : Int)) := by
  have g0 := uR hb (4 * i)
  have g1 := uR hb (4 * i + 1)
  have g2 := uR hb (4 * i + 2)
  have hil : i < l.length := by omega
  obtain ⟨m, hm⟩ : ∃ m, N = m + 5 := ⟨N - 5, by omega⟩
  have hfu : ∀ k, c6 N (iN b) (i : Int) N k l = c6 N (iN b) (i : Int) (m + 1 + 1 + 1 + 1 + 1) k l := fun k => by
    have : N = m + 1 + 1 + 1 + 1 + 1 := by omega
    exact congrArg (fun q => c6 N (iN b) (i : Int) q k l) this
  rw [hfu, show (0 : Int) = ((0 : Nat) : Int) from rfl, sL6 N b hl hb i hi _ 0 (by omega) l hll 0 (by omega) hli]
  rw [sL6 N b hl hb i hi _ 1 (by omega) _ (by rw [List.length_set]; exact hll) (0 * 256 + b.getD (4 * i + 0) 0) (by simp only [Nat.add_zero]; omega) (List.getElem?_set_self hil), List.set_set]
  rw [sL6 N b hl hb i hi _ 2 (by omega) _ (by rw [List.length_set]; exact hll) _ (by simp only [Nat.add_zero]; omega) (List.getElem?_set_self hil), List.set_set]
  rw [sL6 N b hl hb i hi _ 3 (by omega) _ (by rw [List.length_set]; exact hll) _ (by simp only [Nat.add_zero]; omega) (List.getElem?_set_self hil), List.set_set]
  rw [c6]
  simp only [Nat.reduceAdd, show decide (((4 : Nat) : Int) < 4) = false from rfl, Bool.false_eq_true, if_false, wd, Nat.zero_mul, Nat.zero_add, Nat.add_zero]
omit hl hb in
theorem aEI {f : Nat → Int → List Int → Option (List Int)} (hs : ∀ (m j : Nat) (l : List Int), j < 16 → l.length = 64 → l[j]? = some 0 → f (m + 1) (j : Int) l = f m ((j + 1 : Nat) : Int) (l.set j ((wd b j : Nat) : Int))) (he : ∀ m l, f (m + 1) 16 l = some l) :
    ∀ (m j : Nat) (l : List Int), 16 - j < m → j ≤ 16 → l.length = 64 → (∀ i, j ≤ i → i < 64 → l[i]? = some 0) → f m (j : Int) l = some (aAZ b j l)
  | 0, j, l, hm, _, _, _ => by omega
  | m + 1, j, l, hm, hj, hll, hz => by
    by_cases h : j < 16
    · rw [hs m j l h hll (hz j (Nat.le_refl _) (by omega)), aEI hs he m (j + 1) _ (by omega) (by omega) (by rw [List.length_set]; exact hll) (fun i h1 h2 => by rw [List.getElem?_set_ne (by omega)]; exact hz i (by omega) h2)]
      unfold aAZ
      rw [show 16 - j = (16 - (j + 1)) + 1 by omega, List.range'_succ, List.foldl_cons]
    · obtain rfl : j = 16 := by omega
      exact he m l
theorem sL4 (hN : 70000 ≤ N) : eQ N (iN b) N 0 (List.replicate 64 0) = some (aAZ b 0 (List.replicate 64 0)) := by
  refine aEI b (f := eQ N (iN b)) (fun m j l hj hll hz => ?_) (fun m l => by rw [eQ]; rfl) N 0 _ (by omega) (by omega) (by simp) (fun i _ hi => by rw [List.getElem?_replicate, if_pos hi])
  rw [eQ, show decide ((j : Int) < 16) = true from decide_eq_true (by omega), if_pos rfl, aMS N b hl hb j hj l hll hz (by omega)]
  simp only [Option.bind_some, q8, i1 (show j ≤ 100000 by omega)]
end
section
variable (N : Nat) (hN : 70000 ≤ N) (b : List Nat) (hl : b.length = 64) (hb : ∀ x ∈ b, x < 256)
include hN hl hb
theorem aLh : ∃ w, mR N (iN b) = some w ∧ w.length = 64 := by
  obtain ⟨w, h1, h2⟩ := sL3 N N 16 (aAZ b 0 (List.replicate 64 0)) (by rw [aIV]; simp) (by omega) (by omega) (by omega)
  rw [show ((16 : Nat) : Int) = 16 from rfl] at h1
  refine ⟨w, ?_, h2⟩
  simp only [mR, sL4 N b hl hb hN, Option.bind_some, nP, h1, oE, cZ h2]
theorem aJX (st : List Int) (hst : st.length = 8) : ∃ r, jV N st (iN b) = some r ∧ r.length = 8 := by
  obtain ⟨w, h1, h2⟩ := aLh N hN b hl hb
  have hbl : (iN b).length = 64 := by rw [aDB]; exact hl
  have a0 : aW 8 st 0 = some st[0] := cQ (i := 0) (by omega) (by omega)
  have a1 : aW 8 st 1 = some st[1] := cQ (i := 1) (by omega) (by omega)
  have a2 : aW 8 st 2 = some st[2] := cQ (i := 2) (by omega) (by omega)
  have a3 : aW 8 st 3 = some st[3] := cQ (i := 3) (by omega) (by omega)
  have a4 : aW 8 st 4 = some st[4] := cQ (i := 4) (by omega) (by omega)
  have a5 : aW 8 st 5 = some st[5] := cQ (i := 5) (by omega) (by omega)
  have a6 : aW 8 st 6 = some st[6] := cQ (i := 6) (by omega) (by omega)
  have a7 : aW 8 st 7 = some st[7] := cQ (i := 7) (by omega) (by omega)
  obtain ⟨r, hr⟩ := cL2 N st w h2 N 0 st[0] st[1] st[2] st[3] st[4] st[5] st[6] st[7] (by omega) (by omega)
  rw [show ((0 : Nat) : Int) = 0 from rfl] at hr
  refine ⟨[IntKind.u32.wrap (st[0] + r.1), IntKind.u32.wrap (st[1] + r.2.1), IntKind.u32.wrap (st[2] + r.2.2.1), IntKind.u32.wrap (st[3] + r.2.2.2.1), IntKind.u32.wrap (st[4] + r.2.2.2.2.1), IntKind.u32.wrap (st[5] + r.2.2.2.2.2.1), IntKind.u32.wrap (st[6] + r.2.2.2.2.2.2.1), IntKind.u32.wrap (st[7] + r.2.2.2.2.2.2.2)], ?_, rfl⟩
  simp only [jV, cZ hbl, h1, cZ h2, a0, a1, a2, a3, a4, a5, a6, a7, Option.bind_some, hr, oF]
end
end Go.Proofs.YtnoklhehodlkaaaGreatDoor
set_option linter.unusedSimpArgs false
set_option linter.unusedVariables false
set_option linter.unusedSectionVars false
namespace Go.Proofs.YtnoklhehodlkaaaGreatDoor
open Go Go.Vm
def beG (n : Nat) (i : Nat) : Int := IntKind.u8.wrap ((IntKind.u64.wrap (8 * (n : Int))).fdiv (2 ^ (56 - 8 * i)))
def uK (n : Nat) : Nat := (64 - (n + 9) % 64) % 64
def rJ (n : Nat) : List Int := (128 :: List.replicate (uK n) 0) ++ (List.range' 0 8).map (beG n)
theorem aGc (n : Nat) : (rJ n).length = 9 + uK n := by simp [rJ]; omega
theorem aDH (x : Int) : 0 ≤ IntKind.u8.wrap x ∧ IntKind.u8.wrap x < 256 := by rw [IntKind.wrap_u8]; omega
theorem aGT (n : Nat) : Byt (rJ n) := by
  intro x hx
  simp only [rJ, List.mem_append, List.mem_cons, List.mem_replicate, List.mem_map] at hx
  rcases hx with (rfl | ⟨_, rfl⟩) | ⟨i, _, rfl⟩
  · omega
  · omega
  · exact aDH _
theorem aIF (a : Int) (s : Nat) (h : s ≤ 64) : shr .u64 a (s : Int) = some (a.fdiv (2 ^ s)) := by
  unfold shr
  rw [if_neg (by omega), Int.toNat_natCast, show min s IntKind.u64.bits = s from Nat.min_eq_left h]
theorem aG3 (N n : Nat) : ∀ (k m : Nat) (acc : List Int), k ≤ 8 → k < m → acc.length + k ≤ 1000 → nU N (n : Int) m ((8 - k : Nat) : Int) acc = some (acc ++ (List.range' (8 - k) k).map (beG n))
  | 0, m, acc, _, hm, _ => by
    obtain ⟨m, rfl⟩ : ∃ q, m = q + 1 := ⟨m - 1, by omega⟩
    rw [nU, show decide (((8 - 0 : Nat) : Int) < 8) = false from rfl]; simp
  | k + 1, m, acc, hk, hm, ha => by
    obtain ⟨m, rfl⟩ : ∃ q, m = q + 1 := ⟨m - 1, by omega⟩
    rw [nU, show decide (((8 - (k + 1) : Nat) : Int) < 8) = true from decide_eq_true (by omega), if_pos rfl]
    rw [cC (a := 8 * ((8 - (k + 1) : Nat) : Int)) (by omega) (by omega), cC (a := 56 - 8 * ((8 - (k + 1) : Nat) : Int)) (by omega) (by omega), show 56 - 8 * ((8 - (k + 1) : Nat) : Int) = ((56 - 8 * (8 - (k + 1)) : Nat) : Int) by omega, aIF _ _ (by omega)]
    simp only [Option.bind_some]
    rw [rL (by simp; omega)]
    simp only [Option.bind_some, i1 (show 8 - (k + 1) ≤ 100000 by omega)]
    rw [show 8 - (k + 1) + 1 = 8 - k by omega, aG3 N n k m _ (by omega) (by omega) (by simp; omega), List.range'_succ, List.map_cons, show 8 - (k + 1) + 1 = 8 - k by omega, List.append_assoc]
    rfl
theorem aOJ (z : Nat) : (List.replicate (1 + z) (0 : Int)).set 0 128 = 128 :: List.replicate z 0 := by rw [Nat.add_comm, List.replicate_succ]; rfl
theorem aPL (N : Nat) (hN : 70000 ≤ N) (n : Nat) (hn : n ≤ 1000000000) : aAz N (n : Int) = some (rJ n) := by
  have hz : uK n < 64 := Nat.mod_lt _ (by omega)
  have hlim := lO
  unfold aAz
  rw [uI (a := (n : Int) + 9) (by omega) (by omega), show (n : Int) + 9 = ((n + 9 : Nat) : Int) by omega, show (64 : Int) = ((64 : Nat) : Int) from rfl, p9]
  have h1 : (n + 9) % 64 < 64 := Nat.mod_lt _ (by omega)
  rw [uI (a := ((64 : Nat) : Int) - (((n + 9) % 64 : Nat) : Int)) (by omega) (by omega), show ((64 : Nat) : Int) - (((n + 9) % 64 : Nat) : Int) = ((64 - (n + 9) % 64 : Nat) : Int) by omega, p9]
  rw [show ((64 - (n + 9) % 64) % 64 : Nat) = uK n from rfl, uI (a := 1 + ((uK n : Nat) : Int)) (by omega) (by omega), uI (a := 9 + ((uK n : Nat) : Int)) (by omega) (by omega)]
  have hm : mkl 1 (0 : Int) (1 + ((uK n : Nat) : Int)) (9 + ((uK n : Nat) : Int)) = some (List.replicate (1 + uK n) 0) := by
    unfold mkl
    rw [if_pos ⟨by omega, by omega, by omega⟩, show (1 + ((uK n : Nat) : Int)).toNat = 1 + uK n by omega]
  have h0 : cU (List.replicate (1 + uK n) (0 : Int)) 0 = some 0 := by
    rw [show (0 : Int) = ((0 : Nat) : Int) from rfl, aHz, List.getElem?_replicate, if_pos (by omega)]
  simp only [hm, Option.bind_some, h0, Int.toNat_zero, aOJ]
  have := aG3 N n 8 N (128 :: List.replicate (uK n) 0) (by omega) (by omega) (by simp; omega)
  rw [show ((8 - 8 : Nat) : Int) = 0 from rfl] at this
  rw [this]; rfl
theorem aAY {f : Nat → Int → List Int → Option (List Int)} (l : List (List Int)) (hn : l.length ≤ 1000) (ht : l.flatten.length ≤ 50000000)
    (hs : ∀ m j acc (hj : j < l.length), acc.length + l[j].length ≤ 50000000 → f (m + 1) (j : Int) acc = f m ((j + 1 : Nat) : Int) (acc ++ l[j])) (he : ∀ m j acc, l.length ≤ j → f (m + 1) (j : Int) acc = some acc) (N : Nat) (hN : 70000 ≤ N) :
    f N 0 [] = some l.flatten := by
  have hfl : l.flatMap id = l.flatten := by simp
  have := aEQ (f := f) (xs := l) (g := id) (B := 50000000) (by omega) hs he N 0 [] (by omega) (by omega) (by rw [List.drop_zero, hfl]; simpa using ht)
  rw [List.drop_zero, hfl] at this
  simpa using this
theorem aM9 (N : Nat) (hN : 70000 ≤ N) (l : List (List Int)) (hn : l.length ≤ 1000) (ht : l.flatten.length ≤ 50000000) : yX N l = some l.flatten := by
  have := aAY (f := n7 N l) l hn ht (fun m j acc hj hB => by
    rw [n7, dT hj, if_pos rfl, eY l hj, Option.bind_some, rL (by omega)]
    simp only [Option.bind_some, i1 (show j ≤ 100000 by omega)]) (fun m j acc hj => by rw [n7, dF (by omega)]; rfl) N hN
  unfold yX
  rw [this]; rfl
def cmp (N : Nat) (st blk : List Int) : List Int := (jV N st blk).getD []
def q4 (msg : List Int) (i : Nat) : List Int := (msg.drop (64 * i)).take 64
theorem aBo {l : List Int} (h : Byt l) (k : Nat) : Byt (l.take k) := fun x hx => h x (List.mem_of_mem_take hx)
theorem aA5 {l : List Int} (h : Byt l) (k : Nat) : Byt (l.drop k) := fun x hx => h x (List.mem_of_mem_drop hx)
theorem aJd (N : Nat) (hN : 70000 ≤ N) (st blk : List Int) (hst : st.length = 8) (hb : Byt blk) (hl : blk.length = 64) : jV N st blk = some (cmp N st blk) ∧ (cmp N st blk).length = 8 := by
  obtain ⟨b, rfl, h2⟩ := aHy hb
  obtain ⟨r, h3, h4⟩ := aJX N hN b (by rw [aDB] at hl; exact hl) h2 st hst
  have : cmp N st (iN b) = r := by simp [cmp, h3]
  rw [this]; exact ⟨h3, h4⟩
def tY (N : Nat) (msg st : List Int) (j k : Nat) : List Int := (List.range' j k).foldl (fun s i => cmp N s (q4 msg i)) st
section
variable (N : Nat) (hN : 70000 ≤ N) (msg : List Int) (hb : Byt msg) (hl : msg.length ≤ 2000000)
include hN hb hl
theorem aCV : ∀ (m j : Nat) (st : List Int), msg.length / 64 - j < m → j ≤ msg.length / 64 → st.length = 8 → pV N msg m (j : Int) st = some (tY N msg st j (msg.length / 64 - j)) ∧ (tY N msg st j (msg.length / 64 - j)).length = 8
  | 0, j, st, hm, _, _ => by omega
  | m + 1, j, st, hm, hj, hst => by
    rw [pV, show (64 : Int) = ((64 : Nat) : Int) from rfl, pU, cC (a := ((msg.length / 64 : Nat) : Int)) (by omega) (by omega)]
    by_cases h : j < msg.length / 64
    · have hlen : (q4 msg j).length = 64 := by simp [q4]; omega
      obtain ⟨c1, c2⟩ := aJd N hN st (q4 msg j) hst (aBo (aA5 hb _) _) hlen
      rw [dT h, if_pos rfl, cZ hst, cC (a := ((64 : Nat) : Int) * (j : Int)) (by omega) (by omega)]
      have e1 : sub msg (((64 : Nat) : Int) * (j : Int)) (msg.length : Int) = some (msg.drop (64 * j)) := by
        unfold sub
        rw [if_pos ⟨by omega, by omega, by omega⟩, show (((64 : Nat) : Int) * (j : Int)).toNat = 64 * j by omega, Int.toNat_natCast, List.take_of_length_le (Nat.le_refl _)]
      have e2 : nM 64 (msg.drop (64 * j)) = some (q4 msg j) := by unfold nM; rw [if_pos (by simp; omega)]; rfl
      simp only [e1, e2, c1, cZ c2, Option.bind_some, i1 (show j ≤ 100000 by omega)]
      obtain ⟨i1', i2'⟩ := aCV m (j + 1) _ (by omega) (by omega) c2
      have er : tY N msg st j (msg.length / 64 - j) = tY N msg (cmp N st (q4 msg j)) (j + 1) (msg.length / 64 - (j + 1)) := by
        unfold tY
        rw [show msg.length / 64 - j = (msg.length / 64 - (j + 1)) + 1 by omega, List.range'_succ, List.foldl_cons]
      rw [er]
      exact ⟨i1', i2'⟩
    · rw [dF h, show msg.length / 64 - j = 0 by omega]
      exact ⟨rfl, hst⟩
end
def rQ (st : List Int) (i : Nat) : Int := IntKind.u8.wrap ((st.getD (i / 4) 0).fdiv (2 ^ (24 - 8 * (i % 4))))
def aAP (st : List Int) : List Int := (List.range 32).map (rQ st)
theorem aC6 (st : List Int) : (aAP st).length = 32 := by simp [aAP]
theorem aK2 (st : List Int) : Byt (aAP st) := by
  intro x hx
  simp only [aAP, List.mem_map] at hx
  obtain ⟨i, _, rfl⟩ := hx
  exact aDH _
theorem uO (g : Nat → Int) (w j : Nat) (hj : j < w) : ((List.range j).map g ++ List.replicate (w - j) 0).set j (g j) = (List.range (j + 1)).map g ++ List.replicate (w - (j + 1)) 0 := by
  rw [List.set_append_right _ _ (by simp), show w - j = (w - (j + 1)) + 1 by omega, List.replicate_succ, List.range_succ, List.map_append, List.append_assoc]
  simp
theorem aFL (a : Int) (s : Nat) (h : s ≤ 32) : shr .u32 a (s : Int) = some (a.fdiv (2 ^ s)) := by
  unfold shr
  rw [if_neg (by omega), Int.toNat_natCast, show min s IntKind.u32.bits = s from Nat.min_eq_left h]
theorem aNd {st : List Int} (hst : st.length = 8) {i : Nat} (h : i < 8) : aW 8 st (i : Int) = some (st.getD i 0) := by
  have : i < st.length := by omega
  rw [cQ h this]; simp [this]
section
variable (N : Nat) (hN : 70000 ≤ N) (st : List Int) (hst : st.length = 8)
include hN hst
theorem aGi : ∀ (m j : Nat), 32 - j < m → j ≤ 32 → p8 N st m (j : Int) ((List.range j).map (rQ st) ++ List.replicate (32 - j) 0) = some (aAP st)
  | 0, j, hm, _ => by omega
  | m + 1, j, hm, hj => by
    rw [p8]
    by_cases h : j < 32
    · rw [show decide ((j : Int) < 32) = true from decide_eq_true (by omega), if_pos rfl, show (4 : Int) = ((4 : Nat) : Int) from rfl, pU, p9, cC (a := ((j / 4 : Nat) : Int)) (by omega) (by omega), aNd hst (by omega)]
      rw [cC (a := ((j % 4 : Nat) : Int) * 8) (by omega) (by omega), cC (a := 24 - ((j % 4 : Nat) : Int) * 8) (by omega) (by omega), show 24 - ((j % 4 : Nat) : Int) * 8 = ((24 - 8 * (j % 4) : Nat) : Int) by omega]
      simp only [Option.bind_some]
      rw [aFL _ _ (by omega), cQ h (by simp; omega)]
      simp only [Option.bind_some, Int.toNat_natCast, i1 (show j ≤ 100000 by omega)]
      have := uO (rQ st) 32 j h
      rw [show IntKind.u8.wrap ((st.getD (j / 4) 0).fdiv (2 ^ (24 - 8 * (j % 4)))) = rQ st j from rfl, this]
      exact aGi m (j + 1) (by omega) (by omega)
    · obtain rfl : j = 32 := by omega
      rw [show decide (((32 : Nat) : Int) < 32) = false from rfl]
      simp [aAP]
end
def sha256 (N : Nat) (b : List Int) : List Int := aAP (tY N (b ++ rJ b.length) tB 0 ((b ++ rJ b.length).length / 64))
theorem pT (N : Nat) (b : List Int) : (sha256 N b).length = 32 := aC6 _
theorem sN (N : Nat) (b : List Int) : Byt (sha256 N b) := aK2 _
theorem aGd (N : Nat) (hN : 70000 ≤ N) (b : List Int) (hb : Byt b) (hl : b.length ≤ 1000000) : wI N b = some (sha256 N b) := by
  have hz : uK b.length < 64 := Nat.mod_lt _ (by omega)
  have hpl := aGc b.length
  have hmb : Byt (b ++ rJ b.length) := hb.append (aGT _)
  have hml : (b ++ rJ b.length).length ≤ 2000000 := by rw [List.length_append]; omega
  obtain ⟨s1, s2⟩ := aCV N hN _ hmb hml N 0 tB (by omega) (by omega) rfl
  rw [show ((0 : Nat) : Int) = 0 from rfl, Nat.sub_zero] at s1
  rw [Nat.sub_zero] at s2
  have hw : IntKind.u64.wrap (b.length : Int) = (b.length : Int) := uI (by omega) (by omega)
  have o := aGi N hN (tY N (b ++ rJ b.length) tB 0 ((b ++ rJ b.length).length / 64)) s2 N 0 (by omega) (by omega)
  simp only [List.range_zero, List.map_nil, List.nil_append, Nat.sub_zero] at o
  rw [show ((0 : Nat) : Int) = 0 from rfl] at o
  simp only [wI, hw, aPL N hN b.length (by omega), Option.bind_some]
  rw [aM9 N hN [b, rJ b.length] (by simp) (by simp; omega)]
  simp only [Option.bind_some, List.flatten_cons, List.flatten_nil, List.append_nil, s1, yN, o, yO, cZ (aC6 _)]
  rfl
theorem aCI (s : ByteArray) : Byt (dZ s) := by
  intro x hx
  unfold dZ at hx
  simp only [List.mem_map] at hx
  obtain ⟨b, _, rfl⟩ := hx
  have := b.toNat_lt
  omega
def zA (N : Nat) (tag : ByteArray) (b : List Int) : List Int := sha256 N (sha256 N (dZ tag) ++ (sha256 N (dZ tag) ++ b))
theorem yR (N : Nat) (tag : ByteArray) (b : List Int) : (zA N tag b).length = 32 := pT _ _
theorem aBj (N : Nat) (tag : ByteArray) (b : List Int) : Byt (zA N tag b) := sN _ _
theorem aEX (N : Nat) (hN : 70000 ≤ N) (tag : ByteArray) (ht : tag.size ≤ 1000) (b : List Int) (hb : Byt b) (hl : b.length ≤ 900000) : uY N tag b = some (zA N tag b) := by
  have hlim := lO
  have hs : stb tag = some (dZ tag) := by unfold stb; rw [if_pos (by omega)]
  have s1 := aGd N hN (dZ tag) (aCI tag) (by rw [tE]; omega)
  have l1 := pT N (dZ tag)
  have t1 := aGd N hN (sha256 N (dZ tag) ++ (sha256 N (dZ tag) ++ b)) ((sN _ _).append ((sN _ _).append hb)) (by simp only [List.length_append, l1]; omega)
  simp only [uY, hs, s1, Option.bind_some, cZ l1]
  rw [aM9 N hN _ (by simp) (by simp [l1]; omega)]
  simp only [Option.bind_some, List.flatten_cons, List.flatten_nil, List.append_nil, t1, cZ (pT N _)]
  rfl
end Go.Proofs.YtnoklhehodlkaaaGreatDoor
set_option linter.unusedSimpArgs false
set_option linter.unusedVariables false
set_option linter.unusedSectionVars false
namespace Go.Proofs.YtnoklhehodlkaaaGreatDoor
open Go Go.Vm
theorem aOc (op : BinOp) (a b : Int) : 0 ≤ bits op .u64 a b ∧ bits op .u64 a b < 18446744073709551616 := by
  unfold bits
  rw [IntKind.wrap_u64]
  omega
theorem Wd.set {l : List Int} (h : Wd l) (i : Nat) {x : Int} (hx : 0 ≤ x ∧ x < 18446744073709551616) : Wd (l.set i x) :=
  ⟨by rw [List.length_set]; exact h.1, fun y hy => (List.mem_or_eq_of_mem_set hy).elim (h.2 y) (fun e => e ▸ hx)⟩
section
variable {N : Nat} (hN : 70000 ≤ N)
include hN
theorem aHA {h : List Int} (hl : h.length = 32) : ∀ (m j : Nat) (l : List Int), 32 - j < m → j ≤ 32 → Wd l → ∃ r, eG N h m (j : Int) l = some r ∧ Wd r
  | 0, j, l, hm, _, _ => by omega
  | m + 1, j, l, hm, hj, hw => by
    rw [eG]
    by_cases hh : j < 32
    · have h4 := hw.1
      rw [show decide ((j : Int) < 32) = true from decide_eq_true (by omega), if_pos rfl, cQ hh (by omega), show (8 : Int) = ((8 : Nat) : Int) from rfl, pU, cC (a := ((j / 8 : Nat) : Int)) (by omega) (by omega), cC (a := 3 - ((j / 8 : Nat) : Int)) (by omega) (by omega), show 3 - ((j / 8 : Nat) : Int) = ((3 - j / 8 : Nat) : Int) by omega, cQ (show 3 - j / 8 < 4 by omega) (by omega)]
      obtain ⟨y, hy⟩ : ∃ y, shl .u64 l[3 - j / 8] ((8 : Nat) : Int) = some y := by unfold shl; rw [if_neg (by omega)]; exact ⟨_, rfl⟩
      simp only [Option.bind_some, hy, i1 (show j ≤ 100000 by omega)]
      exact aHA hl m (j + 1) _ (by omega) (by omega) (hw.set _ (aOc _ _ _))
    · rw [show decide ((j : Int) < 32) = false from decide_eq_false (by omega)]
      exact ⟨l, rfl, hw⟩
theorem vO {h : List Int} (hl : h.length = 32) : ∃ n, n < 115792089237316195423570985008687907853269984665640564039457584007913129639936 ∧ eM N h = some (U n) := by
  obtain ⟨r, h1, h2⟩ := aHA hN hl N 0 (List.replicate 4 0) (by omega) (by omega) ⟨by simp, fun x hx => by have := List.eq_of_mem_replicate hx; omega⟩
  rw [show ((0 : Nat) : Int) = 0 from rfl] at h1
  obtain ⟨n, hn, rfl⟩ := h2.ex
  exact ⟨n, hn, by simp only [eM, cZ hl, Option.bind_some, h1, lP, aX]⟩
def byG (n : Nat) (i : Nat) : Int := IntKind.u8.wrap (((U n).getD (3 - i / 8) 0).fdiv (2 ^ (56 - 8 * (i % 8))))
def bM (n : Nat) : List Int := (List.range 32).map (byG n)
omit hN in
theorem bF (n : Nat) : (bM n).length = 32 := by simp [bM]
omit hN in
theorem pE (n : Nat) : Byt (bM n) := by
  intro x hx
  simp only [bM, List.mem_map] at hx
  obtain ⟨i, _, rfl⟩ := hx
  exact aDH _
theorem aHG (n : Nat) : ∀ (m j : Nat), 32 - j < m → j ≤ 32 → iM N (U n) m (j : Int) ((List.range j).map (byG n) ++ List.replicate (32 - j) 0) = some (bM n)
  | 0, j, hm, _ => by omega
  | m + 1, j, hm, hj => by
    rw [iM]
    by_cases h : j < 32
    · have hg : aW 4 (U n) ((3 - j / 8 : Nat) : Int) = some ((U n).getD (3 - j / 8) 0) := by
        have : 3 - j / 8 < (U n).length := by rw [aNY]; omega
        rw [cQ (show 3 - j / 8 < 4 by omega) this]; simp [this]
      rw [show decide ((j : Int) < 32) = true from decide_eq_true (by omega), if_pos rfl, show (8 : Int) = ((8 : Nat) : Int) from rfl, pU, p9, cC (a := ((j / 8 : Nat) : Int)) (by omega) (by omega), cC (a := 3 - ((j / 8 : Nat) : Int)) (by omega) (by omega), show 3 - ((j / 8 : Nat) : Int) = ((3 - j / 8 : Nat) : Int) by omega, hg]
      rw [cC (a := ((j % 8 : Nat) : Int) * ((8 : Nat) : Int)) (by omega) (by omega), cC (a := 56 - ((j % 8 : Nat) : Int) * ((8 : Nat) : Int)) (by omega) (by omega), show 56 - ((j % 8 : Nat) : Int) * ((8 : Nat) : Int) = ((56 - 8 * (j % 8) : Nat) : Int) by omega]
      simp only [Option.bind_some]
      rw [aIF _ _ (by omega), cQ h (by simp; omega)]
      simp only [Option.bind_some, Int.toNat_natCast, i1 (show j ≤ 100000 by omega)]
      have := uO (byG n) 32 j h
      rw [show IntKind.u8.wrap (((U n).getD (3 - j / 8) 0).fdiv (2 ^ (56 - 8 * (j % 8)))) = byG n j from rfl, this]
      exact aHG n m (j + 1) (by omega) (by omega)
    · obtain rfl : j = 32 := by omega
      rw [show decide (((32 : Nat) : Int) < 32) = false from rfl]
      simp [bM]
theorem aAv (n : Nat) : lS N (U n) = some (bM n) := by
  have := aHG hN n N 0 (by omega) (by omega)
  simp only [List.range_zero, List.map_nil, List.nil_append, Nat.sub_zero] at this
  rw [show ((0 : Nat) : Int) = 0 from rfl] at this
  simp only [lS, this, Option.bind_some, t4, cZ (bF n)]
theorem grow (l : List (List Int)) (hn : l.length ≤ 1000) (h32 : ∀ x ∈ l, x.length = 32) : uF N l = some l.flatten := by
  have hfl : l.flatten.length ≤ l.length * 32 := by
    clear hn
    induction l with
    | nil => simp
    | cons x l ih =>
      have h1 := h32 x (by simp)
      have h2 := ih (fun y hy => h32 y (by simp [hy]))
      simp only [List.flatten_cons, List.length_append, List.length_cons]; omega
  have := aAY (f := lX N l) l hn (by omega) (fun m j acc hj hB => by
    rw [lX, dT hj, if_pos rfl, eY l hj, Option.bind_some, cZ (h32 _ (List.getElem_mem hj)), Option.bind_some, rL (by omega)]
    simp only [Option.bind_some, i1 (show j ≤ 100000 by omega)]) (fun m j acc hj => by rw [lX, dF (by omega)]; rfl) N hN
  unfold uF
  rw [this]; rfl
theorem aIZ {h : List Int} (hl : h.length = 32) : ∃ n, n < 57896044618658097711785492504343953926634992332820282019728792003956564801911 ∧ mM N h = some (U n) := by
  obtain ⟨n, h1, h2⟩ := vO hN hl
  refine ⟨(n + 0) % 57896044618658097711785492504343953926634992332820282019728792003956564801911, Nat.mod_lt _ (by decide), ?_⟩
  rw [show mM N h = ((aR 32 h).bind fun q => (eM N h).bind fun x4 => (lB N x4 [0, 0, 0, 0]).bind fun x6 => (aR 4 x6).bind fun q_1 => some x6) from rfl]
  simp only [cZ hl, Option.bind_some, h2, ← tZ, lB, aX, zC, aGk (b := 57896044618658097711785492504343953926634992332820282019728792003956564801911) hN (by decide) (by decide) h1 (show (0 : Nat) < 115792089237316195423570985008687907853269984665640564039457584007913129639936 by decide)]
def vR : ByteArray := ⟨#[108, 105, 103, 104, 116, 99, 108, 105, 101, 110, 116, 47, 99, 104, 97, 108, 108, 101, 110, 103, 101]⟩
theorem aG5 {r p : Nat} {m : List Int} (hm : m.length = 32) (hb : Byt m) : ∃ n, n < 57896044618658097711785492504343953926634992332820282019728792003956564801911 ∧ kI N (U r) (U p) m = some (U n) := by
  obtain ⟨n, h1, h2⟩ := aIZ hN (yR N vR (bM r ++ (bM p ++ m)))
  refine ⟨n, h1, ?_⟩
  have hrow : uF N [bM r, bM p, m] = some (bM r ++ (bM p ++ m)) := by
    rw [grow hN _ (by simp) (fun x hx => by
      simp only [List.mem_cons, List.not_mem_nil, or_false] at hx
      rcases hx with rfl | rfl | rfl
      · exact bF _
      · exact bF _
      · exact hm)]
    simp
  have ht := aEX N hN vR (by decide) (bM r ++ (bM p ++ m)) ((pE _).append ((pE _).append hb)) (by simp [bF, hm])
  simp only [kI, aX, aAv hN, cZ hm, cZ (bF _), hrow, Option.bind_some]
  rw [show (⟨#[108, 105, 103, 104, 116, 99, 108, 105, 101, 110, 116, 47, 99, 104, 97, 108, 108, 101, 110, 103, 101]⟩ : ByteArray) = vR from rfl, ht]
  simp only [Option.bind_some, h2, aX]
theorem rH {a : Nat} (ha : a < 115792089237316195423570985008687907853269984665640564039457584007913129639936) : lW N (U a) = some (decide (a < 57896044618658097711785492504343953926634992332820282019728792003956564801911)) := by
  simp only [lW, aX, zC, Option.bind_some, vI hN ha (show (57896044618658097711785492504343953926634992332820282019728792003956564801911 : Nat) < 115792089237316195423570985008687907853269984665640564039457584007913129639936 by decide), aH8]
theorem aLg : ([1, 0, 0, 0] : List Int) = U 1 := by decide +kernel
theorem aJA {a : Nat} (ha : a < 115792089237316195423570985008687907853269984665640564039457584007913129639936) : ∃ v, mV N (U a) = some v := by
  have hJ : ∀ t, ∃ v, jG N (U a) t = some v := by
    intro t
    cases t with
    | true => exact ⟨_, rfl⟩
    | false =>
      simp only [jG, Bool.false_eq_true, if_false, aX, zC, Option.bind_some, aCs hN ha (show (57896044618658097711785492504343953926634992332820282019728792003956564801911 : Nat) < 115792089237316195423570985008687907853269984665640564039457584007913129639936 by decide), eH, aLg hN]
      exact ⟨_, rfl⟩
  simp only [mV, aX, Option.bind_some, aGp, vI hN ha (show (115792089237316195423570985008687907853269984665640564039457584007913129603823 : Nat) < 115792089237316195423570985008687907853269984665640564039457584007913129639936 by decide)]
  split
  · exact hJ _
  · exact hJ _
theorem aGW {a : Nat} (ha : a < 115792089237316195423570985008687907853269984665640564039457584007913129639936) : ∃ v, oC N (U a) = some v := by
  obtain ⟨v, hv⟩ := aJA hN ha
  simp only [oC, aX, eH, aLg hN, Option.bind_some, hv]
  split <;> exact ⟨_, rfl⟩
theorem aIP {p e s : Nat} {m : List Int} (hp : p < 115792089237316195423570985008687907853269984665640564039457584007913129639936) (he : e < 115792089237316195423570985008687907853269984665640564039457584007913129639936) (hs : s < 115792089237316195423570985008687907853269984665640564039457584007913129639936) (hm : m.length = 32) (hb : Byt m) : ∃ v, oP N (U p) m (U e) (U s) = some v := by
  obtain ⟨v, hv⟩ := aGW hN hp
  have hq : (57896044618658097711785492504343953926634992332820282019728792003956564801911 : Nat) < 115792089237316195423570985008687907853269984665640564039457584007913129639936 := by decide
  have hJ : ∀ t, ∃ v, i6 N (U p) m (U e) (U s) t = some v := by
    intro t
    cases t with
    | true => exact ⟨_, rfl⟩
    | false =>
      have hd : (57896044618658097711785492504343953926634992332820282019728792003956564801911 + 115792089237316195423570985008687907853269984665640564039457584007913129639936 - e) % 115792089237316195423570985008687907853269984665640564039457584007913129639936 < 115792089237316195423570985008687907853269984665640564039457584007913129639936 := Nat.mod_lt _ (by decide)
      have h4 : ([4, 0, 0, 0] : List Int) = U 4 := by decide +kernel
      have hx : ∀ z : Nat, z % 115792089237316195423570985008687907853269984665640564039457584007913129603823 < 115792089237316195423570985008687907853269984665640564039457584007913129639936 := fun z => Nat.lt_trans (Nat.mod_lt z (by decide)) (by decide)
      simp only [i6, Bool.false_eq_true, if_false, aX, zC, Option.bind_some, aCn hN hq he, qP, eH, h4, aCs hN (show (4 : Nat) < 115792089237316195423570985008687907853269984665640564039457584007913129639936 by decide) hs, aCs hN hp hd, aIf hN (hx _) (hx _), cZ hm]
      obtain ⟨n, _, hn⟩ := aG5 hN (r := 4 ^ s % 115792089237316195423570985008687907853269984665640564039457584007913129603823 * (p ^ ((57896044618658097711785492504343953926634992332820282019728792003956564801911 + 115792089237316195423570985008687907853269984665640564039457584007913129639936 - e) % 115792089237316195423570985008687907853269984665640564039457584007913129639936) % 115792089237316195423570985008687907853269984665640564039457584007913129603823) % 115792089237316195423570985008687907853269984665640564039457584007913129603823) (p := p) hm hb
      rw [hn]
      exact ⟨_, rfl⟩
  simp only [oP, aX, Option.bind_some, rH hN he, rH hN hs, hv]
  split
  · exact hJ _
  · split
    · exact hJ _
    · exact hJ _
theorem aJH {b : List Int} : ∃ e s r, e < 115792089237316195423570985008687907853269984665640564039457584007913129639936 ∧ s < 115792089237316195423570985008687907853269984665640564039457584007913129639936 ∧ oK N b = some (U e, U s, r) := by
  have h0 : List.replicate 4 (0 : Int) = U 0 := by decide +kernel
  unfold oK
  by_cases hl : b.length = 64
  · rw [show (((b.length : Nat) : Int) != 64) = false by rw [hl]; rfl]
    have e1 : sub b 0 32 = some (b.take 32) := by unfold sub; rw [if_pos ⟨by omega, by omega, by omega⟩]; simp
    have e2 : sub b 32 (b.length : Int) = some (b.drop 32) := by
      unfold sub; rw [if_pos ⟨by omega, by omega, by omega⟩, Int.toNat_natCast, List.take_of_length_le (Nat.le_refl _)]; rfl
    have l1 : (b.take 32).length = 32 := by simp; omega
    have l2 : (b.drop 32).length = 32 := by simp; omega
    have a1 : nM 32 (b.take 32) = some (b.take 32) := by unfold nM; rw [if_pos (by omega), List.take_of_length_le (by omega)]
    have a2 : nM 32 (b.drop 32) = some (b.drop 32) := by unfold nM; rw [if_pos (by omega), List.take_of_length_le (by omega)]
    obtain ⟨e, h1, h2⟩ := vO hN l1
    obtain ⟨s, h3, h4⟩ := vO hN l2
    have hJ : ∀ t, ∃ e' s' r, e' < 115792089237316195423570985008687907853269984665640564039457584007913129639936 ∧ s' < 115792089237316195423570985008687907853269984665640564039457584007913129639936 ∧ l9 N (U e) (U s) t = some (U e', U s', r) := by
      intro t
      cases t with
      | true => exact ⟨0, 0, 5, by decide, by decide, by unfold l9; rw [h0]; rfl⟩
      | false => exact ⟨e, s, 0, h1, h3, rfl⟩
    simp only [Bool.false_eq_true, if_false, e1, e2, a1, a2, h2, h4, Option.bind_some, aX, rH hN h1, rH hN h3]
    split
    · exact hJ _
    · exact hJ _
  · rw [show (((b.length : Nat) : Int) != 64) = true by simp; omega, if_pos rfl, h0]
    exact ⟨0, 0, 8, by decide, by decide, rfl⟩
theorem aJr {m : List Int} (hm : m.length = 32) (hb : Byt m) (h a : Int) (st : List (List Int)) (br : List aE) (c : Int) (key sig : List Int) : ∃ e, cF N m h a st br c key sig = some e := by
  have hJ : ∀ t, ∃ e, eJ N m h a st br c t = some e := fun t => by cases t <;> exact ⟨_, rfl⟩
  unfold cF
  by_cases hl : key.length = 32
  · rw [show (((key.length : Nat) : Int) != 32) = false by rw [hl]; rfl]
    have a1 : nM 32 key = some key := by unfold nM; rw [if_pos (by omega), List.take_of_length_le (by omega)]
    obtain ⟨p, h1, h2⟩ := vO hN hl
    obtain ⟨v, hv⟩ := aGW hN h1
    simp only [Bool.false_eq_true, if_false, a1, h2, Option.bind_some, aX, hv]
    split
    · exact ⟨_, rfl⟩
    · split
      · exact ⟨_, rfl⟩
      · obtain ⟨e, s, r, h3, h4, h5⟩ := aJH hN (b := sig)
        simp only [h5, Option.bind_some]
        split
        · exact hJ _
        · obtain ⟨w, hw⟩ := aIP hN h1 h3 h4 hm hb
          simp only [cZ hm, Option.bind_some, hw]
          exact hJ _
  · rw [show (((key.length : Nat) : Int) != 32) = true by simp; omega]
    exact ⟨_, rfl⟩
end
end Go.Proofs.YtnoklhehodlkaaaGreatDoor
