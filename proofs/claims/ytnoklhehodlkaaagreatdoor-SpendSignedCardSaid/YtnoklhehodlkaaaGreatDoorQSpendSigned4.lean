/- Texts of ours, joined: Sh, OpenArr, OpenS, Plain1, Plain2, PlainU1, PlainU2, PlainU3, PlainU4, PlainV1, PlainV2, PlainV3, PlainN1, PlainH1. -/
import Derived.Test.YtnoklhehodlkaaaGreatDoorQSpendSigned3
import Derived.OpenShut
set_option linter.unusedVariables false
set_option linter.unusedSimpArgs false
set_option maxRecDepth 20000
set_option maxHeartbeats 1000000
namespace Go.Proofs.YtnoklhehodlkaaaGreatDoor
open Go Go.Vm
structure bC where
 Code : Int
 Data : List Int
 M : Int
 N : Int
abbrev e9 (x : bC) : List V := [(eI .i64 x.Code),(.row none 1 (x.Data.map (eI .u8))),(eI .i64 x.M),(eI .i64 x.N)]
abbrev aDk (x : bC) : V := .agg (e9 x)
@[simp] theorem g7 {f : Nat → Nat} (l : List bC) : V.rns f (l.flatMap e9) = l.flatMap e9 := gL (fun _ => rfl) l
@[simp] theorem iC {f : Nat → Nat} (x : bC) : V.rns f (e9 x) = e9 x := rfl
structure aN where
 outer : Bool
 taken : Bool
abbrev aU (x : aN) : List V := [(eB x.outer),(eB x.taken)]
@[simp] theorem c8 {f : Nat → Nat} (l : List aN) : V.rns f (l.flatMap aU) = l.flatMap aU := gL (fun _ => rfl) l
@[simp] theorem c9 {f : Nat → Nat} (x : aN) : V.rns f (aU x) = aU x := rfl
structure aQ where
 Tx : List Int
 Index : Int
abbrev fI (x : aQ) : List V := (bG (eI .u8) x.Tx [(eI .u32 x.Index)])
@[simp] theorem dJ {f : Nat → Nat} (l : List aQ) : V.rns f (l.flatMap fI) = l.flatMap fI := gL (fun _ => rfl) l
@[simp] theorem dG {f : Nat → Nat} (x : aQ) : V.rns f (fI x) = fI x := rfl
structure aF where
 Prev : aQ
 Sequence : Int
 Witness : List (List Int)
abbrev aV (x : aF) : List V := (bG (eI .u8) x.Prev.Tx [(eI .u32 x.Prev.Index),(eI .u32 x.Sequence),(.row none 1 (x.Witness.map (eL 1 (eI .u8))))])
abbrev aS (x : aF) : V := .agg (aV x)
@[simp] theorem eY {f : Nat → Nat} (l : List aF) : V.rns f (l.flatMap aV) = l.flatMap aV := gL (fun _ => rfl) l
@[simp] theorem eV {f : Nat → Nat} (x : aF) : V.rns f (aV x) = aV x := rfl
structure aE where
 Value : Int
 Script : List Int
abbrev dY (x : aE) : List V := [(eI .i64 x.Value),(.row none 1 (x.Script.map (eI .u8)))]
abbrev aM (x : aE) : V := .agg (dY x)
@[simp] theorem eF {f : Nat → Nat} (l : List aE) : V.rns f (l.flatMap dY) = l.flatMap dY := gL (fun _ => rfl) l
@[simp] theorem eH {f : Nat → Nat} (x : aE) : V.rns f (dY x) = dY x := rfl
abbrev wV (e : aQ × Bool) : List V := (bG (eI .u8) e.1.Tx [(eI .u32 e.1.Index),(eB e.2)])
def mS (a b : aQ) : Bool := (o8 a.Tx b.Tx ((a.Index == b.Index) && true))
@[simp] theorem mM {f : Nat → Nat} (l : List (aQ × Bool)) : V.rns f (l.flatMap wV) = l.flatMap wV := gL (fun _ => rfl) l
structure aT where
 Out : aQ
 Output : aE
 Height : Int
 Coinbase : Bool
abbrev bB (x : aT) : List V := (bG (eI .u8) x.Out.Tx [(eI .u32 x.Out.Index),(eI .i64 x.Output.Value),(.row none 1 (x.Output.Script.map (eI .u8))),(eI .i64 x.Height),(eB x.Coinbase)])
abbrev nK (x : aT) : V := .agg (bB x)
@[simp] theorem fK {f : Nat → Nat} (l : List aT) : V.rns f (l.flatMap bB) = l.flatMap bB := gL (fun _ => rfl) l
@[simp] theorem fL {f : Nat → Nat} (x : aT) : V.rns f (bB x) = bB x := rfl
def pZ (N : Nat) (x2 : Bool) : Option Bool :=
 some x2
def u7 (N : Nat) (code : Int) : Option Bool :=
 if decide (1 ≤ code) then
  pZ N (decide (code ≤ 17))
 else
  pZ N false
def aA6 (N : Nat) (l0 : List Int) : Option (List Int) :=
 some l0
def lB (N : Nat) (parts : List (List Int)) : Nat → Int → (List Int) → Option (List Int)
 | 0,_,_ => none
 | m + 1,x8,a9 =>
  if decide (x8 < (parts.length : Int)) then
   (b5 parts x8).bind fun bV =>
   (app 1 a9 bV).bind fun bH =>
   (lB N parts m) (IntKind.i64.wrap (x8 + 1)) bH
  else
   some a9
def sI (N : Nat) (parts : List (List Int)) : Option (List Int) :=
 (lB N parts N 0 []).bind fun p2 =>
 aA6 N p2
def iU (N : Nat) (x4 : Bool) : Option Bool :=
 some x4
def rQ (N : Nat) (vm : Int) (vn : Int) : Option Bool :=
 if decide (1 ≤ vn) then
  if decide (vn ≤ 15) then
   if decide (1 ≤ vm) then
    iU N (decide (vm ≤ vn))
   else
    iU N false
  else
   iU N false
 else
  iU N false
def lL (N : Nat) (x8 : Int) (b_1 : List Int) (c1 : Int) (aJy : Int) (l2 : List Int) : Option (Int × (List Int) × Int × Int × (List Int) × Int) :=
 some (IntKind.i64.wrap x8,l2,c1,aJy,b_1,0)
def rT (N : Nat) (x8 : Int) (x18 : List Int) (x35 : Bool) : Option (Int × (List Int) × Int × Int × (List Int) × Int) :=
 if x35 then
  some (0,[],0,0,[],1)
 else
  (b5 x18 0).bind fun x38 =>
  (sub x18 1 (IntKind.i64.wrap (1 + (IntKind.i64.wrap x38)))).bind fun x44 =>
  (sI N [x44]).bind fun x46 =>
  (sub x18 (IntKind.i64.wrap (1 + (IntKind.i64.wrap x38))) (x18.length : Int)).bind fun x49 =>
  lL N x8 x49 0 0 x46
def v8 (N : Nat) (b : List Int) : Option (Int × (List Int) × Int × Int × (List Int) × Int) :=
 (b5 b 0).bind fun x8 =>
 (u7 N (IntKind.i64.wrap x8)).bind fun bH =>
 if !bH then
  some (0,[],0,0,[],80)
 else
  (sub b 1 (b.length : Int)).bind fun x18 =>
  if (IntKind.i64.wrap x8) == 1 then
   if (x18.length : Int) == 0 then
    rT N x8 x18 true
   else
    (b5 x18 0).bind fun cM =>
    rT N x8 x18 (decide ((IntKind.i64.wrap ((x18.length : Int) - 1)) < (IntKind.i64.wrap cM)))
  else
   if (IntKind.i64.wrap x8) == 11 then
    if decide ((x18.length : Int) < 2) then
     some (0,[],0,0,[],1)
    else
     (b5 x18 0).bind fun x58 =>
     (b5 x18 1).bind fun x62 =>
     (sub x18 2 (x18.length : Int)).bind fun x66 =>
     (rQ N (IntKind.i64.wrap x58) (IntKind.i64.wrap x62)).bind fun x73 =>
     if !x73 then
      some (0,[],0,0,[],5)
     else
      lL N x8 x66 (IntKind.i64.wrap x58) (IntKind.i64.wrap x62) []
   else
    lL N x8 x18 0 0 []
def yT (N : Nat) (l0 : List bC) : Option ((List bC) × Int) :=
 some (l0,0)
def kX (N : Nat) : Nat → (List Int) → (List bC) → Option (LR ((List bC)) ((List bC) × Int))
 | 0,_,_ => none
 | m + 1,b_1,a9 =>
  if decide (0 < (b_1.length : Int)) then
   (v8 N b_1).bind fun x16 =>
   if x16.2.2.2.2.2 != 0 then
    some (.ret ([],x16.2.2.2.2.2))
   else
    (app 48 a9 [(bC.mk x16.1 x16.2.1 x16.2.2.1 x16.2.2.2.1)]).bind fun x26 =>
    (kX N m) x16.2.2.2.2.1 x26
  else
   some (.brk a9)
def u9 (N : Nat) (b : List Int) : Option ((List bC) × Int) :=
 if decide (520 < (b.length : Int)) then
  some ([],4)
 else
  (kX N N b []).bind fun q => match q with
   | .ret v => some v
   | .brk p2 =>
    yT N p2
def wX (N : Nat) (l0 : List Bool) : Option Bool :=
 some ((l0.length : Int) == 0)
def jP (N : Nat) (l : List bC) (x9 : Int) (rec : Int → (List Bool) → Option (LR ((List Bool)) (Bool))) (jM : List Bool) : Option (LR ((List Bool)) (Bool)) :=
 rec (IntKind.i64.wrap (x9 + 1)) jM
def oW (N : Nat) (l : List bC) (x9 : Int) (a9 : List Bool) (rec : Int → (List Bool) → Option (LR ((List Bool)) (Bool))) (kL : Bool) : Option (LR ((List Bool)) (Bool)) :=
 if kL then
  some (.ret false)
 else
  (b5 a9 (IntKind.i64.wrap ((a9.length : Int) - 1))).bind fun x35 =>
  jP N l x9 rec (a9.set (Int.toNat (IntKind.i64.wrap ((a9.length : Int) - 1))) true)
def dC (N : Nat) (l : List bC) : Nat → Int → (List Bool) → Option (LR ((List Bool)) (Bool))
 | 0,_,_ => none
 | m + 1,x9,a9 =>
  if decide (x9 < (l.length : Int)) then
   (b5 l x9).bind fun b4 =>
   if b4.Code == 14 then
    (app 1 a9 [false]).bind fun c5 =>
    jP N l x9 (dC N l m) c5
   else
    if b4.Code == 15 then
     if decide ((IntKind.i64.wrap ((a9.length : Int) - 1)) < 0) then
      oW N l x9 a9 (dC N l m) true
     else
      (b5 a9 (IntKind.i64.wrap ((a9.length : Int) - 1))).bind fun j4 =>
      oW N l x9 a9 (dC N l m) j4
    else
     if b4.Code == 16 then
      if decide ((IntKind.i64.wrap ((a9.length : Int) - 1)) < 0) then
       some (.ret false)
      else
       (sub a9 0 (IntKind.i64.wrap ((a9.length : Int) - 1))).bind fun x42 =>
       jP N l x9 (dC N l m) x42
     else
      jP N l x9 (dC N l m) a9
  else
   some (.brk a9)
def sY (N : Nat) (l : List bC) : Option Bool :=
 (dC N l N 0 []).bind fun q => match q with
  | .ret v => some v
  | .brk p2 =>
   wX N p2
def vS (N : Nat) : Option Bool :=
 some true
def gB (N : Nat) (stack : List (List Int)) : Nat → Int → Option (LR (Unit) (Bool))
 | 0,_ => none
 | m + 1,bV =>
  if decide (bV < (stack.length : Int)) then
   (b5 stack bV).bind fun eM =>
   if decide (520 < (eM.length : Int)) then
    some (.ret false)
   else
    (gB N stack m) (IntKind.i64.wrap (bV + 1))
  else
   some (.brk ())
def rM (N : Nat) (stack : List (List Int)) : Option Bool :=
 if decide (64 < (stack.length : Int)) then
  some false
 else
  (gB N stack N 0).bind fun q => match q with
   | .ret v => some v
   | .brk p2 =>
    vS N
def sB (N : Nat) (l0 : List (List Int)) : Option (List (List Int)) :=
 some l0
def jQ (N : Nat) (stack : List (List Int)) : Nat → Int → (List (List Int)) → Option (List (List Int))
 | 0,_,_ => none
 | m + 1,x8,a9 =>
  if decide (x8 < (stack.length : Int)) then
   (b5 stack x8).bind fun bV =>
   (sI N [bV]).bind fun x15 =>
   (app 24 a9 [x15]).bind fun x17 =>
   (jQ N stack m) (IntKind.i64.wrap (x8 + 1)) x17
  else
   some a9
def pF (N : Nat) (stack : List (List Int)) : Option (List (List Int)) :=
 (jQ N stack N 0 []).bind fun p2 =>
 sB N p2
def iB (N : Nat) (aG : List Int) (aJ : Int) (aO : Int) (aL : List (List Int)) (aI : List aN) (aW : Int) (x2 : Bool) : Option Bool :=
 some x2
def mP (N : Nat) (aG : List Int) (aJ : Int) (aO : Int) (aL : List (List Int)) (aI : List aN) (aW : Int) : Option Bool :=
 if (aI.length : Int) == 0 then
  some true
 else
  (b5 aI (IntKind.i64.wrap ((aI.length : Int) - 1))).bind fun dX =>
  if dX.outer then
   iB N aG aJ aO aL aI aW dX.taken
  else
   iB N aG aJ aO aL aI aW false
def vE (N : Nat) (aY : Int) (bR : List Int) (dS : Int) (dL : Int) : Option Int :=
 if aY == 8 then
  some 6
 else
  if aY == 10 then
   some 21
  else
   if aY == 11 then
    some (IntKind.i64.wrap (1 + (IntKind.i64.wrap (20 * dL))))
   else
    some 1
def mY (N : Nat) (aY : Int) (bR : List Int) (dS : Int) (dL : Int) (bV : Bool) : Option Int :=
 if bV then
  some 2
 else
  if aY == 11 then
   some (IntKind.i64.wrap (2 * dL))
  else
   some 1
def kW (N : Nat) (aY : Int) (bR : List Int) (dS : Int) (dL : Int) (x5 : Bool) : Option Int :=
 if x5 then
  some 0
 else
  if aY == 4 then
   mY N aY bR dS dL (aY == 4)
  else
   if aY == 5 then
    mY N aY bR dS dL (aY == 5)
   else
    mY N aY bR dS dL (aY == 10)
def u5 (N : Nat) (aY : Int) (bR : List Int) (dS : Int) (dL : Int) : Option Int :=
 if aY == 1 then
  kW N aY bR dS dL (aY == 1)
 else
  if aY == 15 then
   kW N aY bR dS dL (aY == 15)
  else
   if aY == 16 then
    kW N aY bR dS dL (aY == 16)
   else
    kW N aY bR dS dL (aY == 17)
def cF (N : Nat) (aG : List Int) (aJ : Int) (aO : Int) (aL : List (List Int)) (aI : List aN) (aW : Int) : Option (List Int) :=
 (b5 aL (IntKind.i64.wrap ((aL.length : Int) - 1))).bind fun eD =>
 some eD
def yD (N : Nat) : Option Bool :=
 some false
def i5 (N : Nat) (iX : List Int) : Nat → Int → Option (LR (Unit) (Bool))
 | 0,_ => none
 | m + 1,x7 =>
  if decide (x7 < (iX.length : Int)) then
   (b5 iX x7).bind fun x9 =>
   if x9 != 0 then
    some (.ret true)
   else
    (i5 N iX m) (IntKind.i64.wrap (x7 + 1))
  else
   some (.brk ())
def mI (N : Nat) (iX : List Int) : Option Bool :=
 (i5 N iX N 0).bind fun q => match q with
  | .ret v => some v
  | .brk p2 =>
   yD N
def dQ (N : Nat) (aG : List Int) (aJ : Int) (aO : Int) (aL : List (List Int)) (aI : List aN) (aW : Int) (vn : Int) : Option ((List Int) × Int × Int × (List (List Int)) × (List aN) × Int) :=
 (sub aL 0 (IntKind.i64.wrap ((aL.length : Int) - vn))).bind fun x16 =>
 some (aG,aJ,aO,x16,aI,aW)
def gH (N : Nat) (aG : List Int) (aJ : Int) (aO : Int) (aL : List (List Int)) (aI : List aN) (aW : Int) (iX : List Int) : Option (Int × (List Int) × Int × Int × (List (List Int)) × (List aN) × Int) :=
 if decide (64 ≤ (aL.length : Int)) then
  some (4,aG,aJ,aO,aL,aI,aW)
 else
  (app 24 aL [iX]).bind fun x18 =>
  some (0,aG,aJ,aO,x18,aI,aW)
def aAE (N : Nat) (va : List Int) (b : List Int) : Option Bool :=
 some ((aBg va).toList == (aBg b).toList)
def vO (N : Nat) (l0 : List Int) : Option (List Int) :=
 some l0
def fN (N : Nat) : Nat → Int → (List Int) → Option (List Int)
 | 0,_,_ => none
 | m + 1,m9,a9 =>
  if decide (0 < m9) then
   (app 1 a9 [IntKind.u8.wrap m9]).bind fun eM =>
   (shr .u32 m9 8).bind fun x7 =>
   (fN N m) x7 eM
  else
   some a9
def jC (N : Nat) (vn : Int) : Option (List Int) :=
 (fN N N vn []).bind fun p2 =>
 vO N p2
def nS (N : Nat) (v : Bool) : Option (List Int) :=
 if v then
  (jC N 1).bind fun x4 =>
  some x4
 else
  (jC N 0).bind fun x5 =>
  some x5
def cU (N : Nat) (aG : List Int) (aJ : Int) (aO : Int) (aL : List (List Int)) (aI : List aN) (aW : Int) (vn : Int) (iX : List Int) : Option ((List Int) × Int × Int × (List (List Int)) × (List aN) × Int) :=
 (dQ N aG aJ aO aL aI aW vn).bind fun x8 =>
 (app 24 x8.2.2.2.1 [iX]).bind fun x16 =>
 some (x8.1,x8.2.1,x8.2.2.1,x16,x8.2.2.2.2.1,x8.2.2.2.2.2)
def aDA (N : Nat) (l0 : List Int) : Option (List Int) :=
 some l0
def qK (N : Nat) (vn : Int) : Nat → Int → (List Int) → Option (List Int)
 | 0,_,_ => none
 | m + 1,x18,a9 =>
  if decide (x18 < 8) then
   (shr .u64 (IntKind.u64.wrap (8 * vn)) (IntKind.i64.wrap (56 - (IntKind.i64.wrap (8 * x18))))).bind fun x27 =>
   (app 1 a9 [IntKind.u8.wrap x27]).bind fun j4 =>
   (qK N vn m) (IntKind.i64.wrap (x18 + 1)) j4
  else
   some a9
def aC4 (N : Nat) (vn : Int) : Option (List Int) :=
 (mkl 1 0 (IntKind.u64.wrap (1 + (Int.tmod (IntKind.u64.wrap (64 - (Int.tmod (IntKind.u64.wrap (vn + 9)) 64))) 64))) (IntKind.u64.wrap (9 + (Int.tmod (IntKind.u64.wrap (64 - (Int.tmod (IntKind.u64.wrap (vn + 9)) 64))) 64)))).bind fun x15 =>
 (b5 x15 0).bind fun x17 =>
 (qK N vn N 0 (x15.set (Int.toNat 0) 128)).bind fun p2 =>
 aDA N p2
def aDP (N : Nat) (l0 : List Int) : Option (List Int) :=
 some l0
def qE (N : Nat) (parts : List (List Int)) : Nat → Int → (List Int) → Option (List Int)
 | 0,_,_ => none
 | m + 1,x8,a9 =>
  if decide (x8 < (parts.length : Int)) then
   (b5 parts x8).bind fun bV =>
   (app 1 a9 bV).bind fun bH =>
   (qE N parts m) (IntKind.i64.wrap (x8 + 1)) bH
  else
   some a9
def aBA (N : Nat) (parts : List (List Int)) : Option (List Int) :=
 (qE N parts N 0 []).bind fun p2 =>
 aDP N p2
def i8 (N : Nat) (x : Int) (k : Int) : Option Int :=
 (shl .u32 x (bits .and .u64 (IntKind.u64.wrap k) 31)).bind fun b4 =>
 (shr .u32 x (IntKind.u64.wrap (32 - (bits .and .u64 (IntKind.u64.wrap k) 31)))).bind fun x15 =>
 some (bits .or .u32 b4 x15)
def cX (N : Nat) (x : Int) (vn : Int) : Option Int :=
 (i8 N x (IntKind.i64.wrap (0 - vn))).bind fun x8 =>
 some x8
def pU (N : Nat) (cW : List Int) : Option (List Int) :=
 (aX 64 cW).bind fun q =>
 some cW
def gO (N : Nat) : Nat → Int → (List Int) → Option (List Int)
 | 0,_,_ => none
 | m + 1,vi,l1_2 =>
  if decide (vi < 64) then
   (bJ 64 l1_2 (IntKind.i64.wrap (vi - 15))).bind fun x37 =>
   (cX N x37 7).bind fun x39 =>
   (cX N x37 18).bind fun x44 =>
   (shr .u32 x37 3).bind fun x50 =>
   (bJ 64 l1_2 (IntKind.i64.wrap (vi - 2))).bind fun x54 =>
   (cX N x54 17).bind fun x56 =>
   (cX N x54 19).bind fun x61 =>
   (shr .u32 x54 10).bind fun x67 =>
   (bJ 64 l1_2 (IntKind.i64.wrap (vi - 16))).bind fun x72 =>
   (bJ 64 l1_2 (IntKind.i64.wrap (vi - 7))).bind fun x78 =>
   (bJ 64 l1_2 vi).bind fun x83 =>
   (gO N m) (IntKind.i64.wrap (vi + 1)) (l1_2.set (Int.toNat vi) (IntKind.u32.wrap ((IntKind.u32.wrap ((IntKind.u32.wrap (x72 + (bits .xor .u32 (bits .xor .u32 x39 x44) x50))) + x78)) + (bits .xor .u32 (bits .xor .u32 x56 x61) x67))))
  else
   some l1_2
def qC (N : Nat) (l1 : List Int) : Option (List Int) :=
 (gO N N 16 l1).bind fun p3 =>
 pU N p3
def tT (N : Nat) (block : List Int) (x9 : Int) (rec : Int → (List Int) → Option (List Int)) (dE : List Int) : Option (List Int) :=
 rec (IntKind.i64.wrap (x9 + 1)) dE
def dP (N : Nat) (block : List Int) (x9 : Int) : Nat → Int → (List Int) → Option (List Int)
 | 0,_,_ => none
 | m + 1,eM,iP =>
  if decide (eM < 4) then
   (bJ 64 iP x9).bind fun x17 =>
   (shl .u32 x17 8).bind fun x19 =>
   (bJ 64 block (IntKind.i64.wrap ((IntKind.i64.wrap (4 * x9)) + eM))).bind fun fW =>
   (dP N block x9 m) (IntKind.i64.wrap (eM + 1)) (iP.set (Int.toNat x9) (bits .or .u32 x19 (IntKind.u32.wrap fW)))
  else
   some iP
def fR (N : Nat) (block : List Int) : Nat → Int → (List Int) → Option (List Int)
 | 0,_,_ => none
 | m + 1,x9,l2 =>
  if decide (x9 < 16) then
   (dP N block x9 N 0 l2).bind fun p6 =>
   tT N block x9 (fR N block m) p6
  else
   some l2
def oK (N : Nat) (block : List Int) : Option (List Int) :=
 (fR N block N 0 (List.replicate 64 0)).bind fun p4 =>
 qC N p4
def pV (N : Nat) (cE : List Int) (va : Int) (b : Int) (c : Int) (d : Int) (ve : Int) (f : Int) (g : Int) (vh : Int) : Option (List Int) :=
 (bJ 8 cE 0).bind fun x98 =>
 (bJ 8 cE 1).bind fun aG3 =>
 (bJ 8 cE 2).bind fun eG =>
 (bJ 8 cE 3).bind fun aCg =>
 (bJ 8 cE 4).bind fun aHH =>
 (bJ 8 cE 5).bind fun aNW =>
 (bJ 8 cE 6).bind fun aOi =>
 (bJ 8 cE 7).bind fun nA =>
 some [IntKind.u32.wrap (x98 + va),IntKind.u32.wrap (aG3 + b),IntKind.u32.wrap (eG + c),IntKind.u32.wrap (aCg + d),IntKind.u32.wrap (aHH + ve),IntKind.u32.wrap (aNW + f),IntKind.u32.wrap (aOi + g),IntKind.u32.wrap (nA + vh)]
def gR (N : Nat) (cE : List Int) (x18 : (List Int)) : Nat → Int → Int → Int → Int → Int → Int → Int → Int → Int → Option (Int × Int × Int × Int × Int × Int × Int × Int)
 | 0,_,_,_,_,_,_,_,_,_ => none
 | m + 1,va_1,b_1,c_1,d_1,ve_1,f_1,g_1,vh_1,x35 =>
  if decide (x35 < 64) then
   (cX N ve_1 6).bind fun x40 =>
   (cX N ve_1 11).bind fun x42 =>
   (cX N ve_1 25).bind fun x45 =>
   (bJ 64 aCF x35).bind fun x58 =>
   (bJ 64 x18 x35).bind fun x62 =>
   (cX N va_1 2).bind fun x66 =>
   (cX N va_1 13).bind fun x68 =>
   (cX N va_1 22).bind fun x71 =>
   (gR N cE x18 m) (IntKind.u32.wrap ((IntKind.u32.wrap ((IntKind.u32.wrap ((IntKind.u32.wrap ((IntKind.u32.wrap (vh_1 + (bits .xor .u32 (bits .xor .u32 x40 x42) x45))) + (bits .xor .u32 (bits .and .u32 ve_1 f_1) (bits .and .u32 (bits .xor .u32 (IntKind.max .u32) ve_1) g_1)))) + x58)) + x62)) + (IntKind.u32.wrap ((bits .xor .u32 (bits .xor .u32 x66 x68) x71) + (bits .xor .u32 (bits .xor .u32 (bits .and .u32 va_1 b_1) (bits .and .u32 va_1 c_1)) (bits .and .u32 b_1 c_1)))))) va_1 b_1 c_1 (IntKind.u32.wrap (d_1 + (IntKind.u32.wrap ((IntKind.u32.wrap ((IntKind.u32.wrap ((IntKind.u32.wrap (vh_1 + (bits .xor .u32 (bits .xor .u32 x40 x42) x45))) + (bits .xor .u32 (bits .and .u32 ve_1 f_1) (bits .and .u32 (bits .xor .u32 (IntKind.max .u32) ve_1) g_1)))) + x58)) + x62)))) ve_1 f_1 g_1 (IntKind.i64.wrap (x35 + 1))
  else
   some (va_1,b_1,c_1,d_1,ve_1,f_1,g_1,vh_1)
def k5 (N : Nat) (cE : List Int) (block : List Int) : Option (List Int) :=
 (aX 64 block).bind fun q =>
 (oK N block).bind fun x18 =>
 (aX 64 x18).bind fun q_1 =>
 (bJ 8 cE 0).bind fun x19 =>
 (bJ 8 cE 1).bind fun dI =>
 (bJ 8 cE 2).bind fun eN =>
 (bJ 8 cE 3).bind fun x25 =>
 (bJ 8 cE 4).bind fun x27 =>
 (bJ 8 cE 5).bind fun x29 =>
 (bJ 8 cE 6).bind fun cM =>
 (bJ 8 cE 7).bind fun jU =>
 (gR N cE x18 N x19 dI eN x25 x27 x29 cM jU 0).bind fun p2 =>
 pV N cE p2.1 p2.2.1 p2.2.2.1 p2.2.2.2.1 p2.2.2.2.2.1 p2.2.2.2.2.2.1 p2.2.2.2.2.2.2.1 p2.2.2.2.2.2.2.2
def aBs (N : Nat) (cW : List Int) : Option (List Int) :=
 (aX 32 cW).bind fun q =>
 some cW
def sJ (N : Nat) (l1 : List Int) : Nat → Int → (List Int) → Option (List Int)
 | 0,_,_ => none
 | m + 1,cM,l2 =>
  if decide (cM < 32) then
   (bJ 8 l1 (IntKind.i64.wrap (Int.tdiv cM 4))).bind fun x37 =>
   (shr .u32 x37 (IntKind.i64.wrap (24 - (IntKind.i64.wrap ((Int.tmod cM 4) * 8))))).bind fun x43 =>
   (bJ 32 l2 cM).bind fun x45 =>
   (sJ N l1 m) (IntKind.i64.wrap (cM + 1)) (l2.set (Int.toNat cM) (IntKind.u8.wrap x43))
  else
   some l2
def aBk (N : Nat) (l1 : List Int) : Option (List Int) :=
 (sJ N l1 N 0 (List.replicate 32 0)).bind fun p3 =>
 aBs N p3
def sG (N : Nat) (bH : (List Int)) : Nat → Int → (List Int) → Option (List Int)
 | 0,_,_ => none
 | m + 1,x19,l1_2 =>
  if decide (x19 < (IntKind.i64.wrap (Int.tdiv (bH.length : Int) 64))) then
   (aX 8 l1_2).bind fun q_1 =>
   (sub bH (IntKind.i64.wrap (64 * x19)) (bH.length : Int)).bind fun x26 =>
   (q6 64 x26).bind fun x27 =>
   (k5 N l1_2 x27).bind fun x29 =>
   (aX 8 x29).bind fun q_2 =>
   (sG N bH m) (IntKind.i64.wrap (x19 + 1)) x29
  else
   some l1_2
def xR (N : Nat) (b : List Int) : Option (List Int) :=
 (aC4 N (IntKind.u64.wrap (b.length : Int))).bind fun eM =>
 (aBA N [b,eM]).bind fun bH =>
 (sG N bH N 0 vV).bind fun p4 =>
 aBk N p4
def nH (N : Nat) (l1 : List Int) : Option (List Int) :=
 (aX 4 l1).bind fun q =>
 some l1
def fF (N : Nat) (vh : List Int) : Nat → Int → (List Int) → Option (List Int)
 | 0,_,_ => none
 | m + 1,x8,cW =>
  if decide (x8 < 32) then
   (bJ 32 vh x8).bind fun b4 =>
   (bJ 4 cW (IntKind.i64.wrap (3 - (IntKind.i64.wrap (Int.tdiv x8 8))))).bind fun x17 =>
   (shl .u64 x17 8).bind fun x19 =>
   (fF N vh m) (IntKind.i64.wrap (x8 + 1)) (cW.set (Int.toNat (IntKind.i64.wrap (3 - (IntKind.i64.wrap (Int.tdiv x8 8))))) (bits .or .u64 x19 (IntKind.u64.wrap b4)))
  else
   some cW
def fO (N : Nat) (vh : List Int) : Option (List Int) :=
 (aX 32 vh).bind fun q_1 =>
 (fF N vh N 0 (List.replicate 4 0)).bind fun p2 =>
 nH N p2
def fG (N : Nat) (vn : Int) : Option (List Int) :=
 some [vn,0,0,0]
def pE (N : Nat) : Option (List Int) :=
 some [18446744073709515503,18446744073709551615,18446744073709551615,18446744073709551615]
def aAA (N : Nat) : Option Int :=
 some 0
def lY (N : Nat) (va : List Int) (b : List Int) : Nat → Int → Option (LR (Unit) (Int))
 | 0,_ => none
 | m + 1,vi =>
  if decide (0 ≤ vi) then
   (bJ 4 va vi).bind fun b4 =>
   (bJ 4 b vi).bind fun bH =>
   if decide (b4 < bH) then
    some (.ret (-1))
   else
    if decide (bH < b4) then
     some (.ret 1)
    else
     (lY N va b m) (IntKind.i64.wrap (vi - 1))
  else
   some (.brk ())
def nC (N : Nat) (va : List Int) (b : List Int) : Option Int :=
 (lY N va b N 3).bind fun q => match q with
  | .ret v => some v
  | .brk p2 =>
   aAA N
def nQ (N : Nat) : Option (List Int) :=
 some [18446744073709533559,18446744073709551615,18446744073709551615,9223372036854775807]
def gZ (N : Nat) (x_3 : Int) (aJL : Int) : Option Int :=
 (aLn (⟨#[0,1,2,2,3,3,3,3,4,4,4,4,4,4,4,4,5,5,5,5,5,5,5,5,5,5,5,5,5,5,5,5,6,6,6,6,6,6,6,6,6,6,6,6,6,6,6,6,6,6,6,6,6,6,6,6,6,6,6,6,6,6,6,6,7,7,7,7,7,7,7,7,7,7,7,7,7,7,7,7,7,7,7,7,7,7,7,7,7,7,7,7,7,7,7,7,7,7,7,7,7,7,7,7,7,7,7,7,7,7,7,7,7,7,7,7,7,7,7,7,7,7,7,7,7,7,7,7,8,8,8,8,8,8,8,8,8,8,8,8,8,8,8,8,8,8,8,8,8,8,8,8,8,8,8,8,8,8,8,8,8,8,8,8,8,8,8,8,8,8,8,8,8,8,8,8,8,8,8,8,8,8,8,8,8,8,8,8,8,8,8,8,8,8,8,8,8,8,8,8,8,8,8,8,8,8,8,8,8,8,8,8,8,8,8,8,8,8,8,8,8,8,8,8,8,8,8,8,8,8,8,8,8,8,8,8,8,8,8,8,8,8,8,8,8,8,8,8,8,8,8,8,8,8,8,8]⟩) (IntKind.u8.wrap x_3)).bind fun c5 =>
 some (IntKind.i64.wrap (aJL + (IntKind.i64.wrap c5)))
def j5 (N : Nat) (x_2 : Int) (m9 : Int) : Option Int :=
 if decide (256 ≤ x_2) then
  (shr .u64 x_2 8).bind fun x16 =>
  gZ N x16 (IntKind.i64.wrap (m9 + 8))
 else
  gZ N x_2 m9
def jT (N : Nat) (x_1 : Int) (vn : Int) : Option Int :=
 if decide (65536 ≤ x_1) then
  (shr .u64 x_1 16).bind fun bV =>
  j5 N bV (IntKind.i64.wrap (vn + 16))
 else
  j5 N x_1 vn
def pY (N : Nat) (x : Int) : Option Int :=
 if decide (4294967296 ≤ x) then
  (shr .u64 x 32).bind fun x6 =>
  jT N x6 32
 else
  jT N x 0
def aAG (N : Nat) : Option Int :=
 some 0
def qN (N : Nat) (va : List Int) : Nat → Int → Option (LR (Unit) (Int))
 | 0,_ => none
 | m + 1,vi =>
  if decide (0 ≤ vi) then
   (bJ 4 va vi).bind fun x9 =>
   if x9 != 0 then
    (pY N x9).bind fun x17 =>
    some (.ret (IntKind.i64.wrap ((IntKind.i64.wrap (64 * vi)) + x17)))
   else
    (qN N va m) (IntKind.i64.wrap (vi - 1))
  else
   some (.brk ())
def aBG (N : Nat) (va : List Int) : Option Int :=
 (qN N va N 3).bind fun q => match q with
  | .ret v => some v
  | .brk p2 =>
   aAG N
def kH (N : Nat) (x : Int) (y : Int) : Option (Int × Int) :=
 (shr .u64 x 32).bind fun x17 =>
 (shr .u64 y 32).bind fun dI =>
 (shr .u64 (IntKind.u64.wrap ((bits .and .u64 x 4294967295) * (bits .and .u64 y 4294967295))) 32).bind fun x29 =>
 (shr .u64 (IntKind.u64.wrap ((IntKind.u64.wrap (x17 * (bits .and .u64 y 4294967295))) + x29)) 32).bind fun dH =>
 (shr .u64 (IntKind.u64.wrap ((bits .and .u64 (IntKind.u64.wrap ((IntKind.u64.wrap (x17 * (bits .and .u64 y 4294967295))) + x29)) 4294967295) + (IntKind.u64.wrap ((bits .and .u64 x 4294967295) * dI)))) 32).bind fun x46 =>
 some (IntKind.u64.wrap ((IntKind.u64.wrap ((IntKind.u64.wrap (x17 * dI)) + dH)) + x46),IntKind.u64.wrap (x * y))
def dB (N : Nat) (x y c : Int) : Option (Int × Int) := q8 x y c
def wL (N : Nat) (l2 : List Int) : Option ((List Int) × (List Int)) :=
 (aX 8 l2).bind fun q =>
 (tM l2 4 8).bind fun x63 =>
 (q6 4 x63).bind fun x64 =>
 (tM l2 0 4).bind fun x66 =>
 (q6 4 x66).bind fun x67 =>
 some (x64,x67)
def v6 (N : Nat) (va : List Int) (b : List Int) (bH : Int) (rec : Int → (List Int) → Option (List Int)) (j8 : List Int) : Option (List Int) :=
 rec (IntKind.i64.wrap (bH + 1)) j8
def vY (N : Nat) (va : List Int) (b : List Int) (bH : Int) (rec : Int → (List Int) → Option (List Int)) (jH : Int) (w9 : List Int) : Option (List Int) :=
 (bJ 8 w9 (IntKind.i64.wrap (bH + 4))).bind fun x61 =>
 v6 N va b bH rec (w9.set (Int.toNat (IntKind.i64.wrap (bH + 4))) jH)
def cO (N : Nat) (va : List Int) (b : List Int) (bH : Int) : Nat → Int → Int → (List Int) → Option (Int × (List Int))
 | 0,_,_,_ => none
 | m + 1,carry_1,x17,l4_3 =>
  if decide (x17 < 4) then
   (bJ 4 va bH).bind fun c5 =>
   (bJ 4 b x17).bind fun x25 =>
   (kH N c5 x25).bind fun x27 =>
   (bJ 8 l4_3 (IntKind.i64.wrap (bH + x17))).bind fun x35 =>
   (dB N x27.2 x35 0).bind fun x37 =>
   (dB N x37.1 carry_1 0).bind fun x46 =>
   (cO N va b bH m) (IntKind.u64.wrap ((IntKind.u64.wrap (x27.1 + x37.2)) + x46.2)) (IntKind.i64.wrap (x17 + 1)) (l4_3.set (Int.toNat (IntKind.i64.wrap (bH + x17))) x46.1)
  else
   some (carry_1,l4_3)
def i9 (N : Nat) (va : List Int) (b : List Int) : Nat → Int → (List Int) → Option (List Int)
 | 0,_,_ => none
 | m + 1,bH,l4 =>
  if decide (bH < 4) then
   (cO N va b bH N 0 0 l4).bind fun p5 =>
   vY N va b bH (i9 N va b m) p5.1 p5.2
  else
   some l4
def xF (N : Nat) (va : List Int) (b : List Int) : Option ((List Int) × (List Int)) :=
 (i9 N va b N 0 (List.replicate 8 0)).bind fun p2 =>
 wL N p2
def vQ (N : Nat) (aGs : Int) (l0 : List Int) : Option ((List Int) × Int) :=
 (aX 4 l0).bind fun q =>
 some (l0,aGs)
def lR (N : Nat) : Nat → Int → Int → (List Int) → Option (Int × (List Int))
 | 0,_,_,_ => none
 | m + 1,low_2,x7,a9 =>
  if decide (x7 < 4) then
   (bJ 4 a9 x7).bind fun eM =>
   (shl .u64 eM 1).bind fun bH =>
   (shr .u64 eM 63).bind fun dX =>
   (lR N m) dX (IntKind.i64.wrap (x7 + 1)) (a9.set (Int.toNat x7) (bits .or .u64 bH low_2))
  else
   some (low_2,a9)
def qV (N : Nat) (va : List Int) (low : Int) : Option ((List Int) × Int) :=
 (lR N N low 0 va).bind fun p2 =>
 vQ N p2.1 p2.2
def qA (N : Nat) (x y c : Int) : Option (Int × Int) := aDm x y c
def v9 (N : Nat) (borrow : Int) (l1 : List Int) : Option ((List Int) × Bool) :=
 (aX 4 l1).bind fun q =>
 some (l1,borrow != 0)
def jF (N : Nat) (va : List Int) (b : List Int) : Nat → Int → Int → (List Int) → Option (Int × (List Int))
 | 0,_,_,_ => none
 | m + 1,borrow_1,x9,l3 =>
  if decide (x9 < 4) then
   (bJ 4 va x9).bind fun x15 =>
   (bJ 4 b x9).bind fun x18 =>
   (qA N x15 x18 borrow_1).bind fun dI =>
   (bJ 4 l3 x9).bind fun fW =>
   (jF N va b m) dI.2 (IntKind.i64.wrap (x9 + 1)) (l3.set (Int.toNat x9) dI.1)
  else
   some (borrow_1,l3)
def qS (N : Nat) (va : List Int) (b : List Int) : Option ((List Int) × Bool) :=
 (jF N va b N 0 0 (List.replicate 4 0)).bind fun p2 =>
 v9 N p2.1 p2.2
def aAJ (N : Nat) (l0 : List Int) (l1 : List Int) : Option ((List Int) × (List Int) × Bool) :=
 (aX 4 l0).bind fun q_2 =>
 (aX 4 l1).bind fun q_3 =>
 some (l0,l1,true)
def aAD (N : Nat) (b : List Int) (cH : Int) (rec : Int → (List Int) → (List Int) → (List Int) → Option ((List Int) × (List Int))) (jM : List Int) (dE : List Int) (eK : List Int) : Option ((List Int) × (List Int)) :=
 rec (IntKind.i64.wrap (cH - 1)) jM dE eK
def s7 (N : Nat) (b : List Int) (cH : Int) (bit : Int) (rec : Int → (List Int) → (List Int) → (List Int) → Option (LR ((List Int) × (List Int) × (List Int)) ((List Int) × (List Int)))) (aHz : List Int) (aHC : List Int) (lJ : List Int) : Option (LR ((List Int) × (List Int) × (List Int)) ((List Int) × (List Int))) :=
 rec (IntKind.i64.wrap (bit - 1)) aHz aHC lJ
def qZ (N : Nat) (b : List Int) (cH : Int) (bit : Int) (iP : List Int) (x40 : (List Int) × Int) (x46 : (List Int) × Int) (rec : Int → (List Int) → (List Int) → (List Int) → Option (LR ((List Int) × (List Int) × (List Int)) ((List Int) × (List Int)))) (x56 : Bool) : Option (LR ((List Int) × (List Int) × (List Int)) ((List Int) × (List Int))) :=
 if x56 then
  (qS N x46.1 b).bind fun x60 =>
  (aX 4 x60.1).bind fun q_8 =>
  (bJ 4 iP cH).bind fun x64 =>
  (shl .u64 1 bit).bind fun x67 =>
  s7 N b cH bit rec x40.1 (iP.set (Int.toNat cH) (bits .or .u64 x64 x67)) x60.1
 else
  s7 N b cH bit rec x40.1 iP x46.1
def s8 (N : Nat) (b : List Int) (cH : Int) (bit : Int) (iF : List Int) (iP : List Int) (cJ : List Int) (rec : Int → (List Int) → (List Int) → (List Int) → Option (LR ((List Int) × (List Int) × (List Int)) ((List Int) × (List Int)))) (x37 : Bool) : Option (LR ((List Int) × (List Int) × (List Int)) ((List Int) × (List Int))) :=
 if x37 then
  some (.ret (iP,cJ))
 else
  (aX 4 iF).bind fun q_4 =>
  (qV N iF 0).bind fun x40 =>
  (aX 4 x40.1).bind fun q_5 =>
  (aX 4 cJ).bind fun q_6 =>
  (qV N cJ x40.2).bind fun x46 =>
  (aX 4 x46.1).bind fun q_7 =>
  if x46.2 != 0 then
   qZ N b cH bit iP x40 x46 rec true
  else
   (nC N x46.1 b).bind fun x54 =>
   qZ N b cH bit iP x40 x46 rec (decide (0 ≤ x54))
def cZ (N : Nat) (b : List Int) (cH : Int) : Nat → Int → (List Int) → (List Int) → (List Int) → Option (LR ((List Int) × (List Int) × (List Int)) ((List Int) × (List Int)))
 | 0,_,_,_,_ => none
 | m + 1,bit,iF,iP,cJ =>
  if decide (0 ≤ bit) then
   (aX 4 cJ).bind fun q_9 =>
   if cJ == [0,0,0,0] then
    (aX 4 iF).bind fun aTi =>
    s8 N b cH bit iF iP cJ (cZ N b cH m) (iF == [0,0,0,0])
   else
    s8 N b cH bit iF iP cJ (cZ N b cH m) false
  else
   some (.brk (iF,iP,cJ))
def l8 (N : Nat) (b : List Int) : Nat → Int → (List Int) → (List Int) → (List Int) → Option ((List Int) × (List Int))
 | 0,_,_,_,_ => none
 | m + 1,cH,a9,l2,l3 =>
  if decide (0 ≤ cH) then
   (cZ N b cH N 63 a9 l2 l3).bind fun q => match q with
    | .ret p4_1 =>
     some (p4_1.1,p4_1.2)
    | .brk p4 =>
     aAD N b cH (l8 N b m) p4.1 p4.2.1 p4.2.2
  else
   some (l2,l3)
def aAd (N : Nat) (hi : List Int) (lo : List Int) (b : List Int) : Option ((List Int) × (List Int) × Bool) :=
 (aX 4 b).bind fun q =>
 (aX 4 hi).bind fun q_1 =>
 (nC N b hi).bind fun x16 =>
 if decide (x16 ≤ 0) then
  some ([0,0,0,0],[0,0,0,0],false)
 else
  (l8 N b N 3 lo (List.replicate 4 0) hi).bind fun p2 =>
  aAJ N p2.1 p2.2
def qX (N : Nat) (va : List Int) (vm : List Int) : Option (List Int) :=
 (aX 4 va).bind fun q =>
 (aX 4 vm).bind fun q_1 =>
 (nC N va vm).bind fun bV =>
 if decide (bV < 0) then
  some va
 else
  (aAd N [0,0,0,0] va vm).bind fun x17 =>
  (aX 4 x17.1).bind fun q_2 =>
  (aX 4 x17.2.1).bind fun q_3 =>
  some x17.2.1
def wA (N : Nat) (va : List Int) (b : List Int) (vm : List Int) : Option (List Int) :=
 (aX 4 vm).bind fun q =>
 if vm == [0,0,0,0] then
  some [0,0,0,0]
 else
  (aX 4 va).bind fun q_1 =>
  (aX 4 b).bind fun q_2 =>
  (xF N va b).bind fun x19 =>
  (aX 4 x19.1).bind fun q_3 =>
  (aX 4 x19.2).bind fun q_4 =>
  (qX N x19.1 vm).bind fun x25 =>
  (aAd N x25 x19.2 vm).bind fun x28 =>
  (aX 4 x28.1).bind fun q_5 =>
  (aX 4 x28.2.1).bind fun q_6 =>
  some x28.2.1
def uG (N : Nat) (va : List Int) (b : List Int) : Option (List Int) :=
 (aX 4 va).bind fun q =>
 (aX 4 b).bind fun q_1 =>
 (pE N).bind fun x7 =>
 (wA N va b x7).bind fun x8 =>
 (aX 4 x8).bind fun q_2 =>
 some x8
def yH (N : Nat) (l1 : List Int) : Option (List Int) :=
 (aX 4 l1).bind fun q_2 =>
 some l1
def rW (N : Nat) (va : List Int) (ve : List Int) (b4 : Int) (eD : Int) (rec : Int → (List Int) → Option (List Int)) (eK : List Int) : Option (List Int) :=
 rec (IntKind.i64.wrap (eD + 1)) eK
def kD (N : Nat) (va : List Int) (ve : List Int) (b4 : Int) : Nat → Int → (List Int) → Option (List Int)
 | 0,_,_ => none
 | m + 1,eD,l3 =>
  if decide (eD < b4) then
   (aX 4 l3).bind fun q_3 =>
   (uG N l3 l3).bind fun c5 =>
   (aX 4 c5).bind fun q_4 =>
   (bJ 4 ve (IntKind.i64.wrap (Int.tdiv (IntKind.i64.wrap ((IntKind.i64.wrap (b4 - 1)) - eD)) 64))).bind fun x25 =>
   (shr .u64 x25 (Int.tmod (IntKind.i64.wrap ((IntKind.i64.wrap (b4 - 1)) - eD)) 64)).bind fun x29 =>
   if (bits .and .u64 x29 1) == 1 then
    (aX 4 va).bind fun q_5 =>
    (uG N c5 va).bind fun dH =>
    (aX 4 dH).bind fun q_6 =>
    rW N va ve b4 eD (kD N va ve b4 m) dH
   else
    rW N va ve b4 eD (kD N va ve b4 m) c5
  else
   some l3
def uK (N : Nat) (va : List Int) (ve : List Int) : Option (List Int) :=
 (fG N 1).bind fun x9 =>
 (aX 4 x9).bind fun q =>
 (aX 4 ve).bind fun q_1 =>
 (aBG N ve).bind fun b4 =>
 (kD N va ve b4 N 0 x9).bind fun p2 =>
 yH N p2
def kU (N : Nat) (va : List Int) (b4 : Bool) : Option Bool :=
 if b4 then
  some false
 else
  (aX 4 va).bind fun q =>
  (nQ N).bind fun eD =>
  (uK N va eD).bind fun bH =>
  (fG N 1).bind fun x15 =>
  (aX 4 bH).bind fun q_1 =>
  (aX 4 x15).bind fun q_2 =>
  some (bH == x15)
def oZ (N : Nat) (va : List Int) : Option Bool :=
 (aX 4 va).bind fun q_3 =>
 if va == [0,0,0,0] then
  kU N va true
 else
  (pE N).bind fun x8 =>
  (nC N va x8).bind fun x9 =>
  kU N va (decide (0 ≤ x9))
def wP (N : Nat) (x2 : Bool) : Option Bool :=
 some x2
def pX (N : Nat) (p : List Int) : Option Bool :=
 (aX 4 p).bind fun q =>
 (fG N 1).bind fun x4 =>
 (aX 4 x4).bind fun q_1 =>
 if !(p == x4) then
  (oZ N p).bind fun x8 =>
  wP N x8
 else
  wP N false
def nV (N : Nat) (va : List Int) : Option Bool :=
 (aX 4 va).bind fun q =>
 (nQ N).bind fun x4 =>
 (nC N va x4).bind fun x5 =>
 some (decide (x5 < 0))
def nW (N : Nat) (eD : (List Int)) (x18 : (List Int)) (x29 : Bool) : Option ((List Int) × (List Int) × Int) :=
 if x29 then
  some (List.replicate 4 0,List.replicate 4 0,5)
 else
  some (eD,x18,0)
def qM (N : Nat) (b : List Int) : Option ((List Int) × (List Int) × Int) :=
 if (b.length : Int) != 64 then
  some (List.replicate 4 0,List.replicate 4 0,8)
 else
  (sub b 0 32).bind fun bV =>
  (q6 32 bV).bind fun b4 =>
  (fO N b4).bind fun eD =>
  (sub b 32 (b.length : Int)).bind fun x15 =>
  (q6 32 x15).bind fun x16 =>
  (fO N x16).bind fun x18 =>
  (aX 4 eD).bind fun q =>
  (aX 4 x18).bind fun q_1 =>
  (nV N eD).bind fun c5 =>
  if !c5 then
   nW N eD x18 true
  else
   (nV N x18).bind fun x27 =>
   nW N eD x18 (!x27)
def tA (N : Nat) (ve : List Int) : Option (List Int) :=
 (fG N 4).bind fun x3 =>
 (aX 4 ve).bind fun q =>
 (uK N x3 ve).bind fun x5 =>
 (aX 4 x5).bind fun q_1 =>
 some x5
def wU (N : Nat) (l1 : List Int) : Option (List Int) :=
 (aX 32 l1).bind fun q =>
 some l1
def jI (N : Nat) (va : List Int) : Nat → Int → (List Int) → Option (List Int)
 | 0,_,_ => none
 | m + 1,x5,l2 =>
  if decide (x5 < 32) then
   (bJ 4 va (IntKind.i64.wrap (3 - (IntKind.i64.wrap (Int.tdiv x5 8))))).bind fun eM =>
   (shr .u64 eM (IntKind.i64.wrap (56 - (IntKind.i64.wrap ((Int.tmod x5 8) * 8))))).bind fun x18 =>
   (bJ 32 l2 x5).bind fun dX =>
   (jI N va m) (IntKind.i64.wrap (x5 + 1)) (l2.set (Int.toNat x5) (IntKind.u8.wrap x18))
  else
   some l2
def sL (N : Nat) (va : List Int) : Option (List Int) :=
 (jI N va N 0 (List.replicate 32 0)).bind fun p2 =>
 wU N p2
def aCL (N : Nat) (l0 : List Int) : Option (List Int) :=
 some l0
def nU (N : Nat) (parts : List (List Int)) : Nat → Int → (List Int) → Option (List Int)
 | 0,_,_ => none
 | m + 1,x8,a9 =>
  if decide (x8 < (parts.length : Int)) then
   (b5 parts x8).bind fun bV =>
   (aX 32 bV).bind fun q =>
   (app 1 a9 bV).bind fun bH =>
   (nU N parts m) (IntKind.i64.wrap (x8 + 1)) bH
  else
   some a9
def xD (N : Nat) (parts : List (List Int)) : Option (List Int) :=
 (nU N parts N 0 []).bind fun p2 =>
 aCL N p2
def vH (N : Nat) (tag : ByteArray) (b : List Int) : Option (List Int) :=
 (stb tag).bind fun x7 =>
 (xR N x7).bind fun x8 =>
 (aX 32 x8).bind fun q =>
 (aBA N [x8,x8,b]).bind fun eD =>
 (xR N eD).bind fun bH =>
 (aX 32 bH).bind fun q_1 =>
 some bH
def wH (N : Nat) (jH : Int) (l1 : List Int) : Option ((List Int) × Bool) :=
 (aX 4 l1).bind fun q =>
 some (l1,jH != 0)
def jB (N : Nat) (va : List Int) (b : List Int) : Nat → Int → Int → (List Int) → Option (Int × (List Int))
 | 0,_,_,_ => none
 | m + 1,carry_1,x9,l3 =>
  if decide (x9 < 4) then
   (bJ 4 va x9).bind fun x15 =>
   (bJ 4 b x9).bind fun x18 =>
   (dB N x15 x18 carry_1).bind fun dI =>
   (bJ 4 l3 x9).bind fun fW =>
   (jB N va b m) dI.2 (IntKind.i64.wrap (x9 + 1)) (l3.set (Int.toNat x9) dI.1)
  else
   some (carry_1,l3)
def uO (N : Nat) (va : List Int) (b : List Int) : Option ((List Int) × Bool) :=
 (jB N va b N 0 0 (List.replicate 4 0)).bind fun p2 =>
 wH N p2.1 p2.2
def lT (N : Nat) (l1 : List Int) : Option (List Int) :=
 (aX 4 l1).bind fun q_4 =>
 some l1
def lO (N : Nat) (vm : List Int) (dX : (List Int) × Bool) (x29 : Bool) : Option (List Int) :=
 if x29 then
  (qS N dX.1 vm).bind fun jU =>
  (aX 4 jU.1).bind fun q_5 =>
  lT N jU.1
 else
  lT N dX.1
def wG (N : Nat) (va : List Int) (b : List Int) (vm : List Int) : Option (List Int) :=
 (aX 4 vm).bind fun q =>
 if vm == [0,0,0,0] then
  some [0,0,0,0]
 else
  (aX 4 va).bind fun q_1 =>
  (qX N va vm).bind fun x16 =>
  (aX 4 b).bind fun q_2 =>
  (qX N b vm).bind fun x19 =>
  (uO N x16 x19).bind fun dX =>
  (aX 4 dX.1).bind fun q_3 =>
  if dX.2 then
   lO N vm dX true
  else
   (nC N dX.1 vm).bind fun x27 =>
   lO N vm dX (decide (0 ≤ x27))
def mW (N : Nat) (va : List Int) (b : List Int) : Option (List Int) :=
 (aX 4 va).bind fun q =>
 (aX 4 b).bind fun q_1 =>
 (nQ N).bind fun x7 =>
 (wG N va b x7).bind fun x8 =>
 (aX 4 x8).bind fun q_2 =>
 some x8
def oN (N : Nat) (vh : List Int) : Option (List Int) :=
 (aX 32 vh).bind fun q =>
 (fO N vh).bind fun x4 =>
 (mW N x4 [0,0,0,0]).bind fun x6 =>
 (aX 4 x6).bind fun q_1 =>
 some x6
def lM (N : Nat) (vr : List Int) (p : List Int) (vm : List Int) : Option (List Int) :=
 (aX 4 vr).bind fun q =>
 (sL N vr).bind fun x8 =>
 (aX 4 p).bind fun q_1 =>
 (sL N p).bind fun bV =>
 (aX 32 vm).bind fun q_2 =>
 (aX 32 x8).bind fun q_3 =>
 (aX 32 bV).bind fun q_4 =>
 (xD N [x8,bV,vm]).bind fun eD =>
 (vH N (⟨#[108,105,103,104,116,99,108,105,101,110,116,47,99,104,97,108,108,101,110,103,101]⟩) eD).bind fun bH =>
 (oN N bH).bind fun x15 =>
 (aX 4 x15).bind fun q_5 =>
 some x15
def jR (N : Nat) (p : List Int) (vm : List Int) (s_E : List Int) (s_S : List Int) (fW : Bool) : Option Bool :=
 if fW then
  some false
 else
  (nQ N).bind fun x26 =>
  (aX 4 s_E).bind fun q =>
  (qS N x26 s_E).bind fun x29 =>
  (aX 4 x29.1).bind fun q_1 =>
  (aX 4 s_S).bind fun q_2 =>
  (tA N s_S).bind fun dH =>
  (aX 4 p).bind fun q_3 =>
  (uK N p x29.1).bind fun x37 =>
  (uG N dH x37).bind fun x38 =>
  (aX 4 x38).bind fun q_4 =>
  (aX 32 vm).bind fun q_5 =>
  (lM N x38 p vm).bind fun x44 =>
  (aX 4 x44).bind fun q_6 =>
  some (s_E == x44)
def qO (N : Nat) (p : List Int) (vm : List Int) (s_E : List Int) (s_S : List Int) : Option Bool :=
 (aX 4 s_E).bind fun q_7 =>
 (nV N s_E).bind fun eM =>
 if !eM then
  jR N p vm s_E s_S true
 else
  (aX 4 s_S).bind fun q_8 =>
  (nV N s_S).bind fun x17 =>
  if !x17 then
   jR N p vm s_E s_S true
  else
   (aX 4 p).bind fun q_9 =>
   (pX N p).bind fun c5 =>
   jR N p vm s_E s_S (!c5)
def g9 (N : Nat) (aG : List Int) (aJ : Int) (aO : Int) (aL : List (List Int)) (aI : List aN) (aW : Int) (x40 : Bool) : Option Int :=
 if x40 then
  some 61
 else
  some 0
def cQ (N : Nat) (aG : List Int) (aJ : Int) (aO : Int) (aL : List (List Int)) (aI : List aN) (aW : Int) (key : List Int) (aAW : List Int) : Option Int :=
 if (key.length : Int) != 32 then
  some 60
 else
  (q6 32 key).bind fun bH =>
  (fO N bH).bind fun x16 =>
  (aX 4 x16).bind fun q =>
  (pX N x16).bind fun x18 =>
  if !x18 then
   some 60
  else
   if (aAW.length : Int) == 0 then
    some 0
   else
    (qM N aAW).bind fun x25 =>
    if x25.2.2 != 0 then
     g9 N aG aJ aO aL aI aW true
    else
     (aX 32 aG).bind fun q_1 =>
     (qO N x16 aG x25.1 x25.2.1).bind fun x38 =>
     g9 N aG aJ aO aL aI aW (!x38)
def kS (N : Nat) (aG : List Int) (aJ : Int) (aO : Int) (aL : List (List Int)) (aI : List aN) (aW : Int) (dV : Int) (vn : Int) (count : Int) : Option (Int × (List Int) × Int × Int × (List (List Int)) × (List aN) × Int) :=
 (nS N (decide (dV ≤ count))).bind fun x76 =>
 (cU N aG aJ aO aL aI aW (IntKind.i64.wrap (2 * vn)) x76).bind fun x77 =>
 some (0,x77.1,x77.2.1,x77.2.2.1,x77.2.2.2.1,x77.2.2.2.2.1,x77.2.2.2.2.2)
def g8 (N : Nat) (aG : List Int) (aJ : Int) (aO : Int) (aL : List (List Int)) (aI : List aN) (aW : Int) (dV : Int) (vn : Int) (eN : List (List Int)) (x43 : List (List Int)) (x45 : Int) (rec : Int → Int → Option (LR (Int) (Int × (List Int) × Int × Int × (List (List Int)) × (List aN) × Int))) (aBx : Int) : Option (LR (Int) (Int × (List Int) × Int × Int × (List (List Int)) × (List aN) × Int)) :=
 rec aBx (IntKind.i64.wrap (x45 + 1))
def cV (N : Nat) (aG : List Int) (aJ : Int) (aO : Int) (aL : List (List Int)) (aI : List aN) (aW : Int) (dV : Int) (vn : Int) (eN : List (List Int)) (x43 : List (List Int)) : Nat → Int → Int → Option (LR (Int) (Int × (List Int) × Int × Int × (List (List Int)) × (List aN) × Int))
 | 0,_,_ => none
 | m + 1,count_1,x45 =>
  if decide (x45 < vn) then
   (b5 eN x45).bind fun x51 =>
   (b5 x43 x45).bind fun x55 =>
   (cQ N aG aJ aO aL aI aW x51 x55).bind fun x57 =>
   if x57 != 0 then
    some (.ret (x57,aG,aJ,aO,aL,aI,aW))
   else
    if decide (0 < (x55.length : Int)) then
     g8 N aG aJ aO aL aI aW dV vn eN x43 x45 (cV N aG aJ aO aL aI aW dV vn eN x43 m) (IntKind.i64.wrap (count_1 + 1))
    else
     g8 N aG aJ aO aL aI aW dV vn eN x43 x45 (cV N aG aJ aO aL aI aW dV vn eN x43 m) count_1
  else
   some (.brk count_1)
def gW (N : Nat) (aG : List Int) (aJ : Int) (aO : Int) (aL : List (List Int)) (aI : List aN) (aW : Int) (dV : Int) (vn : Int) : Option (Int × (List Int) × Int × Int × (List (List Int)) × (List aN) × Int) :=
 (tM aL (IntKind.i64.wrap ((aL.length : Int) - vn)) (aL.length : Int)).bind fun eN =>
 (tM aL (IntKind.i64.wrap ((aL.length : Int) - (IntKind.i64.wrap (2 * vn)))) (IntKind.i64.wrap ((aL.length : Int) - vn))).bind fun x43 =>
 (cV N aG aJ aO aL aI aW dV vn eN x43 N 0 0).bind fun q => match q with
  | .ret v => some v
  | .brk p2 =>
   kS N aG aJ aO aL aI aW dV vn p2
def sE (N : Nat) (vn : Int) : Option (Int × Int) :=
 some (vn,0)
def jN (N : Nat) (b : List Int) : Nat → Int → Int → Option Int
 | 0,_,_ => none
 | m + 1,m9,x26 =>
  if decide (x26 < (b.length : Int)) then
   (b5 b x26).bind fun x29 =>
   (shl .u32 (IntKind.u32.wrap x29) (IntKind.i64.wrap (8 * x26))).bind fun x36 =>
   (jN N b m) (bits .or .u32 m9 x36) (IntKind.i64.wrap (x26 + 1))
  else
   some m9
def iD (N : Nat) (b : List Int) (eN : Bool) : Option (Int × Int) :=
 if eN then
  some (0,82)
 else
  (jN N b N 0 0).bind fun p3 =>
  sE N p3
def nD (N : Nat) (b : List Int) : Option (Int × Int) :=
 if decide (4 < (b.length : Int)) then
  iD N b true
 else
  if decide (0 < (b.length : Int)) then
   (b5 b (IntKind.i64.wrap ((b.length : Int) - 1))).bind fun x19 =>
   iD N b (x19 == 0)
  else
   iD N b false
def pH (N : Nat) (iX : List Int) (now : Int) : Option Int :=
 (nD N iX).bind fun x9 =>
 if x9.2 != 0 then
  some x9.2
 else
  if decide (now < (IntKind.i64.wrap x9.1)) then
   some 85
  else
   some 0
def c7 (N : Nat) (c0 : List Int) (t8 : Int) (uI : Int) (tN : Int) (l3 : List (List Int)) (l4 : List aN) : Option (Int × (List Int) × Int × Int × (List (List Int)) × (List aN) × Int) :=
 some (0,c0,t8,uI,l3,l4,tN)
def kQ (N : Nat) (aG : List Int) (aJ : Int) (aO : Int) (aL : List (List Int)) (aI : List aN) (aW : Int) (aY : Int) (bR : List Int) (dS : Int) (dL : Int) : Option (Int × (List Int) × Int × Int × (List (List Int)) × (List aN) × Int) :=
 if aY == 1 then
  (gH N aG aJ aO aL aI aW bR).bind fun bH =>
  some (bH.1,bH.2.1,bH.2.2.1,bH.2.2.2.1,bH.2.2.2.2.1,bH.2.2.2.2.2.1,bH.2.2.2.2.2.2)
 else
  if aY == 2 then
   (cF N aG aJ aO aL aI aW).bind fun x19 =>
   (gH N aG aJ aO aL aI aW x19).bind fun dX =>
   some (dX.1,dX.2.1,dX.2.2.1,dX.2.2.2.1,dX.2.2.2.2.1,dX.2.2.2.2.2.1,dX.2.2.2.2.2.2)
  else
   if aY == 3 then
    (dQ N aG aJ aO aL aI aW 1).bind fun fW =>
    c7 N fW.1 fW.2.1 fW.2.2.1 fW.2.2.2.2.2 fW.2.2.2.1 fW.2.2.2.2.1
   else
    if aY == 4 then
     (b5 aL (IntKind.i64.wrap ((aL.length : Int) - 2))).bind fun x50 =>
     (b5 aL (IntKind.i64.wrap ((aL.length : Int) - 1))).bind fun x58 =>
     (b5 (aL.set (Int.toNat (IntKind.i64.wrap ((aL.length : Int) - 1))) x50) (IntKind.i64.wrap ((aL.length : Int) - 2))).bind fun x61 =>
     c7 N aG aJ aO aW ((aL.set (Int.toNat (IntKind.i64.wrap ((aL.length : Int) - 1))) x50).set (Int.toNat (IntKind.i64.wrap ((aL.length : Int) - 2))) x58) aI
    else
     if aY == 5 then
      (cF N aG aJ aO aL aI aW).bind fun x66 =>
      (b5 aL (IntKind.i64.wrap ((aL.length : Int) - 2))).bind fun x77 =>
      (aAE N x66 x77).bind fun x79 =>
      (nS N x79).bind fun x80 =>
      (cU N aG aJ aO aL aI aW 2 x80).bind fun x81 =>
      c7 N x81.1 x81.2.1 x81.2.2.1 x81.2.2.2.2.2 x81.2.2.2.1 x81.2.2.2.2.1
     else
      if aY == 6 then
       (cF N aG aJ aO aL aI aW).bind fun x86 =>
       (mI N x86).bind fun x87 =>
       (nS N (!x87)).bind fun x89 =>
       (cU N aG aJ aO aL aI aW 1 x89).bind fun x90 =>
       c7 N x90.1 x90.2.1 x90.2.2.1 x90.2.2.2.2.2 x90.2.2.2.1 x90.2.2.2.2.1
      else
       if aY == 7 then
        (cF N aG aJ aO aL aI aW).bind fun x94 =>
        (mI N x94).bind fun x95 =>
        if !x95 then
         some (84,aG,aJ,aO,aL,aI,aW)
        else
         (dQ N aG aJ aO aL aI aW 1).bind fun x98 =>
         c7 N x98.1 x98.2.1 x98.2.2.1 x98.2.2.2.2.2 x98.2.2.2.1 x98.2.2.2.2.1
       else
        if aY == 8 then
         (cF N aG aJ aO aL aI aW).bind fun aG3 =>
         (xR N aG3).bind fun cK =>
         (aX 32 cK).bind fun q =>
         (cU N aG aJ aO aL aI aW 1 cK).bind fun eG =>
         c7 N eG.1 eG.2.1 eG.2.2.1 eG.2.2.2.2.2 eG.2.2.2.1 eG.2.2.2.2.1
        else
         if aY == 9 then
          (cF N aG aJ aO aL aI aW).bind fun aRq =>
          (jC N (IntKind.u32.wrap (aRq.length : Int))).bind fun aHH =>
          (gH N aG aJ aO aL aI aW aHH).bind fun aEE =>
          some (aEE.1,aEE.2.1,aEE.2.2.1,aEE.2.2.2.1,aEE.2.2.2.2.1,aEE.2.2.2.2.2.1,aEE.2.2.2.2.2.2)
         else
          if aY == 10 then
           (gW N aG aJ aO aL aI aW 1 1).bind fun aD4 =>
           some (aD4.1,aD4.2.1,aD4.2.2.1,aD4.2.2.2.1,aD4.2.2.2.2.1,aD4.2.2.2.2.2.1,aD4.2.2.2.2.2.2)
          else
           if aY == 11 then
            (gW N aG aJ aO aL aI aW dS dL).bind fun aEz =>
            some (aEz.1,aEz.2.1,aEz.2.2.1,aEz.2.2.2.1,aEz.2.2.2.2.1,aEz.2.2.2.2.2.1,aEz.2.2.2.2.2.2)
           else
            if aY == 12 then
             (cF N aG aJ aO aL aI aW).bind fun aRh =>
             (pH N aRh aJ).bind fun aQW =>
             some (aQW,aG,aJ,aO,aL,aI,aW)
            else
             if aY == 13 then
              (cF N aG aJ aO aL aI aW).bind fun aQN =>
              (pH N aQN aO).bind fun aRi =>
              some (aRi,aG,aJ,aO,aL,aI,aW)
             else
              if aY == 17 then
               some (84,aG,aJ,aO,aL,aI,aW)
              else
               c7 N aG aJ aO aW aL aI
def fA (N : Nat) (t8 : List Int) (uI : Int) (tN : Int) (aAf : Int) (l3 : List (List Int)) (l4 : List aN) : Option (Int × (List Int) × Int × Int × (List (List Int)) × (List aN) × Int) :=
 some (0,t8,uI,tN,l3,l4,aAf)
def jD (N : Nat) (aG : List Int) (aJ : Int) (aO : Int) (aL : List (List Int)) (counted : Bool) (c0 : Int) (eK : List aN) : Option (Int × (List Int) × Int × Int × (List (List Int)) × (List aN) × Int) :=
 if counted then
  (dQ N aG aJ aO aL eK c0 1).bind fun x86 =>
  fA N x86.1 x86.2.1 x86.2.2.1 x86.2.2.2.2.2 x86.2.2.2.1 x86.2.2.2.2.1
 else
  fA N aG aJ aO c0 aL eK
def fZ (N : Nat) (aG : List Int) (aJ : Int) (aO : Int) (aL : List (List Int)) (aI : List aN) (aY : Int) (bR : List Int) (dS : Int) (dL : Int) (counted : Bool) (c0 : Int) : Option (Int × (List Int) × Int × Int × (List (List Int)) × (List aN) × Int) :=
 if aY == 14 then
  if counted then
   (cF N aG aJ aO aL aI c0).bind fun x76 =>
   (mI N x76).bind fun x77 =>
   (app 2 aI [(aN.mk counted x77)]).bind fun x81 =>
   jD N aG aJ aO aL counted c0 x81
  else
   (app 2 aI [(aN.mk counted false)]).bind fun aLP =>
   jD N aG aJ aO aL counted c0 aLP
 else
  if aY == 15 then
   (b5 aI (IntKind.i64.wrap ((aI.length : Int) - 1))).bind fun x99 =>
   fA N aG aJ aO c0 aL (aI.set (Int.toNat (IntKind.i64.wrap ((aI.length : Int) - 1))) (aN.mk x99.outer (!x99.taken)))
  else
   if aY == 16 then
    (sub aI 0 (IntKind.i64.wrap ((aI.length : Int) - 1))).bind fun aJA =>
    fA N aG aJ aO c0 aL aJA
   else
    if counted then
     (kQ N aG aJ aO aL aI c0 aY bR dS dL).bind fun x64 =>
     some (x64.1,x64.2.1,x64.2.2.1,x64.2.2.2.1,x64.2.2.2.2.1,x64.2.2.2.2.2.1,x64.2.2.2.2.2.2)
    else
     fA N aG aJ aO c0 aL aI
def fY (N : Nat) (aG : List Int) (aJ : Int) (aO : Int) (aL : List (List Int)) (aI : List aN) (aW : Int) (aY : Int) (bR : List Int) (dS : Int) (dL : Int) (counted : Bool) : Option (Int × (List Int) × Int × Int × (List (List Int)) × (List aN) × Int) :=
 if counted then
  (vE N aY bR dS dL).bind fun x36 =>
  if decide (500 < (IntKind.i64.wrap (aW + x36))) then
   some (83,aG,aJ,aO,aL,aI,IntKind.i64.wrap (aW + x36))
  else
   (u5 N aY bR dS dL).bind fun x51 =>
   if decide ((aL.length : Int) < x51) then
    some (81,aG,aJ,aO,aL,aI,IntKind.i64.wrap (aW + x36))
   else
    fZ N aG aJ aO aL aI aY bR dS dL counted (IntKind.i64.wrap (aW + x36))
 else
  fZ N aG aJ aO aL aI aY bR dS dL counted aW
def f9 (N : Nat) (aG : List Int) (aJ : Int) (aO : Int) (aL : List (List Int)) (aI : List aN) (aW : Int) (aY : Int) (bR : List Int) (dS : Int) (dL : Int) (x8 : Bool) (x16 : Bool) : Option (Int × (List Int) × Int × Int × (List (List Int)) × (List aN) × Int) :=
 if x16 then
  (b5 aI (IntKind.i64.wrap ((aI.length : Int) - 1))).bind fun x27 =>
  fY N aG aJ aO aL aI aW aY bR dS dL x27.outer
 else
  fY N aG aJ aO aL aI aW aY bR dS dL x8
def gJ (N : Nat) (aG : List Int) (aJ : Int) (aO : Int) (aL : List (List Int)) (aI : List aN) (aW : Int) (aY : Int) (bR : List Int) (dS : Int) (dL : Int) : Option (Int × (List Int) × Int × Int × (List (List Int)) × (List aN) × Int) :=
 (mP N aG aJ aO aL aI aW).bind fun x8 =>
 if aY == 15 then
  f9 N aG aJ aO aL aI aW aY bR dS dL x8 true
 else
  f9 N aG aJ aO aL aI aW aY bR dS dL x8 (aY == 16)
def wQ (N : Nat) (c0 : List Int) (t8 : Int) (uI : Int) (tN : Int) (l1 : List (List Int)) (l2 : List aN) : Option ((List (List Int)) × Int × Int) :=
 (pF N l1).bind fun x47 =>
 some (x47,tN,0)
def k7 (N : Nat) (x17 : (List bC) × Int) : Nat → Int → (List Int) → Int → Int → Int → (List (List Int)) → (List aN) → Option (LR ((List Int) × Int × Int × Int × (List (List Int)) × (List aN)) ((List (List Int)) × Int × Int))
 | 0,_,_,_,_,_,_,_ => none
 | m + 1,x35,aAf,c0_5,c0_6,c0_7,dE,l3 =>
  if decide (x35 < (x17.1.length : Int)) then
   (b5 x17.1 x35).bind fun x37 =>
   (gJ N aAf c0_5 c0_6 dE l3 c0_7 x37.Code x37.Data x37.M x37.N).bind fun x40 =>
   if x40.1 != 0 then
    some (.ret ([],0,x40.1))
   else
    (k7 N x17 m) (IntKind.i64.wrap (x35 + 1)) x40.2.1 x40.2.2.1 x40.2.2.2.1 x40.2.2.2.2.2.2 x40.2.2.2.2.1 x40.2.2.2.2.2.1
  else
   some (.brk (aAf,c0_5,c0_6,c0_7,dE,l3))
def zQ (N : Nat) (b : List Int) (stack : List (List Int)) (d5 : List Int) (fB : Int) (lV : Int) : Option ((List (List Int)) × Int × Int) :=
 (u9 N b).bind fun x17 =>
 if x17.2 != 0 then
  some ([],0,x17.2)
 else
  (sY N x17.1).bind fun fW =>
  if !fW then
   some ([],0,86)
  else
   (rM N stack).bind fun x27 =>
   if !x27 then
    some ([],0,4)
   else
    (pF N stack).bind fun cM =>
    (k7 N x17 N 0 d5 fB lV 0 cM []).bind fun q => match q with
     | .ret v => some v
     | .brk p2 =>
      wQ N p2.1 p2.2.1 p2.2.2.1 p2.2.2.2.1 p2.2.2.2.2.1 p2.2.2.2.2.2
def pT (N : Nat) (l1 : List Int) : Option (List Int) :=
 (aX 4 l1).bind fun q =>
 some l1
def iH (N : Nat) (vh : List Int) : Nat → Int → (List Int) → Option (List Int)
 | 0,_,_ => none
 | m + 1,x6,l2 =>
  if decide (x6 < 32) then
   (bJ 4 l2 (IntKind.i64.wrap (Int.tdiv (IntKind.i64.wrap (31 - x6)) 8))).bind fun eD =>
   (bJ 32 vh x6).bind fun x16 =>
   (shl .u64 (IntKind.u64.wrap x16) (IntKind.i64.wrap (8 * (Int.tmod (IntKind.i64.wrap (31 - x6)) 8)))).bind fun c5 =>
   (iH N vh m) (IntKind.i64.wrap (x6 + 1)) (l2.set (Int.toNat (IntKind.i64.wrap (Int.tdiv (IntKind.i64.wrap (31 - x6)) 8))) (bits .or .u64 eD c5))
  else
   some l2
def pS (N : Nat) (vh : List Int) : Option (List Int) :=
 (iH N vh N 0 (List.replicate 4 0)).bind fun p2 =>
 pT N p2
def iM (N : Nat) (vn : Int) : Option (List Int) :=
 some [vn,0,0,0]
def yW (N : Nat) (borrow : Int) (l1 : List Int) : Option ((List Int) × Bool) :=
 (aX 4 l1).bind fun q =>
 some (l1,borrow == 1)
def oL (N : Nat) (va : List Int) (b : List Int) : Nat → Int → Int → (List Int) → Option (Int × (List Int))
 | 0,_,_,_ => none
 | m + 1,borrow_1,x9,l3 =>
  if decide (x9 < 4) then
   (bJ 4 va x9).bind fun x15 =>
   (bJ 4 b x9).bind fun x18 =>
   (qA N x15 x18 borrow_1).bind fun dI =>
   (bJ 4 l3 x9).bind fun fW =>
   (oL N va b m) dI.2 (IntKind.i64.wrap (x9 + 1)) (l3.set (Int.toNat x9) dI.1)
  else
   some (borrow_1,l3)
def sA (N : Nat) (va : List Int) (b : List Int) : Option ((List Int) × Bool) :=
 (oL N va b N 0 0 (List.replicate 4 0)).bind fun p2 =>
 yW N p2.1 p2.2
def pI (N : Nat) : Option (List Int) :=
 (iM N 36113).bind fun x5 =>
 (sA N [0,0,0,0] x5).bind fun x6 =>
 (aX 4 x6.1).bind fun q =>
 some x6.1
def mN (N : Nat) (va : List Int) (vi : Int) : Option Bool :=
 (bJ 4 va (IntKind.i64.wrap (Int.tdiv vi 64))).bind fun x7 =>
 (shr .u64 x7 (Int.tmod vi 64)).bind fun b4 =>
 some ((bits .and .u64 b4 1) == 1)
def aCa (N : Nat) (l1 : List Int) : Option (List Int) :=
 (aX 4 l1).bind fun q_1 =>
 some l1
def yE (N : Nat) (va : List Int) (vn : Int) (vi : Int) (rec : Int → (List Int) → Option (List Int)) (dE : List Int) : Option (List Int) :=
 rec (IntKind.i64.wrap (vi + 1)) dE
def iG (N : Nat) (va : List Int) (vn : Int) : Nat → Int → (List Int) → Option (List Int)
 | 0,_,_ => none
 | m + 1,vi,l2 =>
  if decide ((IntKind.i64.wrap (vi + vn)) < 256) then
   (aX 4 va).bind fun q_2 =>
   (mN N va (IntKind.i64.wrap (vi + vn))).bind fun eN =>
   if eN then
    (bJ 4 l2 (IntKind.i64.wrap (Int.tdiv vi 64))).bind fun x26 =>
    (shl .u64 1 (Int.tmod vi 64)).bind fun j4 =>
    yE N va vn vi (iG N va vn m) (l2.set (Int.toNat (IntKind.i64.wrap (Int.tdiv vi 64))) (bits .or .u64 x26 j4))
   else
    yE N va vn vi (iG N va vn m) l2
  else
   some l2
def aCj (N : Nat) (va : List Int) (vn : Int) : Option (List Int) :=
 if decide (vn ≤ 0) then
  (aX 4 va).bind fun q =>
  some va
 else
  if decide (256 ≤ vn) then
   some [0,0,0,0]
  else
   (iG N va vn N 0 (List.replicate 4 0)).bind fun p2 =>
   aCa N p2
def qT (N : Nat) : Option (List Int) :=
 (pI N).bind fun x1 =>
 (aCj N x1 1).bind fun x2 =>
 (aX 4 x2).bind fun q =>
 some x2
def nO (N : Nat) (va : List Int) : Option Bool :=
 (aX 4 va).bind fun q =>
 some (va == [0,0,0,0])
def aBO (N : Nat) : Option Int :=
 some 0
def oD (N : Nat) (va : List Int) (b : List Int) : Nat → Int → Option (LR (Unit) (Int))
 | 0,_ => none
 | m + 1,vi =>
  if decide (0 ≤ vi) then
   (bJ 4 va vi).bind fun b4 =>
   (bJ 4 b vi).bind fun bH =>
   if decide (b4 < bH) then
    some (.ret (-1))
   else
    if decide (bH < b4) then
     some (.ret 1)
    else
     (oD N va b m) (IntKind.i64.wrap (vi - 1))
  else
   some (.brk ())
def r7 (N : Nat) (va : List Int) (b : List Int) : Option Int :=
 (oD N va b N 3).bind fun q => match q with
  | .ret v => some v
  | .brk p2 =>
   aBO N
def z9 (N : Nat) (jH : Int) (l1 : List Int) : Option ((List Int) × Bool) :=
 (aX 4 l1).bind fun q =>
 some (l1,jH == 1)
def oT (N : Nat) (va : List Int) (b : List Int) : Nat → Int → Int → (List Int) → Option (Int × (List Int))
 | 0,_,_,_ => none
 | m + 1,carry_1,x9,l3 =>
  if decide (x9 < 4) then
   (bJ 4 va x9).bind fun x15 =>
   (bJ 4 b x9).bind fun x18 =>
   (dB N x15 x18 carry_1).bind fun dI =>
   (bJ 4 l3 x9).bind fun fW =>
   (oT N va b m) dI.2 (IntKind.i64.wrap (x9 + 1)) (l3.set (Int.toNat x9) dI.1)
  else
   some (carry_1,l3)
def t6 (N : Nat) (va : List Int) (b : List Int) : Option ((List Int) × Bool) :=
 (oT N va b N 0 0 (List.replicate 4 0)).bind fun p2 =>
 z9 N p2.1 p2.2
def zI (N : Nat) (l0 : List Int) (l1 : List Int) : Option ((List Int) × (List Int) × Bool) :=
 (aX 4 l0).bind fun q_2 =>
 (aX 4 l1).bind fun q_3 =>
 some (l0,l1,true)
def rZ (N : Nat) (lo : List Int) (b : List Int) (vi : Int) (rec : Int → (List Int) → (List Int) → Option ((List Int) × (List Int))) (dE : List Int) (eK : List Int) : Option ((List Int) × (List Int)) :=
 rec (IntKind.i64.wrap (vi - 1)) dE eK
def oB (N : Nat) (lo : List Int) (b : List Int) (vi : Int) (l2 : List Int) (cJ : List Int) (rec : Int → (List Int) → (List Int) → Option ((List Int) × (List Int))) (x43 : Bool) : Option ((List Int) × (List Int)) :=
 if x43 then
  (aX 4 cJ).bind fun q_6 =>
  (sA N cJ b).bind fun x47 =>
  (aX 4 x47.1).bind fun q_7 =>
  (bJ 4 l2 (IntKind.i64.wrap (Int.tdiv vi 64))).bind fun x52 =>
  (shl .u64 1 (Int.tmod vi 64)).bind fun x56 =>
  rZ N lo b vi rec (l2.set (Int.toNat (IntKind.i64.wrap (Int.tdiv vi 64))) (bits .or .u64 x52 x56)) x47.1
 else
  rZ N lo b vi rec l2 cJ
def r4 (N : Nat) (lo : List Int) (b : List Int) (vi : Int) (l2 : List Int) (eN : Bool) (rec : Int → (List Int) → (List Int) → Option ((List Int) × (List Int))) (cJ : List Int) : Option ((List Int) × (List Int)) :=
 if eN then
  oB N lo b vi l2 cJ rec true
 else
  (aX 4 cJ).bind fun q_8 =>
  (r7 N cJ b).bind fun x41 =>
  oB N lo b vi l2 cJ rec (decide (0 ≤ x41))
def eC (N : Nat) (lo : List Int) (b : List Int) : Nat → Int → (List Int) → (List Int) → Option ((List Int) × (List Int))
 | 0,_,_,_ => none
 | m + 1,vi,l2,l3 =>
  if decide (0 ≤ vi) then
   (aX 4 l3).bind fun q_4 =>
   (mN N l3 255).bind fun eN =>
   (t6 N l3 l3).bind fun x27 =>
   (aX 4 x27.1).bind fun q_5 =>
   (aX 4 lo).bind fun q_9 =>
   (mN N lo vi).bind fun kL =>
   if kL then
    (bJ 4 x27.1 0).bind fun jU =>
    r4 N lo b vi l2 eN (eC N lo b m) (x27.1.set (Int.toNat 0) (bits .or .u64 jU 1))
   else
    r4 N lo b vi l2 eN (eC N lo b m) x27.1
  else
   some (l2,l3)
def xO (N : Nat) (hi : List Int) (lo : List Int) (b : List Int) : Option ((List Int) × (List Int) × Bool) :=
 (aX 4 b).bind fun q =>
 (aX 4 hi).bind fun q_1 =>
 (r7 N b hi).bind fun eD =>
 if decide (eD ≤ 0) then
  some (List.replicate 4 0,List.replicate 4 0,false)
 else
  (eC N lo b N 255 (List.replicate 4 0) hi).bind fun p2 =>
  zI N p2.1 p2.2
def kI (N : Nat) (va : List Int) (vm : List Int) : Option (List Int) :=
 (aX 4 va).bind fun q =>
 (aX 4 vm).bind fun q_1 =>
 (xO N [0,0,0,0] va vm).bind fun eM =>
 (aX 4 eM.1).bind fun q_2 =>
 (aX 4 eM.2.1).bind fun q_3 =>
 some eM.2.1
def mU (N : Nat) (l1 : List Int) : Option (List Int) :=
 (aX 4 l1).bind fun q_6 =>
 some l1
def kF (N : Nat) (vm : List Int) (dI : (List Int) × Bool) (j4 : Bool) : Option (List Int) :=
 if j4 then
  (sA N dI.1 vm).bind fun dH =>
  (aX 4 dH.1).bind fun q_7 =>
  mU N dH.1
 else
  mU N dI.1
def uV (N : Nat) (va : List Int) (b : List Int) (vm : List Int) : Option (List Int) :=
 (aX 4 vm).bind fun q =>
 (nO N vm).bind fun bV =>
 if bV then
  some vm
 else
  (aX 4 va).bind fun q_1 =>
  (kI N va vm).bind fun bH =>
  (aX 4 b).bind fun q_2 =>
  (kI N b vm).bind fun x17 =>
  (aX 4 bH).bind fun q_3 =>
  (aX 4 x17).bind fun q_4 =>
  (t6 N bH x17).bind fun dI =>
  (aX 4 dI.1).bind fun q_5 =>
  if dI.2 then
   kF N vm dI true
  else
   (r7 N dI.1 vm).bind fun x28 =>
   kF N vm dI (decide (0 ≤ x28))
def mR (N : Nat) (va : List Int) (b : List Int) : Option (List Int) :=
 (aX 4 va).bind fun q =>
 (aX 4 b).bind fun q_1 =>
 (qT N).bind fun x7 =>
 (uV N va b x7).bind fun x8 =>
 (aX 4 x8).bind fun q_2 =>
 some x8
def hY (N : Nat) (vh : List Int) : Option (List Int) :=
 (aX 32 vh).bind fun q =>
 (pS N vh).bind fun x4 =>
 (mR N x4 [0,0,0,0]).bind fun x6 =>
 (aX 4 x6).bind fun q_1 =>
 some x6
def tO (N : Nat) (x2 : Bool) : Option Bool :=
 some x2
def uM (N : Nat) (x : List Int) : Option Bool :=
 (aX 4 x).bind fun q =>
 (nO N x).bind fun x4 =>
 if !x4 then
  (qT N).bind fun x8 =>
  (r7 N x x8).bind fun x9 =>
  tO N (decide (x9 < 0))
 else
  tO N false
def yB (N : Nat) : Option Int :=
 some 0
def oI (N : Nat) (va : List Int) : Nat → Int → Option (LR (Unit) (Int))
 | 0,_ => none
 | m + 1,vi =>
  if decide (0 ≤ vi) then
   (aX 4 va).bind fun q =>
   (mN N va vi).bind fun bV =>
   if bV then
    some (.ret (IntKind.i64.wrap (vi + 1)))
   else
    (oI N va m) (IntKind.i64.wrap (vi - 1))
  else
   some (.brk ())
def aCp (N : Nat) (va : List Int) : Option Int :=
 (oI N va N 255).bind fun q => match q with
  | .ret v => some v
  | .brk p2 =>
   yB N
def uB (N : Nat) (l2 : List Int) : Option ((List Int) × (List Int)) :=
 (aX 8 l2).bind fun q =>
 (tM l2 0 4).bind fun x64 =>
 (tM l2 4 8).bind fun x67 =>
 (aX 4 (cpy (List.replicate 4 0) x67)).bind fun q_1 =>
 (aX 4 (cpy (List.replicate 4 0) x64)).bind fun q_2 =>
 some (cpy (List.replicate 4 0) x67,cpy (List.replicate 4 0) x64)
def y5 (N : Nat) (va : List Int) (b : List Int) (x15 : Int) (rec : Int → (List Int) → Option (List Int)) (j8 : List Int) : Option (List Int) :=
 rec (IntKind.i64.wrap (x15 + 1)) j8
def y7 (N : Nat) (va : List Int) (b : List Int) (x15 : Int) (rec : Int → (List Int) → Option (List Int)) (jH : Int) (w9 : List Int) : Option (List Int) :=
 (bJ 8 w9 (IntKind.i64.wrap (x15 + 4))).bind fun x61 =>
 y5 N va b x15 rec (w9.set (Int.toNat (IntKind.i64.wrap (x15 + 4))) jH)
def oY (N : Nat) (va : List Int) (b : List Int) (x15 : Int) : Nat → Int → Int → (List Int) → Option (Int × (List Int))
 | 0,_,_,_ => none
 | m + 1,carry_1,x18,l4_3 =>
  if decide (x18 < 4) then
   (bJ 4 va x15).bind fun eN =>
   (bJ 4 b x18).bind fun x26 =>
   (kH N eN x26).bind fun x28 =>
   (bJ 8 l4_3 (IntKind.i64.wrap (x15 + x18))).bind fun x35 =>
   (dB N x35 x28.2 0).bind fun x38 =>
   (dB N x38.1 carry_1 0).bind fun x44 =>
   (oY N va b x15 m) (IntKind.u64.wrap ((IntKind.u64.wrap (x28.1 + x38.2)) + x44.2)) (IntKind.i64.wrap (x18 + 1)) (l4_3.set (Int.toNat (IntKind.i64.wrap (x15 + x18))) x44.1)
  else
   some (carry_1,l4_3)
def kG (N : Nat) (va : List Int) (b : List Int) : Nat → Int → (List Int) → Option (List Int)
 | 0,_,_ => none
 | m + 1,x15,l4 =>
  if decide (x15 < 4) then
   (oY N va b x15 N 0 0 l4).bind fun p5 =>
   y7 N va b x15 (kG N va b m) p5.1 p5.2
  else
   some l4
def aAY (N : Nat) (va : List Int) (b : List Int) : Option ((List Int) × (List Int)) :=
 (kG N va b N 0 (List.replicate 8 0)).bind fun p2 =>
 uB N p2
def oO (N : Nat) (va : List Int) (b : List Int) (vm : List Int) : Option (List Int) :=
 (aX 4 vm).bind fun q =>
 (nO N vm).bind fun eD =>
 if eD then
  some vm
 else
  (aX 4 va).bind fun q_1 =>
  (kI N va vm).bind fun x18 =>
  (aX 4 b).bind fun q_2 =>
  (kI N b vm).bind fun dI =>
  (aAY N x18 dI).bind fun c5 =>
  (aX 4 c5.1).bind fun q_3 =>
  (aX 4 c5.2).bind fun q_4 =>
  (xO N c5.1 c5.2 vm).bind fun x29 =>
  (aX 4 x29.1).bind fun q_5 =>
  (aX 4 x29.2.1).bind fun q_6 =>
  some x29.2.1
def zA (N : Nat) (l1 : List Int) : Option (List Int) :=
 (aX 4 l1).bind fun q_2 =>
 some l1
def mO (N : Nat) (va : List Int) (ve : List Int) (vm : List Int) (vi : Int) (rec : Int → (List Int) → Option (List Int)) (j8 : List Int) : Option (List Int) :=
 rec (IntKind.i64.wrap (vi - 1)) j8
def gM (N : Nat) (va : List Int) (ve : List Int) (vm : List Int) : Nat → Int → (List Int) → Option (List Int)
 | 0,_,_ => none
 | m + 1,vi,l4 =>
  if decide (0 ≤ vi) then
   (aX 4 l4).bind fun q_4 =>
   (oO N l4 l4 vm).bind fun x25 =>
   (aX 4 x25).bind fun q_5 =>
   (mN N ve vi).bind fun x28 =>
   if x28 then
    (aX 4 va).bind fun q_6 =>
    (oO N x25 va vm).bind fun kL =>
    (aX 4 kL).bind fun q_7 =>
    mO N va ve vm vi (gM N va ve vm m) kL
   else
    mO N va ve vm vi (gM N va ve vm m) x25
  else
   some l4
def uS (N : Nat) (va : List Int) (ve : List Int) (vm : List Int) : Option (List Int) :=
 (aX 4 vm).bind fun q =>
 (nO N vm).bind fun bV =>
 if bV then
  some vm
 else
  (iM N 1).bind fun eM =>
  (kI N eM vm).bind fun bH =>
  (aX 4 bH).bind fun q_1 =>
  (aX 4 ve).bind fun q_3 =>
  (aCp N ve).bind fun x16 =>
  (gM N va ve vm N (IntKind.i64.wrap (x16 - 1)) bH).bind fun p2 =>
  zA N p2
def aAX (N : Nat) (va : List Int) (ve : List Int) : Option (List Int) :=
 (aX 4 va).bind fun q =>
 (aX 4 ve).bind fun q_1 =>
 (pI N).bind fun x7 =>
 (uS N va ve x7).bind fun x8 =>
 (aX 4 x8).bind fun q_2 =>
 some x8
def qR (N : Nat) (ve : List Int) : Option (List Int) :=
 (iM N 4).bind fun x3 =>
 (aX 4 ve).bind fun q =>
 (aAX N x3 ve).bind fun x5 =>
 (aX 4 x5).bind fun q_1 =>
 some x5
def oH (N : Nat) (x : List Int) : Option ((List Int) × Int) :=
 (aX 4 x).bind fun q =>
 (uM N x).bind fun x5 =>
 if !x5 then
  some ([0,0,0,0],60)
 else
  (qR N x).bind fun x9 =>
  (aX 4 x9).bind fun q_1 =>
  some (x9,0)
def aAp (N : Nat) (l1 : List Int) : Option (List Int) :=
 (aX 32 l1).bind fun q =>
 some l1
def jW (N : Nat) (va : List Int) : Nat → Int → (List Int) → Option (List Int)
 | 0,_,_ => none
 | m + 1,x6,l2 =>
  if decide (x6 < 32) then
   (bJ 4 va (IntKind.i64.wrap (Int.tdiv (IntKind.i64.wrap (31 - x6)) 8))).bind fun bH =>
   (shr .u64 bH (IntKind.i64.wrap (8 * (Int.tmod (IntKind.i64.wrap (31 - x6)) 8)))).bind fun x19 =>
   (bJ 32 l2 x6).bind fun dI =>
   (jW N va m) (IntKind.i64.wrap (x6 + 1)) (l2.set (Int.toNat x6) (IntKind.u8.wrap x19))
  else
   some l2
def s9 (N : Nat) (va : List Int) : Option (List Int) :=
 (jW N va N 0 (List.replicate 32 0)).bind fun p2 =>
 aAp N p2
def kT (N : Nat) (va : List Int) : Option (List Int) :=
 (aX 4 va).bind fun q =>
 (s9 N va).bind fun x5 =>
 (aX 32 x5).bind fun q_1 =>
 some x5
def y8 (N : Nat) (va : List Int) (b : List Int) : Option (List Int) :=
 (mks 1 0 (IntKind.i64.wrap ((va.length : Int) + (b.length : Int)))).bind fun b4 =>
 (app 1 (b4.take 0) va).bind fun bH =>
 (app 1 bH b).bind fun x16 =>
 some x16
def aBa (N : Nat) (l0 : List Int) : Option (List Int) :=
 some l0
def lC (N : Nat) (l : List (List Int)) : Nat → Int → (List Int) → Option (List Int)
 | 0,_,_ => none
 | m + 1,x8,a9 =>
  if decide (x8 < (l.length : Int)) then
   (b5 l x8).bind fun bV =>
   (y8 N a9 bV).bind fun bH =>
   (lC N l m) (IntKind.i64.wrap (x8 + 1)) bH
  else
   some a9
def jG (N : Nat) (l : List (List Int)) : Option (List Int) :=
 (lC N l N 0 []).bind fun p2 =>
 aBa N p2
def aBQ (N : Nat) (a9 : List Int) : Option (List Int) :=
 some a9
def mD (N : Nat) (vn : Int) : Nat → Int → (List Int) → Option (List Int)
 | 0,_,_ => none
 | m + 1,vi,jM =>
  if decide (0 ≤ vi) then
   (shr .u64 (IntKind.u64.wrap (8 * vn)) (IntKind.i64.wrap (8 * vi))).bind fun x26 =>
   (app 1 jM [IntKind.u8.wrap x26]).bind fun x29 =>
   (mD N vn m) (IntKind.i64.wrap (vi - 1)) x29
  else
   some jM
def y4 (N : Nat) (vn : Int) (l0 : List Int) : Option (List Int) :=
 (mD N vn N 7 l0).bind fun p3 =>
 aBQ N p3
def oF (N : Nat) (vn : Int) : Nat → (List Int) → Option (List Int)
 | 0,_ => none
 | m + 1,iF =>
  if (Int.tmod (IntKind.u64.wrap ((IntKind.u64.wrap (vn + (IntKind.u64.wrap (iF.length : Int)))) + 8)) 64) != 0 then
   (app 1 iF [0]).bind fun x16 =>
   (oF N vn m) x16
  else
   some iF
def aAT (N : Nat) (vn : Int) : Option (List Int) :=
 (oF N vn N [128]).bind fun p4 =>
 y4 N vn p4
def wT (N : Nat) : Option (List Int) :=
 some [1779033703,3144134277,1013904242,2773480762,1359893119,2600822924,528734635,1541459225]
def iL (N : Nat) (x : Int) (vn : Int) : Option Int :=
 (i8 N x (IntKind.i64.wrap (0 - vn))).bind fun x8 =>
 some x8
def rA (N : Nat) (cW : List Int) : Option (List Int) :=
 (aX 64 cW).bind fun q =>
 some cW
def iY (N : Nat) : Nat → Int → (List Int) → Option (List Int)
 | 0,_,_ => none
 | m + 1,vi,l1_2 =>
  if decide (vi < 64) then
   (bJ 64 l1_2 (IntKind.i64.wrap (vi - 15))).bind fun x49 =>
   (iL N x49 7).bind fun x51 =>
   (iL N x49 18).bind fun x56 =>
   (shr .u32 x49 3).bind fun x62 =>
   (bJ 64 l1_2 (IntKind.i64.wrap (vi - 2))).bind fun x66 =>
   (iL N x66 17).bind fun x68 =>
   (iL N x66 19).bind fun x73 =>
   (shr .u32 x66 10).bind fun x79 =>
   (bJ 64 l1_2 (IntKind.i64.wrap (vi - 16))).bind fun x84 =>
   (bJ 64 l1_2 (IntKind.i64.wrap (vi - 7))).bind fun x90 =>
   (bJ 64 l1_2 vi).bind fun x95 =>
   (iY N m) (IntKind.i64.wrap (vi + 1)) (l1_2.set (Int.toNat vi) (IntKind.u32.wrap ((IntKind.u32.wrap ((IntKind.u32.wrap (x84 + (bits .xor .u32 (bits .xor .u32 x51 x56) x62))) + x90)) + (bits .xor .u32 (bits .xor .u32 x68 x73) x79))))
  else
   some l1_2
def rB (N : Nat) (l1 : List Int) : Option (List Int) :=
 (iY N N 16 l1).bind fun p3 =>
 rA N p3
def fE (N : Nat) (block : List Int) : Nat → Int → (List Int) → Option (List Int)
 | 0,_,_ => none
 | m + 1,vi_1,l2 =>
  if decide (vi_1 < 16) then
   (bJ 64 block (IntKind.i64.wrap (4 * vi_1))).bind fun x15 =>
   (shl .u32 (IntKind.u32.wrap x15) 24).bind fun x18 =>
   (bJ 64 block (IntKind.i64.wrap ((IntKind.i64.wrap (4 * vi_1)) + 1))).bind fun c5 =>
   (shl .u32 (IntKind.u32.wrap c5) 16).bind fun x25 =>
   (bJ 64 block (IntKind.i64.wrap ((IntKind.i64.wrap (4 * vi_1)) + 2))).bind fun j4 =>
   (shl .u32 (IntKind.u32.wrap j4) 8).bind fun jU =>
   (bJ 64 block (IntKind.i64.wrap ((IntKind.i64.wrap (4 * vi_1)) + 3))).bind fun x38 =>
   (bJ 64 l2 vi_1).bind fun x42 =>
   (fE N block m) (IntKind.i64.wrap (vi_1 + 1)) (l2.set (Int.toNat vi_1) (bits .or .u32 (bits .or .u32 (bits .or .u32 x18 x25) jU) (IntKind.u32.wrap x38)))
  else
   some l2
def rY (N : Nat) (block : List Int) : Option (List Int) :=
 (fE N block N 0 (List.replicate 64 0)).bind fun p4 =>
 rB N p4
def t0 (N : Nat) : Option (List Int) :=
 some [1116352408,1899447441,3049323471,3921009573,961987163,1508970993,2453635748,2870763221,3624381080,310598401,607225278,1426881987,1925078388,2162078206,2614888103,3248222580,3835390401,4022224774,264347078,604807628,770255983,1249150122,1555081692,1996064986,2554220882,2821834349,2952996808,3210313671,3336571891,3584528711,113926993,338241895,666307205,773529912,1294757372,1396182291,1695183700,1986661051,2177026350,2456956037,2730485921,2820302411,3259730800,3345764771,3516065817,3600352804,4094571909,275423344,430227734,506948616,659060556,883997877,958139571,1322822218,1537002063,1747873779,1955562222,2024104815,2227730452,2361852424,2428436474,2756734187,3204031479,3329325298]
def rC (N : Nat) (cE : List Int) (va : Int) (b : Int) (c : Int) (d : Int) (ve : Int) (f : Int) (g : Int) (vh : Int) : Option (List Int) :=
 (bJ 8 cE 0).bind fun aFA =>
 (bJ 8 cE 1).bind fun aNs =>
 (bJ 8 cE 2).bind fun aEN =>
 (bJ 8 cE 3).bind fun aOn =>
 (bJ 8 cE 4).bind fun aOk =>
 (bJ 8 cE 5).bind fun aOb =>
 (bJ 8 cE 6).bind fun aNn =>
 (bJ 8 cE 7).bind fun aN7 =>
 some [IntKind.u32.wrap (aFA + va),IntKind.u32.wrap (aNs + b),IntKind.u32.wrap (aEN + c),IntKind.u32.wrap (aOn + d),IntKind.u32.wrap (aOk + ve),IntKind.u32.wrap (aOb + f),IntKind.u32.wrap (aNn + g),IntKind.u32.wrap (aN7 + vh)]
def iV (N : Nat) (cE : List Int) (x19 : (List Int)) (dX : (List Int)) : Nat → Int → Int → Int → Int → Int → Int → Int → Int → Int → Option (Int × Int × Int × Int × Int × Int × Int × Int)
 | 0,_,_,_,_,_,_,_,_,_ => none
 | m + 1,va_1,b_1,c_1,d_1,ve_1,f_1,g_1,vh_1,vi =>
  if decide (vi < 64) then
   (iL N ve_1 6).bind fun x43 =>
   (iL N ve_1 11).bind fun x45 =>
   (iL N ve_1 25).bind fun x48 =>
   (bJ 64 dX vi).bind fun x61 =>
   (bJ 64 x19 vi).bind fun x65 =>
   (iL N va_1 2).bind fun x69 =>
   (iL N va_1 13).bind fun x71 =>
   (iL N va_1 22).bind fun x74 =>
   (iV N cE x19 dX m) (IntKind.u32.wrap ((IntKind.u32.wrap ((IntKind.u32.wrap ((IntKind.u32.wrap ((IntKind.u32.wrap (vh_1 + (bits .xor .u32 (bits .xor .u32 x43 x45) x48))) + (bits .xor .u32 (bits .and .u32 ve_1 f_1) (bits .and .u32 (bits .xor .u32 (IntKind.max .u32) ve_1) g_1)))) + x61)) + x65)) + (IntKind.u32.wrap ((bits .xor .u32 (bits .xor .u32 x69 x71) x74) + (bits .xor .u32 (bits .xor .u32 (bits .and .u32 va_1 b_1) (bits .and .u32 va_1 c_1)) (bits .and .u32 b_1 c_1)))))) va_1 b_1 c_1 (IntKind.u32.wrap (d_1 + (IntKind.u32.wrap ((IntKind.u32.wrap ((IntKind.u32.wrap ((IntKind.u32.wrap (vh_1 + (bits .xor .u32 (bits .xor .u32 x43 x45) x48))) + (bits .xor .u32 (bits .and .u32 ve_1 f_1) (bits .and .u32 (bits .xor .u32 (IntKind.max .u32) ve_1) g_1)))) + x61)) + x65)))) ve_1 f_1 g_1 (IntKind.i64.wrap (vi + 1))
  else
   some (va_1,b_1,c_1,d_1,ve_1,f_1,g_1,vh_1)
def nZ (N : Nat) (cE : List Int) (block : List Int) : Option (List Int) :=
 (aX 64 block).bind fun q =>
 (rY N block).bind fun x19 =>
 (t0 N).bind fun dX =>
 (aX 64 x19).bind fun q_1 =>
 (aX 64 dX).bind fun q_2 =>
 (bJ 8 cE 0).bind fun dI =>
 (bJ 8 cE 1).bind fun eN =>
 (bJ 8 cE 2).bind fun x25 =>
 (bJ 8 cE 3).bind fun x27 =>
 (bJ 8 cE 4).bind fun x29 =>
 (bJ 8 cE 5).bind fun cM =>
 (bJ 8 cE 6).bind fun jU =>
 (bJ 8 cE 7).bind fun x35 =>
 (iV N cE x19 dX N dI eN x25 x27 x29 cM jU x35 0).bind fun p2 =>
 rC N cE p2.1 p2.2.1 p2.2.2.1 p2.2.2.2.1 p2.2.2.2.2.1 p2.2.2.2.2.2.1 p2.2.2.2.2.2.2.1 p2.2.2.2.2.2.2.2
def zY (N : Nat) (cW : List Int) : Option (List Int) :=
 (aX 32 cW).bind fun q_1 =>
 some cW
def oX (N : Nat) (l1 : List Int) : Nat → Int → (List Int) → Option (List Int)
 | 0,_,_ => none
 | m + 1,dH,l1_2 =>
  if decide (dH < 8) then
   (bJ 8 l1 dH).bind fun x37 =>
   (shr .u32 x37 24).bind fun x50 =>
   (shr .u32 x37 16).bind fun x53 =>
   (shr .u32 x37 8).bind fun x56 =>
   (bJ 32 l1_2 (IntKind.i64.wrap (4 * dH))).bind fun x60 =>
   (bJ 32 (l1_2.set (Int.toNat (IntKind.i64.wrap (4 * dH))) (IntKind.u8.wrap x50)) (IntKind.i64.wrap ((IntKind.i64.wrap (4 * dH)) + 1))).bind fun x61 =>
   (bJ 32 ((l1_2.set (Int.toNat (IntKind.i64.wrap (4 * dH))) (IntKind.u8.wrap x50)).set (Int.toNat (IntKind.i64.wrap ((IntKind.i64.wrap (4 * dH)) + 1))) (IntKind.u8.wrap x53)) (IntKind.i64.wrap ((IntKind.i64.wrap (4 * dH)) + 2))).bind fun x62 =>
   (bJ 32 (((l1_2.set (Int.toNat (IntKind.i64.wrap (4 * dH))) (IntKind.u8.wrap x50)).set (Int.toNat (IntKind.i64.wrap ((IntKind.i64.wrap (4 * dH)) + 1))) (IntKind.u8.wrap x53)).set (Int.toNat (IntKind.i64.wrap ((IntKind.i64.wrap (4 * dH)) + 2))) (IntKind.u8.wrap x56)) (IntKind.i64.wrap ((IntKind.i64.wrap (4 * dH)) + 3))).bind fun x63 =>
   (oX N l1 m) (IntKind.i64.wrap (dH + 1)) ((((l1_2.set (Int.toNat (IntKind.i64.wrap (4 * dH))) (IntKind.u8.wrap x50)).set (Int.toNat (IntKind.i64.wrap ((IntKind.i64.wrap (4 * dH)) + 1))) (IntKind.u8.wrap x53)).set (Int.toNat (IntKind.i64.wrap ((IntKind.i64.wrap (4 * dH)) + 2))) (IntKind.u8.wrap x56)).set (Int.toNat (IntKind.i64.wrap ((IntKind.i64.wrap (4 * dH)) + 3))) (IntKind.u8.wrap x37))
  else
   some l1_2
def y6 (N : Nat) (l1 : List Int) : Option (List Int) :=
 (aX 8 l1).bind fun q_2 =>
 (oX N l1 N 0 (List.replicate 32 0)).bind fun p3 =>
 zY N p3
def oM (N : Nat) (x16 : List Int) : Nat → Int → (List Int) → Option (List Int)
 | 0,_,_ => none
 | m + 1,vi,l1_3 =>
  if decide ((IntKind.i64.wrap (vi + 64)) ≤ (x16.length : Int)) then
   (sub x16 vi (x16.length : Int)).bind fun x28 =>
   (aX 8 l1_3).bind fun q_3 =>
   (aX 64 (cpy (List.replicate 64 0) x28)).bind fun q_4 =>
   (nZ N l1_3 (cpy (List.replicate 64 0) x28)).bind fun kL =>
   (aX 8 kL).bind fun q_5 =>
   (oM N x16 m) (IntKind.i64.wrap (vi + 64)) kL
  else
   some l1_3
def xQ (N : Nat) (b : List Int) : Option (List Int) :=
 (app 1 [] b).bind fun b4 =>
 (aAT N (IntKind.u64.wrap (b.length : Int))).bind fun x15 =>
 (app 1 b4 x15).bind fun x16 =>
 (wT N).bind fun x17 =>
 (aX 8 x17).bind fun q =>
 (oM N x16 N 0 x17).bind fun p4 =>
 y6 N p4
def rP (N : Nat) (tag : ByteArray) (b : List Int) : Option (List Int) :=
 (stb tag).bind fun x7 =>
 (xQ N x7).bind fun x8 =>
 (aX 32 x8).bind fun q =>
 (app 1 [] x8).bind fun bV =>
 (app 1 bV x8).bind fun eM =>
 (app 1 eM b).bind fun bH =>
 (xQ N bH).bind fun x15 =>
 (aX 32 x15).bind fun q_1 =>
 some x15
def kA (N : Nat) (x : List Int) (vm : List Int) : Option (List Int) :=
 (aX 32 vm).bind fun q =>
 (aX 4 x).bind fun q_1 =>
 (kT N x).bind fun x7 =>
 (jG N [x7,vm]).bind fun bV =>
 (rP N (⟨#[108,105,103,104,116,99,108,105,101,110,116,47,110,111,110,99,101]⟩) bV).bind fun b4 =>
 (hY N b4).bind fun eM =>
 (aX 4 eM).bind fun q_2 =>
 (nO N eM).bind fun bH =>
 if bH then
  (iM N 1).bind fun x15 =>
  (aX 4 x15).bind fun q_3 =>
  some x15
 else
  some eM
def kB (N : Nat) (vr : List Int) (p : List Int) (vm : List Int) : Option (List Int) :=
 (aX 4 vr).bind fun q =>
 (kT N vr).bind fun x8 =>
 (aX 4 p).bind fun q_1 =>
 (kT N p).bind fun bV =>
 (aX 32 vm).bind fun q_2 =>
 (jG N [x8,bV,vm]).bind fun eD =>
 (rP N (⟨#[108,105,103,104,116,99,108,105,101,110,116,47,99,104,97,108,108,101,110,103,101]⟩) eD).bind fun bH =>
 (hY N bH).bind fun x15 =>
 (aX 4 x15).bind fun q_3 =>
 some x15
def pO (N : Nat) (va : List Int) (b : List Int) : Option (List Int) :=
 (aX 4 va).bind fun q =>
 (aX 4 b).bind fun q_1 =>
 (qT N).bind fun x7 =>
 (oO N va b x7).bind fun x8 =>
 (aX 4 x8).bind fun q_2 =>
 some x8
def zK (N : Nat) (x : List Int) (vm : List Int) : Option ((List Int) × (List Int) × Int) :=
 (aX 4 x).bind fun q =>
 (oH N x).bind fun eM =>
 (aX 4 eM.1).bind fun q_1 =>
 if eM.2 != 0 then
  some (List.replicate 4 0,List.replicate 4 0,eM.2)
 else
  (aX 32 vm).bind fun q_2 =>
  (kA N x vm).bind fun dI =>
  (aX 4 dI).bind fun q_3 =>
  (qR N dI).bind fun eN =>
  (kB N eN eM.1 vm).bind fun x26 =>
  (aX 4 x26).bind fun q_4 =>
  (pO N x26 x).bind fun cM =>
  (mR N dI cM).bind fun kL =>
  (aX 4 kL).bind fun q_5 =>
  some (x26,kL,0)
def uH (N : Nat) (s_E : List Int) (s_S : List Int) : Option (List Int) :=
 (aX 4 s_E).bind fun q =>
 (kT N s_E).bind fun x5 =>
 (aX 4 s_S).bind fun q_1 =>
 (kT N s_S).bind fun x8 =>
 (jG N [x5,x8]).bind fun bV =>
 some bV
def oU (N : Nat) (b : List Int) (c6 : List (List Int)) (d5 : List Int) (fB : Int) (lV : Int) : Option Int :=
 (zQ N b c6 d5 fB lV).bind fun bH =>
 if bH.2.2 != 0 then
  some bH.2.2
 else
  if (bH.1.length : Int) != 1 then
   some 81
  else
   (b5 bH.1 0).bind fun x28 =>
   (mI N x28).bind fun j4 =>
   if !j4 then
    some 84
   else
    some 0
def tZ (N : Nat) (l0 : List Int) : Option (List Int) :=
 some l0
def i6 (N : Nat) (vn : Int) (dA : Int) : Nat → Int → (List Int) → Option (List Int)
 | 0,_,_ => none
 | m + 1,bV,a9 =>
  if decide (bV < dA) then
   (shr .u64 vn (IntKind.i64.wrap (8 * bV))).bind fun x18 =>
   (b5 a9 bV).bind fun dX =>
   (i6 N vn dA m) (IntKind.i64.wrap (bV + 1)) (a9.set (Int.toNat bV) (IntKind.u8.wrap x18))
  else
   some a9
def o4 (N : Nat) (vn : Int) (dA : Int) : Option (List Int) :=
 (mks 1 0 dA).bind fun x8 =>
 (i6 N vn dA N 0 x8).bind fun p2 =>
 tZ N p2
def fJ (N : Nat) (b : List Int) (vs : List Int) : Option (List Int) :=
 (mks 1 0 (IntKind.i64.wrap ((b.length : Int) + (vs.length : Int)))).bind fun b4 =>
 (app 1 (b4.take 0) b).bind fun bH =>
 (app 1 bH vs).bind fun x17 =>
 some x17
def fP (N : Nat) (b : List Int) (vn : Int) : Option (List Int) :=
 (o4 N (IntKind.u64.wrap vn) 4).bind fun x8 =>
 (fJ N b x8).bind fun x9 =>
 some x9
def tS (N : Nat) (b : List Int) (vn : Int) : Option (List Int) :=
 (o4 N (IntKind.u64.wrap vn) 2).bind fun x8 =>
 (fJ N b x8).bind fun x9 =>
 some x9
def k4 (N : Nat) (b : List Int) (vn : Int) : Option (List Int) :=
 (o4 N vn 8).bind fun x7 =>
 (fJ N b x7).bind fun x8 =>
 some x8
def hZ (N : Nat) (b : List Int) (vn : Int) : Option (List Int) :=
 if decide (vn < 253) then
  (fJ N b [IntKind.u8.wrap vn]).bind fun eM =>
  some eM
 else
  if decide (vn < 65536) then
   (fJ N b [253]).bind fun x18 =>
   (tS N x18 (IntKind.u16.wrap vn)).bind fun dI =>
   some dI
  else
   if decide (vn < 4294967296) then
    (fJ N b [254]).bind fun x27 =>
    (fP N x27 (IntKind.u32.wrap vn)).bind fun j4 =>
    some j4
   else
    (fJ N b [255]).bind fun jU =>
    (k4 N jU vn).bind fun x35 =>
    some x35
def sC (N : Nat) (b : List Int) (vh : List Int) : Option (List Int) :=
 (aX 32 vh).bind fun q =>
 (fJ N b vh).bind fun x7 =>
 some x7
def aAj (N : Nat) (aCy : List Int) (vJ : Int) : Option (List Int) :=
 (aX 32 aCy).bind fun q =>
 (sC N [] aCy).bind fun x5 =>
 (fP N x5 vJ).bind fun x8 =>
 some x8
def iZ (N : Nat) (b : List Int) (vs : List Int) : Option (List Int) :=
 (hZ N b (IntKind.u64.wrap (vs.length : Int))).bind fun x9 =>
 (fJ N x9 vs).bind fun b4 =>
 some b4
def aBV (N : Nat) (l0 : List Int) : Option (List Int) :=
 some l0
def zV (N : Nat) (aD : List aF) (x79 : Int) (rec : Int → (List Int) → Option (List Int)) (jM : List Int) : Option (List Int) :=
 rec (IntKind.i64.wrap (x79 + 1)) jM
def kY (N : Nat) (aD : List aF) (x79 : Int) (x81 : aF) : Nat → Int → (List Int) → Option (List Int)
 | 0,_,_ => none
 | m + 1,x93,iF =>
  if decide (x93 < (x81.Witness.length : Int)) then
   (b5 x81.Witness x93).bind fun x95 =>
   (iZ N [] x95).bind fun x99 =>
   (app 1 iF x99).bind fun aFA =>
   (kY N aD x79 x81 m) (IntKind.i64.wrap (x93 + 1)) aFA
  else
   some iF
def i7 (N : Nat) (aD : List aF) : Nat → Int → (List Int) → Option (List Int)
 | 0,_,_ => none
 | m + 1,x79,a9 =>
  if decide (x79 < (aD.length : Int)) then
   (b5 aD x79).bind fun x81 =>
   (hZ N [] (IntKind.u64.wrap (x81.Witness.length : Int))).bind fun x88 =>
   (app 1 a9 x88).bind fun x89 =>
   (kY N aD x79 x81 N 0 x89).bind fun p6 =>
   zV N aD x79 (i7 N aD m) p6
  else
   some a9
def z4 (N : Nat) (aB : Int) (aD : List aF) (aA : List aE) (aH : Int) (c6 : Bool) (cW : List Int) : Option (List Int) :=
 (fP N [] aH).bind fun x71 =>
 (app 1 cW x71).bind fun x72 =>
 if !c6 then
  some x72
 else
  (i7 N aD N 0 x72).bind fun p4 =>
  aBV N p4
def kJ (N : Nat) (aB : Int) (aD : List aF) (aA : List aE) (aH : Int) (c6 : Bool) : Nat → Int → (List Int) → Option (List Int)
 | 0,_,_ => none
 | m + 1,x52,l1_2 =>
  if decide (x52 < (aA.length : Int)) then
   (b5 aA x52).bind fun x54 =>
   (k4 N [] (IntKind.u64.wrap x54.Value)).bind fun x60 =>
   (app 1 l1_2 x60).bind fun x61 =>
   (iZ N [] x54.Script).bind fun x65 =>
   (app 1 x61 x65).bind fun x66 =>
   (kJ N aB aD aA aH c6 m) (IntKind.i64.wrap (x52 + 1)) x66
  else
   some l1_2
def yU (N : Nat) (aB : Int) (aD : List aF) (aA : List aE) (aH : Int) (c6 : Bool) (l1 : List Int) : Option (List Int) :=
 (hZ N [] (IntKind.u64.wrap (aA.length : Int))).bind fun x47 =>
 (app 1 l1 x47).bind fun x48 =>
 (kJ N aB aD aA aH c6 N 0 x48).bind fun p7 =>
 z4 N aB aD aA aH c6 p7
def kR (N : Nat) (aB : Int) (aD : List aF) (aA : List aE) (aH : Int) (c6 : Bool) : Nat → Int → (List Int) → Option (List Int)
 | 0,_,_ => none
 | m + 1,x27,l1_3 =>
  if decide (x27 < (aD.length : Int)) then
   (b5 aD x27).bind fun x29 =>
   (aAj N x29.Prev.Tx x29.Prev.Index).bind fun dH =>
   (app 1 l1_3 dH).bind fun x35 =>
   (fP N [] x29.Sequence).bind fun x39 =>
   (app 1 x35 x39).bind fun x40 =>
   (kR N aB aD aA aH c6 m) (IntKind.i64.wrap (x27 + 1)) x40
  else
   some l1_3
def xW (N : Nat) (aB : Int) (aD : List aF) (aA : List aE) (aH : Int) (c6 : Bool) : Option (List Int) :=
 (fP N [] aB).bind fun x16 =>
 (hZ N [] (IntKind.u64.wrap (aD.length : Int))).bind fun c5 =>
 (app 1 x16 c5).bind fun eN =>
 (kR N aB aD aA aH c6 N 0 eN).bind fun p8 =>
 yU N aB aD aA aH c6 p8
def aBh (N : Nat) (aB : Int) (aD : List aF) (aA : List aE) (aH : Int) : Option Bool :=
 (xW N aB aD aA aH true).bind fun x60 =>
 some (decide ((x60.length : Int) ≤ 20000))
def aBn (N : Nat) (aB : Int) (aD : List aF) (aA : List aE) (aH : Int) (x39 : Int) (rec : Int → Option (LR (Unit) (Bool))) : Option (LR (Unit) (Bool)) :=
 rec (IntKind.i64.wrap (x39 + 1))
def nL (N : Nat) (aB : Int) (aD : List aF) (aA : List aE) (aH : Int) (x39 : Int) (x41 : aF) : Nat → Int → Option (LR (Unit) (Bool))
 | 0,_ => none
 | m + 1,x50 =>
  if decide (x50 < (x41.Witness.length : Int)) then
   (b5 x41.Witness x50).bind fun x52 =>
   if decide (520 < (x52.length : Int)) then
    some (.ret false)
   else
    (nL N aB aD aA aH x39 x41 m) (IntKind.i64.wrap (x50 + 1))
  else
   some (.brk ())
def nJ (N : Nat) (aB : Int) (aD : List aF) (aA : List aE) (aH : Int) : Nat → Int → Option (LR (Unit) (Bool))
 | 0,_ => none
 | m + 1,x39 =>
  if decide (x39 < (aD.length : Int)) then
   (b5 aD x39).bind fun x41 =>
   if decide (32 < (x41.Witness.length : Int)) then
    some (.ret false)
   else
    (nL N aB aD aA aH x39 x41 N 0).bind fun q => match q with
     | .ret v => some (.ret v)
     | .brk p6 =>
      aBn N aB aD aA aH x39 (nJ N aB aD aA aH m)
  else
   some (.brk ())
def aBu (N : Nat) (aB : Int) (aD : List aF) (aA : List aE) (aH : Int) : Option Bool :=
 (nJ N aB aD aA aH N 0).bind fun q => match q with
  | .ret v => some v
  | .brk p4 =>
   aBh N aB aD aA aH
def z7 (N : Nat) (aB : Int) (aD : List aF) (aA : List aE) (aH : Int) (c5 : Int) (rec : Int → Option (LR (Unit) (Bool))) (dH : Bool) : Option (LR (Unit) (Bool)) :=
 if dH then
  some (.ret false)
 else
  rec (IntKind.i64.wrap (c5 + 1))
def lX (N : Nat) (aB : Int) (aD : List aF) (aA : List aE) (aH : Int) : Nat → Int → Option (LR (Unit) (Bool))
 | 0,_ => none
 | m + 1,c5 =>
  if decide (c5 < (aA.length : Int)) then
   (b5 aA c5).bind fun fW =>
   if decide (fW.Value < 0) then
    z7 N aB aD aA aH c5 (lX N aB aD aA aH m) true
   else
    z7 N aB aD aA aH c5 (lX N aB aD aA aH m) (decide (520 < (fW.Script.length : Int)))
  else
   some (.brk ())
def zC (N : Nat) (aB : Int) (aD : List aF) (aA : List aE) (aH : Int) (x18 : Bool) : Option Bool :=
 if x18 then
  some false
 else
  (lX N aB aD aA aH N 0).bind fun q => match q with
   | .ret v => some v
   | .brk p7 =>
    aBu N aB aD aA aH
def aBB (N : Nat) (aB : Int) (aD : List aF) (aA : List aE) (aH : Int) : Option Bool :=
 if decide (64 < (aD.length : Int)) then
  zC N aB aD aA aH true
 else
  zC N aB aD aA aH (decide (64 < (aA.length : Int)))
def aCw (N : Nat) : Option Bool :=
 some true
def qY (N : Nat) (l : List aE) : Nat → Int → Int → Option (LR (Unit) (Bool))
 | 0,_,_ => none
 | m + 1,sum,x8 =>
  if decide (x8 < (l.length : Int)) then
   (b5 l x8).bind fun bV =>
   if decide ((IntKind.i64.wrap (2100000000000000 - sum)) < bV.Value) then
    some (.ret false)
   else
    (qY N l m) (IntKind.i64.wrap (sum + bV.Value)) (IntKind.i64.wrap (x8 + 1))
  else
   some (.brk ())
def aBL (N : Nat) (l : List aE) : Option Bool :=
 (qY N l N 0 0).bind fun q => match q with
  | .ret v => some v
  | .brk p2 =>
   aCw N
def aHy (N : Nat) (aCy : List Int) (vJ : Int) : Option Bool :=
 some (o8 aCy (List.replicate 32 0) ((vJ == 4294967295) && true))
def vL (N : Nat) (x2 : Bool) : Option Bool :=
 some x2
def tE (N : Nat) (aB : Int) (aD : List aF) (aA : List aE) (aH : Int) : Option Bool :=
 if (aD.length : Int) == 1 then
  (b5 aD 0).bind fun bV =>
  (aHy N bV.Prev.Tx bV.Prev.Index).bind fun eD =>
  vL N eD
 else
  vL N false
def aAv (N : Nat) (x46 : Bool) : Option Int :=
 if x46 then
  some 92
 else
  some 0
def aAx (N : Nat) (aB : Int) (aD : List aF) (aA : List aE) (aH : Int) (l1 : List (aQ × Bool)) : Option Int :=
 if aB8 mS l1 (aQ.mk (List.replicate 32 0) 4294967295) false then
  (tE N aB aD aA aH).bind fun x44 =>
  aAv N (!x44)
 else
  aAv N false
def qQ (N : Nat) (aB : Int) (aD : List aF) (aA : List aE) (aH : Int) : Nat → Int → (List (aQ × Bool)) → Option (LR ((List (aQ × Bool))) (Int))
 | 0,_,_ => none
 | m + 1,x27,cW =>
  if decide (x27 < (aD.length : Int)) then
   (b5 aD x27).bind fun x29 =>
   if aB8 mS cW x29.Prev false then
    some (.ret 91)
   else
    (qQ N aB aD aA aH m) (IntKind.i64.wrap (x27 + 1)) (aEm mS cW x29.Prev true)
  else
   some (.brk cW)
def wB (N : Nat) (aB : Int) (aD : List aF) (aA : List aE) (aH : Int) (x18 : Bool) : Option Int :=
 if x18 then
  some 93
 else
  (aBL N aA).bind fun dI =>
  if !dI then
   some 90
  else
   (qQ N aB aD aA aH N 0 []).bind fun q => match q with
    | .ret v => some v
    | .brk p4 =>
     aAx N aB aD aA aH p4
def aBT (N : Nat) (aB : Int) (aD : List aF) (aA : List aE) (aH : Int) : Option Int :=
 (aBB N aB aD aA aH).bind fun x7 =>
 if !x7 then
  some 4
 else
  if (aD.length : Int) == 0 then
   wB N aB aD aA aH true
  else
   wB N aB aD aA aH ((aA.length : Int) == 0)
def yM (N : Nat) (aGq : Int) : Option (Int × Bool) :=
 some (aGq,true)
def uQ (N : Nat) (l : List aT) (lH : Int) (x9 : Int) (b4 : aT) (rec : Int → Int → Option (LR (Int) (Int × Bool))) (fW : Bool) : Option (LR (Int) (Int × Bool)) :=
 if fW then
  some (.ret (0,false))
 else
  rec (IntKind.i64.wrap (lH + b4.Output.Value)) (IntKind.i64.wrap (x9 + 1))
def kN (N : Nat) (l : List aT) : Nat → Int → Int → Option (LR (Int) (Int × Bool))
 | 0,_,_ => none
 | m + 1,lH,x9 =>
  if decide (x9 < (l.length : Int)) then
   (b5 l x9).bind fun b4 =>
   if decide (b4.Output.Value < 0) then
    uQ N l lH x9 b4 (kN N l m) true
   else
    uQ N l lH x9 b4 (kN N l m) (decide ((IntKind.i64.wrap (2100000000000000 - lH)) < b4.Output.Value))
  else
   some (.brk lH)
def aCr (N : Nat) (l : List aT) : Option (Int × Bool) :=
 (kN N l N 0 0).bind fun q => match q with
  | .ret v => some v
  | .brk p2 =>
   yM N p2
def yA (N : Nat) (fee : Int) : Option (Int × Int) :=
 if decide (fee < 0) then
  some (0,100)
 else
  some (fee,0)
def mH (N : Nat) (aA : List aE) : Nat → Int → Int → Option Int
 | 0,_,_ => none
 | m + 1,fee_1,x51 =>
  if decide (x51 < (aA.length : Int)) then
   (b5 aA x51).bind fun x53 =>
   (mH N aA m) (IntKind.i64.wrap (fee_1 - x53.Value)) (IntKind.i64.wrap (x51 + 1))
  else
   some fee_1
def yC (N : Nat) (aB : Int) (aD : List aF) (aA : List aE) (aH : Int) (l : List aT) : Option (Int × Int) :=
 (aCr N l).bind fun x43 =>
 if !x43.2 then
  some (0,90)
 else
  (mH N aA N x43.1 0).bind fun p3 =>
  yA N p3
def mE (N : Nat) (aB : Int) (aD : List aF) (aA : List aE) (aH : Int) (l : List aT) : Nat → Int → Option (LR (Unit) (Int × Int))
 | 0,_ => none
 | m + 1,x26 =>
  if decide (x26 < (l.length : Int)) then
   (b5 l x26).bind fun x29 =>
   (b5 aD x26).bind fun x36 =>
   if !(o8 x29.Out.Tx x36.Prev.Tx ((x29.Out.Index == x36.Prev.Index) && true)) then
    some (.ret (0,101))
   else
    (mE N aB aD aA aH l m) (IntKind.i64.wrap (x26 + 1))
  else
   some (.brk ())
def uD (N : Nat) (aB : Int) (aD : List aF) (aA : List aE) (aH : Int) (l : List aT) : Option (Int × Int) :=
 (aBT N aB aD aA aH).bind fun bH =>
 if bH != 0 then
  some (0,bH)
 else
  if (l.length : Int) != (aD.length : Int) then
   some (0,8)
  else
   (mE N aB aD aA aH l N 0).bind fun q => match q with
    | .ret v => some v
    | .brk p4 =>
     yC N aB aD aA aH l
def s6 (N : Nat) (x0 : Bool) : Option Bool :=
 some x0
def aBj (N : Nat) : Option Bool :=
 (uD N 0 [(aF.mk (aQ.mk (List.replicate 32 0) 1) 0 []),(aF.mk (aQ.mk (List.replicate 32 0) 2) 0 [])] [(aE.mk 10 [])] 0 [(aT.mk (aQ.mk (List.replicate 32 0) 1) (aE.mk 5 []) 0 false),(aT.mk (aQ.mk (List.replicate 32 0) 2) (aE.mk 7 []) 0 false)]).bind fun x29 =>
 (b5 [(aE.mk 10 [])] 0).bind fun dH =>
 (uD N 0 [(aF.mk (aQ.mk (List.replicate 32 0) 1) 0 []),(aF.mk (aQ.mk (List.replicate 32 0) 2) 0 [])] ([(aE.mk 10 [])].set (Int.toNat 0) (aE.mk 13 dH.Script)) 0 [(aT.mk (aQ.mk (List.replicate 32 0) 1) (aE.mk 5 []) 0 false),(aT.mk (aQ.mk (List.replicate 32 0) 2) (aE.mk 7 []) 0 false)]).bind fun x39 =>
 if x29.2 == 0 then
  if x29.1 == 2 then
   s6 N (x39.2 == 100)
  else
   s6 N false
 else
  s6 N false
def aA4 (N : Nat) : Option Bool :=
 some true
def k8 (N : Nat) (l : List (List Int)) (vm : Int) : Nat → Int → Option (LR (Unit) (Bool))
 | 0,_ => none
 | m + 1,x15 =>
  if decide (x15 < (l.length : Int)) then
   (b5 l x15).bind fun x17 =>
   if decide (vm < (x17.length : Int)) then
    some (.ret false)
   else
    (k8 N l vm m) (IntKind.i64.wrap (x15 + 1))
  else
   some (.brk ())
def yR (N : Nat) (l : List (List Int)) (vn : Int) (vm : Int) : Option Bool :=
 if decide (vn < (l.length : Int)) then
  some false
 else
  (k8 N l vm N 0).bind fun q => match q with
   | .ret v => some v
   | .brk p2 =>
    aA4 N
def aDi (N : Nat) : Option Bool :=
 some true
def pW (N : Nat) (aA : List aE) : Nat → Int → Option (LR (Unit) (Bool))
 | 0,_ => none
 | m + 1,kL =>
  if decide (kL < (aA.length : Int)) then
   (b5 aA kL).bind fun dH =>
   if decide (600 < (dH.Script.length : Int)) then
    some (.ret false)
   else
    (pW N aA m) (IntKind.i64.wrap (kL + 1))
  else
   some (.brk ())
def aBe (N : Nat) (aB : Int) (aD : List aF) (aA : List aE) (aH : Int) : Option Bool :=
 (pW N aA N 0).bind fun q => match q with
  | .ret v => some v
  | .brk p4 =>
   aDi N
def p9 (N : Nat) (aB : Int) (aD : List aF) (aA : List aE) (aH : Int) : Nat → Int → Option (LR (Unit) (Bool))
 | 0,_ => none
 | m + 1,dX =>
  if decide (dX < (aD.length : Int)) then
   (b5 aD dX).bind fun c5 =>
   (yR N c5.Witness 40 600).bind fun x26 =>
   if !x26 then
    some (.ret false)
   else
    (p9 N aB aD aA aH m) (IntKind.i64.wrap (dX + 1))
  else
   some (.brk ())
def yN (N : Nat) (aB : Int) (aD : List aF) (aA : List aE) (aH : Int) (x16 : Bool) : Option Bool :=
 if x16 then
  some false
 else
  (p9 N aB aD aA aH N 0).bind fun q => match q with
   | .ret v => some v
   | .brk p5 =>
    aBe N aB aD aA aH
def aC5 (N : Nat) (aB : Int) (aD : List aF) (aA : List aE) (aH : Int) : Option Bool :=
 if decide (70 < (aD.length : Int)) then
  yN N aB aD aA aH true
 else
  yN N aB aD aA aH (decide (70 < (aA.length : Int)))
def aCq (N : Nat) (p : List Int) : Option (List Int) :=
 (aX 4 p).bind fun q =>
 (s9 N p).bind fun x5 =>
 (aX 32 x5).bind fun q_1 =>
 some x5
def zJ (N : Nat) (aDa : Int) (aD2 : List Int) (o_M : Int) (o_N : Int) : Option (List Int) :=
 if aDa == 1 then
  (jG N [[1,IntKind.u8.wrap (aD2.length : Int)],aD2]).bind fun x15 =>
  some x15
 else
  if aDa == 11 then
   some [11,IntKind.u8.wrap o_M,IntKind.u8.wrap o_N]
  else
   some [IntKind.u8.wrap aDa]
def aBm (N : Nat) (b : List Int) : Option (List Int) :=
 (zJ N 1 b 0 0).bind fun x5 =>
 some x5
def u2 (N : Nat) (p : List Int) : Option (List Int) :=
 (aX 4 p).bind fun q =>
 (aCq N p).bind fun x4 =>
 (aBm N x4).bind fun x5 =>
 (jG N [x5,[10]]).bind fun x8 =>
 some x8
def aCk (N : Nat) (aB : Int) (aD : List aF) (aA : List aE) (aH : Int) (c6 : Bool) : Option ((List Int) × Int) :=
 (aBB N aB aD aA aH).bind fun x7 =>
 if !x7 then
  some ([],4)
 else
  (xW N aB aD aA aH c6).bind fun b4 =>
  some (b4,0)
def z8 (N : Nat) (aB : Int) (aD : List aF) (aA : List aE) (aH : Int) : Option Bool :=
 (aCk N aB aD aA aH true).bind fun x7 =>
 some (x7.2 == 0)
def mL (N : Nat) (vn : Int) : Option (List Int) :=
 (fP N [] vn).bind fun x4 =>
 some x4
def aB5 (N : Nat) (l0 : List Int) : Option (List Int) :=
 some l0
def mK (N : Nat) (parts : List (List Int)) : Nat → Int → (List Int) → Option (List Int)
 | 0,_,_ => none
 | m + 1,x8,a9 =>
  if decide (x8 < (parts.length : Int)) then
   (b5 parts x8).bind fun bV =>
   (app 1 a9 bV).bind fun bH =>
   (mK N parts m) (IntKind.i64.wrap (x8 + 1)) bH
  else
   some a9
def uF (N : Nat) (parts : List (List Int)) : Option (List Int) :=
 (mK N parts N 0 []).bind fun p2 =>
 aB5 N p2
def rR (N : Nat) (cA : Int) (bU : List Int) : Option (List Int) :=
 (k4 N [] (IntKind.u64.wrap cA)).bind fun x6 =>
 (iZ N [] bU).bind fun x9 =>
 (uF N [x6,x9]).bind fun b4 =>
 some b4
def oR (N : Nat) (b : List Int) : Option (List Int) :=
 (xR N b).bind fun x5 =>
 (aX 32 x5).bind fun q =>
 some x5
def sQ (N : Nat) (aB : Int) (aD : List aF) (aA : List aE) (aH : Int) (vi : Int) (cA : Int) (bU : List Int) (l3 : List Int) (l4 : List Int) (l5 : List Int) : Option ((List Int) × Int) :=
 (mL N aB).bind fun x72 =>
 (oR N l3).bind fun x74 =>
 (oR N l4).bind fun x76 =>
 (oR N l5).bind fun x78 =>
 (mL N aH).bind fun x81 =>
 (mL N (IntKind.u32.wrap vi)).bind fun x84 =>
 (rR N cA bU).bind fun x86 =>
 (uF N [x72,x74,x76,x78,x81,x84,x86]).bind fun x88 =>
 (vH N (⟨#[108,105,103,104,116,99,108,105,101,110,116,47,115,112,101,110,100]⟩) x88).bind fun x89 =>
 (aX 32 x89).bind fun q =>
 some (x89,0)
def fV (N : Nat) (aB : Int) (aD : List aF) (aA : List aE) (aH : Int) (vi : Int) (cA : Int) (bU : List Int) (l3 : List Int) (l4 : List Int) : Nat → Int → (List Int) → Option (List Int)
 | 0,_,_ => none
 | m + 1,x61,l5_1 =>
  if decide (x61 < (aA.length : Int)) then
   (b5 aA x61).bind fun x63 =>
   (rR N x63.Value x63.Script).bind fun x67 =>
   (app 1 l5_1 x67).bind fun x68 =>
   (fV N aB aD aA aH vi cA bU l3 l4 m) (IntKind.i64.wrap (x61 + 1)) x68
  else
   some l5_1
def sR (N : Nat) (aB : Int) (aD : List aF) (aA : List aE) (aH : Int) (vi : Int) (cA : Int) (bU : List Int) (l3 : List Int) (l4 : List Int) : Option ((List Int) × Int) :=
 (fV N aB aD aA aH vi cA bU l3 l4 N 0 []).bind fun p5 =>
 sQ N aB aD aA aH vi cA bU l3 l4 p5
def jJ (N : Nat) (aB : Int) (aD : List aF) (aA : List aE) (aH : Int) (vi : Int) (cA : Int) (bU : List Int) : Nat → Int → (List Int) → (List Int) → Option ((List Int) × (List Int))
 | 0,_,_,_ => none
 | m + 1,x43,eK,j8 =>
  if decide (x43 < (aD.length : Int)) then
   (b5 aD x43).bind fun x45 =>
   (aAj N x45.Prev.Tx x45.Prev.Index).bind fun x50 =>
   (app 1 eK x50).bind fun x51 =>
   (mL N x45.Sequence).bind fun x55 =>
   (app 1 j8 x55).bind fun x56 =>
   (jJ N aB aD aA aH vi cA bU m) (IntKind.i64.wrap (x43 + 1)) x51 x56
  else
   some (eK,j8)
def lG (N : Nat) (aB : Int) (aD : List aF) (aA : List aE) (aH : Int) (vi : Int) (cA : Int) (bU : List Int) (x38 : Bool) : Option ((List Int) × Int) :=
 if x38 then
  some ([0,0,0,0,0,0,0,0,0,0,0,0,0,0,0,0,0,0,0,0,0,0,0,0,0,0,0,0,0,0,0,0],5)
 else
  (jJ N aB aD aA aH vi cA bU N 0 [] []).bind fun p6 =>
  sR N aB aD aA aH vi cA bU p6.1 p6.2
def lK (N : Nat) (aB : Int) (aD : List aF) (aA : List aE) (aH : Int) (vi : Int) (cA : Int) (bU : List Int) (x28 : Bool) : Option ((List Int) × Int) :=
 if x28 then
  some ([0,0,0,0,0,0,0,0,0,0,0,0,0,0,0,0,0,0,0,0,0,0,0,0,0,0,0,0,0,0,0,0],4)
 else
  if decide (vi < 0) then
   lG N aB aD aA aH vi cA bU true
  else
   lG N aB aD aA aH vi cA bU (decide ((aD.length : Int) ≤ vi))
def k9 (N : Nat) (aB : Int) (aD : List aF) (aA : List aE) (aH : Int) (vi : Int) (cA : Int) (bU : List Int) : Option ((List Int) × Int) :=
 (z8 N aB aD aA aH).bind fun x16 =>
 if !x16 then
  lK N aB aD aA aH vi cA bU true
 else
  if decide (cA < 0) then
   lK N aB aD aA aH vi cA bU true
  else
   lK N aB aD aA aH vi cA bU (decide (520 < (bU.length : Int)))
def t5 (N : Nat) (aB : Int) (aA : List aE) (aH : Int) (l2 : List aT) (eK : List aF) : Option (Int × (List aF) × (List aE) × Int × (List aT)) :=
 some (aB,eK,aA,aH,l2)
def i3 (N : Nat) (bE : List Int) (aB : Int) (aA : List aE) (aH : Int) (l2 : List aT) (l3 : List aF) : Nat → Int → (List aF) → Option (List aF)
 | 0,_,_ => none
 | m + 1,x77,cJ =>
  if decide (x77 < (l3.length : Int)) then
   (b5 bE x77).bind fun x82 =>
   (hY N [0,0,0,0,0,1,0,0,0,0,0,0,0,0,0,0,0,0,0,0,0,0,0,0,0,0,0,0,0,0,0,IntKind.u8.wrap (x82 + 1)]).bind fun x86 =>
   (aX 4 x86).bind fun q =>
   (b5 l2 x77).bind fun x92 =>
   (k9 N aB cJ aA aH x77 x92.Output.Value x92.Output.Script).bind fun x95 =>
   (aX 32 x95.1).bind fun q_1 =>
   (zK N x86 x95.1).bind fun aJ4 =>
   (uH N aJ4.1 aJ4.2.1).bind fun aEN =>
   (b5 cJ x77).bind fun aCg =>
   (i3 N bE aB aA aH l2 l3 m) (IntKind.i64.wrap (x77 + 1)) (cJ.set (Int.toNat x77) (aF.mk aCg.Prev aCg.Sequence [aEN]))
  else
   some cJ
def tW (N : Nat) (bE : List Int) (aB : Int) (aA : List aE) (aH : Int) (l2 : List aT) (l3 : List aF) : Option (Int × (List aF) × (List aE) × Int × (List aT)) :=
 (i3 N bE aB aA aH l2 l3 N 0 l3).bind fun p3 =>
 t5 N aB aA aH l2 p3
def qB (N : Nat) (bE : List Int) (aB : Int) (aA : List aE) (aH : Int) (vi : Int) (dE : List aT) (lJ : List aF) (rec : Int → (List aT) → (List aF) → Option ((List aT) × (List aF))) (x26 : Bool) : Option ((List aT) × (List aF)) :=
 if x26 then
  (b5 bE vi).bind fun cM =>
  (hY N [0,0,0,0,0,1,0,0,0,0,0,0,0,0,0,0,0,0,0,0,0,0,0,0,0,0,0,0,0,0,0,IntKind.u8.wrap (cM + 1)]).bind fun x35 =>
  (aX 4 x35).bind fun q_2 =>
  (oH N x35).bind fun x38 =>
  (aX 4 x38.1).bind fun q_3 =>
  (u2 N x38.1).bind fun x57 =>
  (app 88 dE [(aT.mk (aQ.mk [IntKind.u8.wrap vi,cM,0,0,0,0,0,0,0,0,0,0,0,0,0,0,0,0,0,0,0,0,0,0,0,0,0,0,0,0,0,0] (IntKind.u32.wrap cM)) (aE.mk 525000000000000 x57) 1 false)]).bind fun x61 =>
  (app 64 lJ [(aF.mk (aQ.mk [IntKind.u8.wrap vi,cM,0,0,0,0,0,0,0,0,0,0,0,0,0,0,0,0,0,0,0,0,0,0,0,0,0,0,0,0,0,0] (IntKind.u32.wrap cM)) (IntKind.u32.wrap cM) [])]).bind fun x72 =>
  rec (IntKind.i64.wrap (vi + 1)) x61 x72
 else
  some (dE,lJ)
def fQ (N : Nat) (bE : List Int) (aB : Int) (aA : List aE) (aH : Int) : Nat → Int → (List aT) → (List aF) → Option ((List aT) × (List aF))
 | 0,_,_,_ => none
 | m + 1,vi,dE,lJ =>
  if decide (vi < (bE.length : Int)) then
   qB N bE aB aA aH vi dE lJ (fQ N bE aB aA aH m) (decide (vi < 2))
  else
   qB N bE aB aA aH vi dE lJ (fQ N bE aB aA aH m) false
def uL (N : Nat) (bE : List Int) (aB : Int) (aD : List aF) (aA : List aE) (aH : Int) : Option (Int × (List aF) × (List aE) × Int × (List aT)) :=
 (fQ N bE aB aA aH N 0 [] []).bind fun p4 =>
 tW N bE aB aA aH p4.1 p4.2
def aCK (N : Nat) : Option Bool :=
 some true
def nT (N : Nat) (aD : List aF) : Nat → Int → Option (LR (Unit) (Bool))
 | 0,_ => none
 | m + 1,x15 =>
  if decide (x15 < (aD.length : Int)) then
   (b5 aD x15).bind fun x17 =>
   if x17.Sequence != 4294967295 then
    some (.ret false)
   else
    (nT N aD m) (IntKind.i64.wrap (x15 + 1))
  else
   some (.brk ())
def aCb (N : Nat) (aB : Int) (aD : List aF) (aA : List aE) (aH : Int) (dK : Int) : Option Bool :=
 if decide ((IntKind.i64.wrap aH) ≤ dK) then
  some true
 else
  (nT N aD N 0).bind fun q => match q with
   | .ret v => some v
   | .brk p2 =>
    aCK N
def nY (N : Nat) (aB : Int) (aD : List aF) (aA : List aE) (aH : Int) (vi : Int) (nF : List Int) (iI : Int) (fM : Int) (d9 : List Int) (hH : Int) (mA : Bool) (dK : Int) (x17 : (List Int) × Int) (dH : Bool) : Option Int :=
 if dH then
  some 102
 else
  (b5 aD vi).bind fun x61 =>
  (oU N d9 x61.Witness x17.1 dK (IntKind.i64.wrap (dK - hH))).bind fun x65 =>
  some x65
def wO (N : Nat) (aB : Int) (aD : List aF) (aA : List aE) (aH : Int) (vi : Int) (nF : List Int) (iI : Int) (fM : Int) (d9 : List Int) (hH : Int) (mA : Bool) (dK : Int) : Option Int :=
 (k9 N aB aD aA aH vi fM d9).bind fun x17 =>
 (aX 32 x17.1).bind fun q =>
 if x17.2 != 0 then
  some x17.2
 else
  (b5 aD vi).bind fun x28 =>
  if !(o8 x28.Prev.Tx nF ((x28.Prev.Index == iI) && true)) then
   some 101
  else
   if decide (hH < 0) then
    nY N aB aD aA aH vi nF iI fM d9 hH mA dK x17 true
   else
    if decide (dK < hH) then
     nY N aB aD aA aH vi nF iI fM d9 hH mA dK x17 true
    else
     nY N aB aD aA aH vi nF iI fM d9 hH mA dK x17 (decide (16777216 < dK))
def aAe (N : Nat) (x18 : Int × Int) : Option (Int × Int) :=
 some (x18.1,0)
def lI (N : Nat) (aB : Int) (aD : List aF) (aA : List aE) (aH : Int) (l : List aT) (dK : Int) (x18 : Int × Int) : Nat → Int → Option (LR (Unit) (Int × Int))
 | 0,_ => none
 | m + 1,j4 =>
  if decide (j4 < (l.length : Int)) then
   (b5 l j4).bind fun jU =>
   (wO N aB aD aA aH j4 jU.Out.Tx jU.Out.Index jU.Output.Value jU.Output.Script jU.Height jU.Coinbase dK).bind fun x39 =>
   if x39 != 0 then
    some (.ret (0,x39))
   else
    (lI N aB aD aA aH l dK x18 m) (IntKind.i64.wrap (j4 + 1))
  else
   some (.brk ())
def lW (N : Nat) (aB : Int) (aD : List aF) (aA : List aE) (aH : Int) (l : List aT) (dK : Int) : Option (Int × Int) :=
 (tE N aB aD aA aH).bind fun bH =>
 if bH then
  some (0,92)
 else
  (uD N aB aD aA aH l).bind fun x18 =>
  if x18.2 != 0 then
   some (0,x18.2)
  else
   (aCb N aB aD aA aH dK).bind fun x26 =>
   if !x26 then
    some (0,85)
   else
    (lI N aB aD aA aH l dK x18 N 0).bind fun q => match q with
     | .ret v => some v
     | .brk p2 =>
      aAe N x18
def vW (N : Nat) (aJw : Int) (vm : List Int) (vn : List Int) : Option Bool :=
 (hY N [0,0,0,0,0,1,0,0,0,0,0,0,0,0,0,0,0,0,0,0,0,0,0,0,0,0,0,0,0,0,0,IntKind.u8.wrap (aJw + 1)]).bind fun bH =>
 (aX 4 bH).bind fun q =>
 (oH N bH).bind fun x17 =>
 (aX 4 x17.1).bind fun q_1 =>
 (aX 32 vm).bind fun q_2 =>
 (kA N bH vm).bind fun c5 =>
 (qR N c5).bind fun eN =>
 (aX 4 eN).bind fun q_3 =>
 (kB N eN x17.1 vm).bind fun x27 =>
 (aX 32 vn).bind fun q_4 =>
 (kB N eN x17.1 vn).bind fun cM =>
 (aX 4 x27).bind fun q_5 =>
 (aX 4 cM).bind fun q_6 =>
 some (!(x27 == cM))
def nN (N : Nat) (x6 : Bool) : Option Bool :=
 some x6
def kZ (N : Nat) (bE : List Int) (vby : Int) (x73 : Int × (List aF) × (List aE) × Int × (List aT)) (x99 : Bool) : Option Bool :=
 if x99 then
  some false
 else
  (b5 x73.2.2.2.2 0).bind fun cK =>
  (k9 N x73.1 x73.2.1 x73.2.2.1 x73.2.2.2.1 0 cK.Output.Value cK.Output.Script).bind fun eG =>
  (aX 32 eG.1).bind fun q =>
  (b5 (x73.2.2.2.2.set (Int.toNat 0) (aT.mk cK.Out (aE.mk (IntKind.i64.wrap (cK.Output.Value - (IntKind.i64.wrap vby))) cK.Output.Script) cK.Height cK.Coinbase)) 0).bind fun aFR =>
  (k9 N x73.1 x73.2.1 x73.2.2.1 x73.2.2.2.1 0 aFR.Output.Value aFR.Output.Script).bind fun nA =>
  (aX 32 nA.1).bind fun q_1 =>
  (lW N x73.1 x73.2.1 x73.2.2.1 x73.2.2.2.1 (x73.2.2.2.2.set (Int.toNat 0) (aT.mk cK.Out (aE.mk (IntKind.i64.wrap (cK.Output.Value - (IntKind.i64.wrap vby))) cK.Output.Script) cK.Height cK.Coinbase)) 5).bind fun aKe =>
  (b5 bE 0).bind fun aRC =>
  (vW N aRC eG.1 nA.1).bind fun aNX =>
  if !aNX then
   nN N true
  else
   nN N (aKe.2 == 61)
def kE (N : Nat) (bE : List Int) (aB : Int) (aD : List aF) (aA : List aE) (aH : Int) (vby : Int) : Option Bool :=
 (uL N bE aB aD aA 0).bind fun x73 =>
 if (x73.2.2.1.length : Int) == 0 then
  (lW N x73.1 x73.2.1 x73.2.2.1 x73.2.2.2.1 x73.2.2.2.2 5).bind fun x83 =>
  some (x83.2 == 93)
 else
  (lW N x73.1 x73.2.1 x73.2.2.1 x73.2.2.2.1 x73.2.2.2.2 5).bind fun x91 =>
  if x91.2 != 0 then
   kZ N bE vby x73 true
  else
   kZ N bE vby x73 (decide (x91.1 < 0))
def iO (N : Nat) (bE : List Int) (aB : Int) (aD : List aF) (aA : List aE) (aH : Int) (vby : Int) (x39 : Int) (rec : Int → Option (LR (Unit) (Bool))) (x67 : Bool) : Option (LR (Unit) (Bool)) :=
 if x67 then
  some (.ret true)
 else
  rec (IntKind.i64.wrap (x39 + 1))
def cP (N : Nat) (bE : List Int) (aB : Int) (aD : List aF) (aA : List aE) (aH : Int) (vby : Int) : Nat → Int → Option (LR (Unit) (Bool))
 | 0,_ => none
 | m + 1,x39 =>
  if decide (x39 < (aA.length : Int)) then
   (b5 aA x39).bind fun x45 =>
   if decide (x45.Value < 0) then
    iO N bE aB aD aA aH vby x39 (cP N bE aB aD aA aH vby m) true
   else
    if decide (65625000000000 < x45.Value) then
     iO N bE aB aD aA aH vby x39 (cP N bE aB aD aA aH vby m) true
    else
     iO N bE aB aD aA aH vby x39 (cP N bE aB aD aA aH vby m) (decide (520 < (x45.Script.length : Int)))
  else
   some (.brk ())
def fT (N : Nat) (bE : List Int) (aB : Int) (aD : List aF) (aA : List aE) (aH : Int) (vby : Int) (x35 : Bool) : Option Bool :=
 if x35 then
  some true
 else
  (cP N bE aB aD aA aH vby N 0).bind fun q => match q with
   | .ret v => some v
   | .brk p5 =>
    kE N bE aB aD aA aH vby
def nI (N : Nat) (bE : List Int) (aB : Int) (aD : List aF) (aA : List aE) (aH : Int) (vby : Int) : Option Bool :=
 (aBj N).bind fun dX =>
 if !dX then
  some false
 else
  if (bE.length : Int) == 0 then
   fT N bE aB aD aA aH vby true
  else
   if decide (4 < (aA.length : Int)) then
    fT N bE aB aD aA aH vby true
   else
    (aC5 N aB aD aA aH).bind fun jU =>
    fT N bE aB aD aA aH vby (!jU)
end Go.Proofs.YtnoklhehodlkaaaGreatDoor
namespace Go.Vm
open Go Go.ChangeShapes Go.WideShapes Go.ChangeAt Go.RowKit
section
variable {P : Program} {t e : TypeId}
theorem aGV {α : Type} {w : World} {E : α → V} : ∀ (l : List α) (vs : List Value),l.length = vs.length → (∀ (i : Nat) (x : α) (v : Value),l[i]? = some x → vs[i]? = some v → VR uT [] w (E x) v) → VCells uT [] w (l.map E) vs
 | [],[],_,_ => sD
 | [],_ :: _,h,_ => by cases h
 | _ :: _,[],h,_ => by cases h
 | x :: l,v :: vs,h,k => lZ (k 0 x v rfl rfl) (aGV l vs (by simpa using h) fun i x' v' h1 h2 => k (i + 1) x' v' (by simpa using h1) (by simpa using h2))
theorem aKA {n : Nat} {k : IntKind} (ht : P.underlying t = some (.array n e)) (he : P.underlying e = some (.int k)) (h1 : P.cellsOf e = 1) (hn : P.cellsOf t = n) :
  yZ P t (fun x : {l : List Int // l.length = n} => ∀ y ∈ x.1,(Lit.int k y).wf = true) (fun x => x.1.map (eI k)) := by
 intro H enc w spare held fuel cs x h
 obtain ⟨xs,m,_,_,hl,hxs,hf⟩ := DataW.trod_array ht h
 rw [hn] at hl
 have each : ∀ i,i < n → ∃ a : Int,(Lit.int k a).wf = true ∧ ∀ v,cs[i]? = some v → VR uT [] w (eI k a) v := by
  intro i hi
  have h2 := hf i hi
  rw [h1,Nat.mul_one,List.getElem?_eq_getElem (by omega)] at h2
  obtain ⟨a,hw,hc⟩ := nR he h2
  refine ⟨a,hw,fun v hv => ?_⟩
  have e2 : (cs.drop i).take 1 = [v] := by
   obtain ⟨hic,rfl⟩ := List.getElem?_eq_some_iff.1 hv
   rw [List.drop_eq_getElem_cons hic]; rfl
  rw [e2] at hc
  exact aCx hc
 obtain ⟨l,hll,hr⟩ := aCI n each
 refine ⟨⟨l,hll⟩,fun y hy => ?_,aGV l cs (by omega) fun i x v h1 h2 => (hr i x h1).2 v h2⟩
 obtain ⟨i,hi,rfl⟩ := List.mem_iff_getElem.1 hy
 exact (hr i _ (List.getElem?_eq_getElem hi)).1
theorem aM6 {n : Nat} {k : IntKind} (ht : P.underlying t = some (.array n e)) (he : P.underlying e = some (.int k)) (h1 : P.cellsOf e = 1) (hn : P.cellsOf t = n) :
  yZ P t (fun x : List Int => x.length = n ∧ ∀ y ∈ x,(Lit.int k y).wf = true) (fun x => x.map (eI k)) := by
 intro H enc w spare held fuel cs x h
 obtain ⟨a,hq,hc⟩ := aKA ht he h1 hn h
 exact ⟨a.1,⟨a.2,hq⟩,hc⟩
theorem aF7 {w : World} : ∀ {A B : List V} {us bs : List Value},VCells uT [] w A us → VCells uT [] w B bs → VCells uT [] w (A ++ B) (us ++ bs)
 | [],B,us,bs,h,k => by
  unfold VCells at h
  subst h
  exact k
 | a :: A,B,us,bs,h,k => by
  unfold VCells at h
  obtain ⟨v,rest,rfl,h1,h2⟩ := h
  exact lZ h1 (aF7 h2 k)
theorem mJ {w : World} {A B : List V} {cs : List Value} {o n : Nat} (h : VCells uT [] w A ((cs.drop o).take n)) (k : VCells uT [] w B (cs.drop (o + n))) : VCells uT [] w (A ++ B) (cs.drop o) := by
 have e : cs.drop o = (cs.drop o).take n ++ cs.drop (o + n) := by rw [← List.drop_drop,List.take_append_drop]
 rw [e]
 exact aF7 h k
theorem aBr {w : World} {cs : List Value} {n : Nat} (h : cs.length = n) : VCells uT [] w [] (cs.drop n) := by
 rw [List.drop_eq_nil_of_le (by omega)]; exact sD
end
end Go.Vm
namespace Go.Proofs.YtnoklhehodlkaaaGreatDoor
open Go Go.Vm
open Go.ChangeShapes Go.WideShapes Go.ChangeAt Go.RowKit
def aCO (x : aQ) : Prop := (x.Tx.length = 32 ∧ ∀ z0 ∈ x.Tx,(Lit.int .u8 z0).wf = true) ∧ ((Lit.int .u32 x.Index).wf = true)
set_option maxRecDepth 100000 in
theorem aEH : yZ Tryz.prog 66 aCO fI := by
 intro H enc w spare held fuel cs x h
 obtain ⟨xs,n,_,_,hl,hlen,hf⟩ := DataW.trod_struct Tryz.underlying66 h
 rw [show Tryz.prog.cellsOf 66 = 33 by kernel_rfl] at hl
 match xs,hlen,hf with
 | [y0,y1],_,hf =>
  have h0 : DataW.trod enc Tryz.prog w 0 spare held n 24 ((cs.drop 0).take (Tryz.prog.cellsOf 24)) = some y0 := hf 0 _ rfl
  obtain ⟨a0,q0,c0⟩ := (aM6 Tryz.underlying24 Tryz.underlying5 (by kernel_rfl) (by kernel_rfl)) h0
  rw [show Tryz.prog.cellsOf 24 = 32 by kernel_rfl] at c0
  have h1 : DataW.trod enc Tryz.prog w 0 spare held n 47 ((cs.drop 32).take (Tryz.prog.cellsOf 47)) = some y1 := hf 1 _ rfl
  obtain ⟨a1,q1,c1⟩ := (nR Tryz.underlying47) h1
  rw [show Tryz.prog.cellsOf 47 = 1 by kernel_rfl] at c1
  refine ⟨⟨a0,a1⟩,⟨q0,q1⟩, ?_⟩
  have c := (mJ (o := 0) c0 (mJ (o := 32) c1 (aBr hl)))
  simp only [fI,aI8 q0.1]
  exact c
def aFm (x : aF) : Prop := (aCO x.Prev) ∧ ((Lit.int .u32 x.Sequence).wf = true) ∧ (∀ z0 ∈ x.Witness,∀ z1 ∈ z0,(Lit.int .u8 z1).wf = true)
set_option maxRecDepth 100000 in
theorem aF2 : yZ Tryz.prog 90 aFm aV := by
 intro H enc w spare held fuel cs x h
 obtain ⟨xs,n,_,_,hl,hlen,hf⟩ := DataW.trod_struct Tryz.underlying90 h
 rw [show Tryz.prog.cellsOf 90 = 35 by kernel_rfl] at hl
 match xs,hlen,hf with
 | [y0,y1,y2],_,hf =>
  have h0 : DataW.trod enc Tryz.prog w 0 spare held n 66 ((cs.drop 0).take (Tryz.prog.cellsOf 66)) = some y0 := hf 0 _ rfl
  obtain ⟨a0,q0,c0⟩ := aEH h0
  rw [show Tryz.prog.cellsOf 66 = 33 by kernel_rfl] at c0
  have h1 : DataW.trod enc Tryz.prog w 0 spare held n 47 ((cs.drop 33).take (Tryz.prog.cellsOf 47)) = some y1 := hf 1 _ rfl
  obtain ⟨a1,q1,c1⟩ := (nR Tryz.underlying47) h1
  rw [show Tryz.prog.cellsOf 47 = 1 by kernel_rfl] at c1
  have h2 : DataW.trod enc Tryz.prog w 0 spare held n 28 ((cs.drop 34).take (Tryz.prog.cellsOf 28)) = some y2 := hf 2 _ rfl
  obtain ⟨a2,q2,c2⟩ := (tF Tryz.underlying28 (tF Tryz.underlying22 (nR Tryz.underlying5) (by kernel_rfl) (by decide) (aDO (E := (eI .u8)) fun _ => rfl)) (by kernel_rfl) (by decide) (aDO (E := (eL 1 (eI .u8))) fun _ => rfl)) h2
  rw [show Tryz.prog.cellsOf 28 = 1 by kernel_rfl] at c2
  refine ⟨⟨a0,a1,a2⟩,⟨q0,q1,q2⟩, ?_⟩
  have c := (mJ (o := 0) c0 (mJ (o := 33) c1 (mJ (o := 34) c2 (aBr hl))))
  exact c
def aEF (x : aE) : Prop := ((Lit.int .i64 x.Value).wf = true) ∧ (∀ z0 ∈ x.Script,(Lit.int .u8 z0).wf = true)
set_option maxRecDepth 100000 in
theorem aFG : yZ Tryz.prog 57 aEF dY := by
 intro H enc w spare held fuel cs x h
 obtain ⟨xs,n,_,_,hl,hlen,hf⟩ := DataW.trod_struct Tryz.underlying57 h
 rw [show Tryz.prog.cellsOf 57 = 2 by kernel_rfl] at hl
 match xs,hlen,hf with
 | [y0,y1],_,hf =>
  have h0 : DataW.trod enc Tryz.prog w 0 spare held n 2 ((cs.drop 0).take (Tryz.prog.cellsOf 2)) = some y0 := hf 0 _ rfl
  obtain ⟨a0,q0,c0⟩ := (nR Tryz.underlying2) h0
  rw [show Tryz.prog.cellsOf 2 = 1 by kernel_rfl] at c0
  have h1 : DataW.trod enc Tryz.prog w 0 spare held n 22 ((cs.drop 1).take (Tryz.prog.cellsOf 22)) = some y1 := hf 1 _ rfl
  obtain ⟨a1,q1,c1⟩ := (tF Tryz.underlying22 (nR Tryz.underlying5) (by kernel_rfl) (by decide) (aDO (E := (eI .u8)) fun _ => rfl)) h1
  rw [show Tryz.prog.cellsOf 22 = 1 by kernel_rfl] at c1
  refine ⟨⟨a0,a1⟩,⟨q0,q1⟩, ?_⟩
  have c := (mJ (o := 0) c0 (mJ (o := 1) c1 (aBr hl)))
  exact c
structure aDE where
 Version : Int
 Inputs : List aF
 Outputs : List aE
 Lock : Int
abbrev aAo (x : aDE) : List V := [(eI .u32 x.Version),(.row none 35 (x.Inputs.map aS)),(.row none 2 (x.Outputs.map aM)),(eI .u32 x.Lock)]
@[simp] theorem aRz {f : Nat → Nat} (l : List aDE) : V.rns f (l.flatMap aAo) = l.flatMap aAo := gL (fun _ => rfl) l
@[simp] theorem aRt {f : Nat → Nat} (x : aDE) : V.rns f (aAo x) = aAo x := rfl
def aN5 (x : aDE) : Prop := ((Lit.int .u32 x.Version).wf = true) ∧ (∀ z0 ∈ x.Inputs,aFm z0) ∧ (∀ z0 ∈ x.Outputs,aEF z0) ∧ ((Lit.int .u32 x.Lock).wf = true)
set_option maxRecDepth 100000 in
theorem aJQ : yZ Tryz.prog 54 aN5 aAo := by
 intro H enc w spare held fuel cs x h
 obtain ⟨xs,n,_,_,hl,hlen,hf⟩ := DataW.trod_struct Tryz.underlying54 h
 rw [show Tryz.prog.cellsOf 54 = 4 by kernel_rfl] at hl
 match xs,hlen,hf with
 | [y0,y1,y2,y3],_,hf =>
  have h0 : DataW.trod enc Tryz.prog w 0 spare held n 47 ((cs.drop 0).take (Tryz.prog.cellsOf 47)) = some y0 := hf 0 _ rfl
  obtain ⟨a0,q0,c0⟩ := (nR Tryz.underlying47) h0
  rw [show Tryz.prog.cellsOf 47 = 1 by kernel_rfl] at c0
  have h1 : DataW.trod enc Tryz.prog w 0 spare held n 51 ((cs.drop 1).take (Tryz.prog.cellsOf 51)) = some y1 := hf 1 _ rfl
  obtain ⟨a1,q1,c1⟩ := (tF Tryz.underlying51 aF2 (by kernel_rfl) (by decide) (aKf (K := 35) (C := aV) (fun _ => rfl) (fun _ => rfl))) h1
  rw [show Tryz.prog.cellsOf 51 = 1 by kernel_rfl] at c1
  have h2 : DataW.trod enc Tryz.prog w 0 spare held n 52 ((cs.drop 2).take (Tryz.prog.cellsOf 52)) = some y2 := hf 2 _ rfl
  obtain ⟨a2,q2,c2⟩ := (tF Tryz.underlying52 aFG (by kernel_rfl) (by decide) (aKf (K := 2) (C := dY) (fun _ => rfl) (fun _ => rfl))) h2
  rw [show Tryz.prog.cellsOf 52 = 1 by kernel_rfl] at c2
  have h3 : DataW.trod enc Tryz.prog w 0 spare held n 47 ((cs.drop 3).take (Tryz.prog.cellsOf 47)) = some y3 := hf 3 _ rfl
  obtain ⟨a3,q3,c3⟩ := (nR Tryz.underlying47) h3
  rw [show Tryz.prog.cellsOf 47 = 1 by kernel_rfl] at c3
  refine ⟨⟨a0,a1,a2,a3⟩,⟨q0,q1,q2,q3⟩, ?_⟩
  have c := (mJ (o := 0) c0 (mJ (o := 1) c1 (mJ (o := 2) c2 (mJ (o := 3) c3 (aBr hl)))))
  exact c
end Go.Proofs.YtnoklhehodlkaaaGreatDoor
namespace Go.Vm
open Go
def iN (l : List Nat) : List Int := l.map fun (x : Nat) => (x : Int)
theorem aGJ (l : List Nat) : (iN l).length = l.length := by simp [iN]
theorem aMV {d : List Int} (h : Byt d) : iN (d.map Int.toNat) = d ∧ ∀ x ∈ d.map Int.toNat,x < 256 := by
 constructor
 ·simp only [iN,List.map_map]
  conv => rhs; rw [← List.map_id d]
  refine List.map_congr_left fun x hx => ?_
  have := h x hx
  simp only [Function.comp,id]; omega
 ·intro x hx
  simp only [List.mem_map] at hx
  obtain ⟨y,hy,rfl⟩ := hx
  have := h y hy
  omega
theorem aKR {d : List Int} (h : Byt d) : ∃ l : List Nat,d = iN l ∧ ∀ x ∈ l,x < 256 := ⟨_,(aMV h).1.symm,(aMV h).2⟩
theorem i1 {j : Nat} (hj : j ≤ 100000) : IntKind.i64.wrap ((j : Int) + 1) = ((j + 1 : Nat) : Int) := by rw [cG (by omega) (by omega)]; simp
theorem dT {j n : Nat} (h : j < n) : decide ((j : Int) < (n : Int)) = true := by simpa using h
theorem dF {j n : Nat} (h : ¬ j < n) : decide ((j : Int) < (n : Int)) = false := by simp; omega
theorem lP : 100000000 ≤ mZ := by decide
theorem j7 {l m : List Int} (h : l.length + m.length ≤ 100000000) : app 1 l m = some (l ++ m) := by
 have := lP
 exact aAQ (by omega)
theorem uJ {α : Type} {f : Nat → Int → List Int → Option (List Int)} {xs : List α} {g : α → List Int} {B : Nat} (hn : xs.length ≤ 100000)
  (hs : ∀ m j acc (hj : j < xs.length),acc.length + (g xs[j]).length ≤ B → f (m + 1) (j : Int) acc = f m ((j + 1 : Nat) : Int) (acc ++ g xs[j])) (he : ∀ m j acc,xs.length ≤ j → f (m + 1) (j : Int) acc = some acc) :
  ∀ (m j : Nat) (acc : List Int),xs.length - j < m → j ≤ xs.length → acc.length + ((xs.drop j).flatMap g).length ≤ B → f m (j : Int) acc = some (acc ++ (xs.drop j).flatMap g)
 | 0,j,acc,hm,_,_ => by omega
 | m + 1,j,acc,hm,hj,hB => by
  by_cases h : j < xs.length
  ·rw [List.drop_eq_getElem_cons h,List.flatMap_cons,List.length_append] at hB
   rw [hs m j acc h (by omega),uJ hn hs he m (j + 1) _ (by omega) (by omega) (by rw [List.length_append]; omega),List.drop_eq_getElem_cons h,List.flatMap_cons,List.append_assoc]
  ·rw [he m j acc (by omega),List.drop_eq_nil_of_le (by omega)]; simp
theorem n8 {α R : Type} {f : Nat → Int → Option (LR Unit R)} {xs : List α} {p : α → Bool} {r : R}
  (hs : ∀ m j (hj : j < xs.length),f (m + 1) (j : Int) = if p xs[j] = true then f m ((j + 1 : Nat) : Int) else some (.ret r)) (he : ∀ m j,xs.length ≤ j → f (m + 1) (j : Int) = some (.brk ())) :
  ∀ (m j : Nat),xs.length - j < m → j ≤ xs.length → f m (j : Int) = some (if (xs.drop j).all p = true then .brk () else .ret r)
 | 0,j,hm,_ => by omega
 | m + 1,j,hm,hj => by
  by_cases h : j < xs.length
  ·rw [hs m j h,n8 hs he m (j + 1) (by omega) (by omega),List.drop_eq_getElem_cons h,List.all_cons]
   cases p xs[j] <;> simp
  ·rw [he m j (by omega),List.drop_eq_nil_of_le (by omega)]; simp
theorem aH1 {R : Type} {f : Nat → Int → Option (LR Unit R)} {n : Nat} {p : Nat → Bool} {r : R}
  (hs : ∀ m j,j < n → f (m + 1) (j : Int) = if p j = true then f m ((j + 1 : Nat) : Int) else some (.ret r)) (he : ∀ m j,n ≤ j → f (m + 1) (j : Int) = some (.brk ())) :
  ∀ (m j : Nat),n - j < m → j ≤ n → f m (j : Int) = some (if (List.range' j (n - j)).all p = true then .brk () else .ret r)
 | 0,j,hm,_ => by omega
 | m + 1,j,hm,hj => by
  by_cases h : j < n
  ·rw [hs m j h,aH1 hs he m (j + 1) (by omega) (by omega),show n - j = (n - (j + 1)) + 1 by omega,List.range'_succ,List.all_cons]
   cases p j
   ·rfl
   ·simp only [Bool.true_and,if_true]
  ·rw [he m j (by omega),show n - j = 0 by omega]; simp
theorem aIp {α σ : Type} {f : Nat → σ → Int → Option σ} {xs : List α} {g : σ → α → σ}
  (hs : ∀ m s j (hj : j < xs.length),f (m + 1) s (j : Int) = f m (g s xs[j]) ((j + 1 : Nat) : Int)) (he : ∀ m s j,xs.length ≤ j → f (m + 1) s (j : Int) = some s) :
  ∀ (m : Nat) (s : σ) (j : Nat),xs.length - j < m → j ≤ xs.length → f m s (j : Int) = some ((xs.drop j).foldl g s)
 | 0,s,j,hm,_ => by omega
 | m + 1,s,j,hm,hj => by
  by_cases h : j < xs.length
  ·rw [hs m s j h,aIp hs he m _ (j + 1) (by omega) (by omega),List.drop_eq_getElem_cons h,List.foldl_cons]
  ·rw [he m s j (by omega),List.drop_eq_nil_of_le (by omega)]; rfl
end Go.Vm
set_option linter.unusedSectionVars false
namespace Go.Proofs.YtnoklhehodlkaaaGreatDoor
open Go Go.Vm
def w4 (a b c d : Nat) : List Int := [(a : Int),(b : Int),(c : Int),(d : Int)]
def vl (a b c d : Nat) : Nat := a + 18446744073709551616 * b + 340282366920938463463374607431768211456 * c + 6277101735386680763835789423207666416102355444464034512896 * d
def U (n : Nat) : List Int := w4 (n % 18446744073709551616) (n / 18446744073709551616 % 18446744073709551616) (n / 340282366920938463463374607431768211456 % 18446744073709551616) (n / 6277101735386680763835789423207666416102355444464034512896 % 18446744073709551616)
theorem aR4 (n : Nat) : (U n).length = 4 := rfl
theorem aFN {a b c d : Nat} (ha : a < 18446744073709551616) (hb : b < 18446744073709551616) (hc : c < 18446744073709551616) (hd : d < 18446744073709551616) : w4 a b c d = U (vl a b c d) := by
 unfold U vl
 have h0 : (a + 18446744073709551616 * b + 340282366920938463463374607431768211456 * c + 6277101735386680763835789423207666416102355444464034512896 * d) % 18446744073709551616 = a := by omega
 have h1 : (a + 18446744073709551616 * b + 340282366920938463463374607431768211456 * c + 6277101735386680763835789423207666416102355444464034512896 * d) / 18446744073709551616 % 18446744073709551616 = b := by omega
 have h2 : (a + 18446744073709551616 * b + 340282366920938463463374607431768211456 * c + 6277101735386680763835789423207666416102355444464034512896 * d) / 340282366920938463463374607431768211456 % 18446744073709551616 = c := by omega
 have h3 : (a + 18446744073709551616 * b + 340282366920938463463374607431768211456 * c + 6277101735386680763835789423207666416102355444464034512896 * d) / 6277101735386680763835789423207666416102355444464034512896 % 18446744073709551616 = d := by omega
 rw [h0,h1,h2,h3]
theorem yI {n : Nat} (h : n < 115792089237316195423570985008687907853269984665640564039457584007913129639936) : ∃ a b c d,a < 18446744073709551616 ∧ b < 18446744073709551616 ∧ c < 18446744073709551616 ∧ d < 18446744073709551616 ∧ U n = w4 a b c d ∧ n = vl a b c d := by
 refine ⟨n % 18446744073709551616,n / 18446744073709551616 % 18446744073709551616,n / 340282366920938463463374607431768211456 % 18446744073709551616,n / 6277101735386680763835789423207666416102355444464034512896 % 18446744073709551616,by omega,by omega,by omega,by omega,rfl, ?_⟩
 unfold vl
 omega
theorem aEZ {a b c d : Nat} (ha : a < 18446744073709551616) (hb : b < 18446744073709551616) (hc : c < 18446744073709551616) (hd : d < 18446744073709551616) : vl a b c d < 115792089237316195423570985008687907853269984665640564039457584007913129639936 := by unfold vl; omega
def Wd (l : List Int) : Prop := l.length = 4 ∧ ∀ x ∈ l,0 ≤ x ∧ x < 18446744073709551616
theorem Wd.ex {l : List Int} (h : Wd l) : ∃ n,n < 115792089237316195423570985008687907853269984665640564039457584007913129639936 ∧ l = U n := by
 obtain ⟨hl,hx⟩ := h
 match l,hl,hx with
 | [a,b,c,d],_,hx =>
  have ha := hx a (by simp)
  have hb := hx b (by simp)
  have hc := hx c (by simp)
  have hd := hx d (by simp)
  refine ⟨vl a.toNat b.toNat c.toNat d.toNat,aEZ (by omega) (by omega) (by omega) (by omega), ?_⟩
  rw [← aFN (by omega) (by omega) (by omega) (by omega)]
  unfold w4
  rw [Int.toNat_of_nonneg ha.1,Int.toNat_of_nonneg hb.1,Int.toNat_of_nonneg hc.1,Int.toNat_of_nonneg hd.1]
theorem aRT {a b : Nat} (ha : a < 115792089237316195423570985008687907853269984665640564039457584007913129639936) (hb : b < 115792089237316195423570985008687907853269984665640564039457584007913129639936) (h : U a = U b) : a = b := by
 simp only [U,w4,List.cons.injEq,and_true] at h
 omega
theorem aCi {a b : Nat} (ha : a < 115792089237316195423570985008687907853269984665640564039457584007913129639936) (hb : b < 115792089237316195423570985008687907853269984665640564039457584007913129639936) : (U a == U b) = decide (a = b) := by
 by_cases h : a = b
 ·subst h; simp
 ·rw [decide_eq_false h]
  apply beq_eq_false_iff_ne.2
  exact fun e => h (aRT ha hb e)
theorem wF : U 0 = [0,0,0,0] := rfl
theorem a40 (a b c d : Nat) : bJ 4 (w4 a b c d) 0 = some (a : Int) := rfl
theorem a41 (a b c d : Nat) : bJ 4 (w4 a b c d) 1 = some (b : Int) := rfl
theorem a42 (a b c d : Nat) : bJ 4 (w4 a b c d) 2 = some (c : Int) := rfl
theorem a43 (a b c d : Nat) : bJ 4 (w4 a b c d) 3 = some (d : Int) := rfl
theorem bI (n : Nat) : aX 4 (U n) = some (U n) := rfl
theorem q40 (a b c d : Int) : bJ 4 [a,b,c,d] 0 = some a := rfl
theorem q41 (a b c d : Int) : bJ 4 [a,b,c,d] 1 = some b := rfl
theorem q42 (a b c d : Int) : bJ 4 [a,b,c,d] 2 = some c := rfl
theorem q43 (a b c d : Int) : bJ 4 [a,b,c,d] 3 = some d := rfl
theorem t40 (a b c d x : Int) : [a,b,c,d].set (Int.toNat 0) x = [x,b,c,d] := rfl
theorem t41 (a b c d x : Int) : [a,b,c,d].set (Int.toNat 1) x = [a,x,c,d] := rfl
theorem t42 (a b c d x : Int) : [a,b,c,d].set (Int.toNat 2) x = [a,b,x,d] := rfl
theorem t43 (a b c d x : Int) : [a,b,c,d].set (Int.toNat 3) x = [a,b,c,x] := rfl
theorem r40 : List.replicate 4 (0 : Int) = [0,0,0,0] := rfl
theorem aQT (a b c d : Nat) : w4 a b c d = [(a : Int),(b : Int),(c : Int),(d : Int)] := rfl
theorem d04 : decide ((0 : Int) < 4) = true := rfl
theorem d14 : decide ((1 : Int) < 4) = true := rfl
theorem d24 : decide ((2 : Int) < 4) = true := rfl
theorem d34 : decide ((3 : Int) < 4) = true := rfl
theorem d44 : decide ((4 : Int) < 4) = false := rfl
theorem i01 : IntKind.i64.wrap (0 + 1) = 1 := by decide +kernel
theorem i12 : IntKind.i64.wrap (1 + 1) = 2 := by decide +kernel
theorem i23 : IntKind.i64.wrap (2 + 1) = 3 := by decide +kernel
theorem i34 : IntKind.i64.wrap (3 + 1) = 4 := by decide +kernel
theorem i32 : IntKind.i64.wrap (3 - 1) = 2 := by decide +kernel
theorem i21 : IntKind.i64.wrap (2 - 1) = 1 := by decide +kernel
theorem i10 : IntKind.i64.wrap (1 - 1) = 0 := by decide +kernel
theorem i0m : IntKind.i64.wrap (0 - 1) = -1 := by decide +kernel
theorem tP {α : Type} (f : Nat → α) {N : Nat} (h : 70000 ≤ N) : ∃ m,f N = f (m + 1 + 1 + 1 + 1 + 1) := ⟨N - 5,by congr 1; omega⟩
theorem qU {x y c : Nat} (hx : x < 18446744073709551616) (hy : y < 18446744073709551616) (hc : c ≤ 1) : ∃ s k : Nat,q8 (x : Int) (y : Int) (c : Int) = some ((s : Int),(k : Int)) ∧ x + y + c = s + 18446744073709551616 * k ∧ s < 18446744073709551616 ∧ k ≤ 1 := by
 refine ⟨(x + y + c) % 18446744073709551616,(x + y + c) / 18446744073709551616, ?_,by omega,by omega,by omega⟩
 unfold q8
 simp only [Int.toNat_natCast]
 rw [if_pos hc]
theorem uZ {x y c : Nat} (hx : x < 18446744073709551616) (hy : y < 18446744073709551616) (hc : c ≤ 1) : ∃ s k : Nat,aDm (x : Int) (y : Int) (c : Int) = some ((s : Int),(k : Int)) ∧ x + 18446744073709551616 * k = y + c + s ∧ s < 18446744073709551616 ∧ k ≤ 1 := by
 refine ⟨(x + 18446744073709551616 - y - c) % 18446744073709551616,if x < y + c then 1 else 0, ?_, ?_,by omega, ?_⟩
 ·unfold aDm
  simp only [Int.toNat_natCast]
  rw [if_pos hc]
 ·split <;> omega
 ·split <;> omega
theorem aRr {N : Nat} (hN : 70000 ≤ N) {a0 a1 a2 a3 b0 b1 b2 b3 : Nat} (ha0 : a0 < 18446744073709551616) (ha1 : a1 < 18446744073709551616) (ha2 : a2 < 18446744073709551616) (ha3 : a3 < 18446744073709551616) (hb0 : b0 < 18446744073709551616) (hb1 : b1 < 18446744073709551616) (hb2 : b2 < 18446744073709551616) (hb3 : b3 < 18446744073709551616) :
  ∃ s0 s1 s2 s3 k : Nat,uO N (w4 a0 a1 a2 a3) (w4 b0 b1 b2 b3) = some (w4 s0 s1 s2 s3,((k : Int) != 0)) ∧ vl a0 a1 a2 a3 + vl b0 b1 b2 b3 = vl s0 s1 s2 s3 + 115792089237316195423570985008687907853269984665640564039457584007913129639936 * k ∧ s0 < 18446744073709551616 ∧ s1 < 18446744073709551616 ∧ s2 < 18446744073709551616 ∧ s3 < 18446744073709551616 ∧ k ≤ 1 := by
 obtain ⟨s0,k0,e0,f0,g0,l0⟩ := qU ha0 hb0 (Nat.zero_le 1)
 obtain ⟨s1,k1,e1,f1,g1,l1⟩ := qU ha1 hb1 l0
 obtain ⟨s2,k2,e2,f2,g2,l2⟩ := qU ha2 hb2 l1
 obtain ⟨s3,k3,e3,f3,g3,l3⟩ := qU ha3 hb3 l2
 refine ⟨s0,s1,s2,s3,k3, ?_,by unfold vl; omega,g0,g1,g2,g3,l3⟩
 obtain ⟨m,hm⟩ := tP (fun q => jB N (w4 a0 a1 a2 a3) (w4 b0 b1 b2 b3) q 0 0 (List.replicate 4 0)) hN
 unfold uO
 rw [hm]
 have e0' : q8 (a0 : Int) (b0 : Int) 0 = some ((s0 : Int),(k0 : Int)) := e0
 simp only [jB,dB,a40,a41,a42,a43,q40,q41,q42,q43,t40,t41,t42,t43,r40,i01,i12,i23,i34,d04,d14,d24,d34,d44,if_true,Bool.false_eq_true,if_false,Option.bind_some,e0',e1,e2,e3,wH]
 rfl
theorem aOR {N : Nat} (hN : 70000 ≤ N) {a b : Nat} (ha : a < 115792089237316195423570985008687907853269984665640564039457584007913129639936) (hb : b < 115792089237316195423570985008687907853269984665640564039457584007913129639936) : uO N (U a) (U b) = some (U ((a + b) % 115792089237316195423570985008687907853269984665640564039457584007913129639936),decide (115792089237316195423570985008687907853269984665640564039457584007913129639936 ≤ a + b)) := by
 obtain ⟨a0,a1,a2,a3,x0,x1,x2,x3,ea,va⟩ := yI ha
 obtain ⟨b0,b1,b2,b3,y0,y1,y2,y3,eb,vb⟩ := yI hb
 obtain ⟨s0,s1,s2,s3,k,h1,h2,z0,z1,z2,z3,hk⟩ := aRr hN x0 x1 x2 x3 y0 y1 y2 y3
 have hv := aEZ z0 z1 z2 z3
 rw [ea,eb,h1,aFN z0 z1 z2 z3,show (a + b) % 115792089237316195423570985008687907853269984665640564039457584007913129639936 = vl s0 s1 s2 s3 by omega]
 congr 2
 by_cases h : 115792089237316195423570985008687907853269984665640564039457584007913129639936 ≤ a + b
 ·rw [decide_eq_true h,show k = 1 by omega]; rfl
 ·rw [decide_eq_false h,show k = 0 by omega]; rfl
theorem aRF {N : Nat} (hN : 70000 ≤ N) {a0 a1 a2 a3 b0 b1 b2 b3 : Nat} (ha0 : a0 < 18446744073709551616) (ha1 : a1 < 18446744073709551616) (ha2 : a2 < 18446744073709551616) (ha3 : a3 < 18446744073709551616) (hb0 : b0 < 18446744073709551616) (hb1 : b1 < 18446744073709551616) (hb2 : b2 < 18446744073709551616) (hb3 : b3 < 18446744073709551616) :
  ∃ s0 s1 s2 s3 k : Nat,qS N (w4 a0 a1 a2 a3) (w4 b0 b1 b2 b3) = some (w4 s0 s1 s2 s3,((k : Int) != 0)) ∧ vl a0 a1 a2 a3 + 115792089237316195423570985008687907853269984665640564039457584007913129639936 * k = vl b0 b1 b2 b3 + vl s0 s1 s2 s3 ∧ s0 < 18446744073709551616 ∧ s1 < 18446744073709551616 ∧ s2 < 18446744073709551616 ∧ s3 < 18446744073709551616 ∧ k ≤ 1 := by
 obtain ⟨s0,k0,e0,f0,g0,l0⟩ := uZ ha0 hb0 (Nat.zero_le 1)
 obtain ⟨s1,k1,e1,f1,g1,l1⟩ := uZ ha1 hb1 l0
 obtain ⟨s2,k2,e2,f2,g2,l2⟩ := uZ ha2 hb2 l1
 obtain ⟨s3,k3,e3,f3,g3,l3⟩ := uZ ha3 hb3 l2
 refine ⟨s0,s1,s2,s3,k3, ?_,by unfold vl; omega,g0,g1,g2,g3,l3⟩
 obtain ⟨m,hm⟩ := tP (fun q => jF N (w4 a0 a1 a2 a3) (w4 b0 b1 b2 b3) q 0 0 (List.replicate 4 0)) hN
 unfold qS
 rw [hm]
 have e0' : aDm (a0 : Int) (b0 : Int) 0 = some ((s0 : Int),(k0 : Int)) := e0
 simp only [jF,qA,a40,a41,a42,a43,q40,q41,q42,q43,t40,t41,t42,t43,r40,i01,i12,i23,i34,d04,d14,d24,d34,d44,if_true,Bool.false_eq_true,if_false,Option.bind_some,e0',e1,e2,e3,v9]
 rfl
theorem aE6 {N : Nat} (hN : 70000 ≤ N) {a b : Nat} (ha : a < 115792089237316195423570985008687907853269984665640564039457584007913129639936) (hb : b < 115792089237316195423570985008687907853269984665640564039457584007913129639936) : qS N (U a) (U b) = some (U ((a + 115792089237316195423570985008687907853269984665640564039457584007913129639936 - b) % 115792089237316195423570985008687907853269984665640564039457584007913129639936),decide (a < b)) := by
 obtain ⟨a0,a1,a2,a3,x0,x1,x2,x3,ea,va⟩ := yI ha
 obtain ⟨b0,b1,b2,b3,y0,y1,y2,y3,eb,vb⟩ := yI hb
 obtain ⟨s0,s1,s2,s3,k,h1,h2,z0,z1,z2,z3,hk⟩ := aRF hN x0 x1 x2 x3 y0 y1 y2 y3
 have hv := aEZ z0 z1 z2 z3
 rw [ea,eb,h1,aFN z0 z1 z2 z3,show (a + 115792089237316195423570985008687907853269984665640564039457584007913129639936 - b) % 115792089237316195423570985008687907853269984665640564039457584007913129639936 = vl s0 s1 s2 s3 by omega]
 congr 2
 by_cases h : a < b
 ·rw [decide_eq_true h,show k = 1 by omega]; rfl
 ·rw [decide_eq_false h,show k = 0 by omega]; rfl
theorem y9 {N : Nat} (hN : 70000 ≤ N) {a b : Nat} (ha : a < 115792089237316195423570985008687907853269984665640564039457584007913129639936) (hb : b < 115792089237316195423570985008687907853269984665640564039457584007913129639936) : nC N (U a) (U b) = some (if a < b then -1 else if b < a then 1 else 0) := by
 obtain ⟨a0,a1,a2,a3,x0,x1,x2,x3,ea,va⟩ := yI ha
 obtain ⟨b0,b1,b2,b3,y0,y1,y2,y3,eb,vb⟩ := yI hb
 rw [ea,eb]
 obtain ⟨m,hm⟩ := tP (fun q => lY N (w4 a0 a1 a2 a3) (w4 b0 b1 b2 b3) q 3) hN
 unfold nC
 rw [hm]
 unfold vl at va vb
 simp only [lY,a40,a41,a42,a43,i32,i21,i10,i0m,show decide ((0 : Int) ≤ 3) = true from rfl,show decide ((0 : Int) ≤ 2) = true from rfl,show decide ((0 : Int) ≤ 1) = true from rfl,show decide ((0 : Int) ≤ 0) = true from rfl,show decide ((0 : Int) ≤ -1) = false from rfl,if_true,Bool.false_eq_true,if_false,Option.bind_some,aAA,decide_eq_true_eq,Int.ofNat_lt]
 by_cases c3 : a3 < b3
 ·rw [if_pos c3,if_pos (by omega)]; rfl
 ·rw [if_neg c3]
  by_cases d3 : b3 < a3
  ·rw [if_pos d3,if_neg (by omega),if_pos (by omega)]; rfl
  ·rw [if_neg d3]
   by_cases c2 : a2 < b2
   ·rw [if_pos c2,if_pos (by omega)]; rfl
   ·rw [if_neg c2]
    by_cases d2 : b2 < a2
    ·rw [if_pos d2,if_neg (by omega),if_pos (by omega)]; rfl
    ·rw [if_neg d2]
     by_cases c1 : a1 < b1
     ·rw [if_pos c1,if_pos (by omega)]; rfl
     ·rw [if_neg c1]
      by_cases d1 : b1 < a1
      ·rw [if_pos d1,if_neg (by omega),if_pos (by omega)]; rfl
      ·rw [if_neg d1]
       by_cases c0 : a0 < b0
       ·rw [if_pos c0,if_pos (by omega)]; rfl
       ·rw [if_neg c0]
        by_cases d0 : b0 < a0
        ·rw [if_pos d0,if_neg (by omega),if_pos (by omega)]; rfl
        ·rw [if_neg d0,if_neg (by omega),if_neg (by omega)]; rfl
theorem aGQ {x l : Nat} (hx : x < 18446744073709551616) (hl : l ≤ 1) : ∃ y s k : Nat,shl .u64 (x : Int) 1 = some (y : Int) ∧ shr .u64 (x : Int) 63 = some (k : Int) ∧ bits .or .u64 (y : Int) (l : Int) = (s : Int) ∧ 2 * x + l = s + 18446744073709551616 * k ∧ s < 18446744073709551616 ∧ k ≤ 1 := by
 have h1 : x * 2 ^ 1 % 18446744073709551616 = (x % 9223372036854775808) * 2 ^ 1 := by omega
 refine ⟨x * 2 ^ 1 % 18446744073709551616,(x % 9223372036854775808) * 2 ^ 1 + l,x / 9223372036854775808,aC7 rfl x 1,aAl x 63 hx, ?_,by omega,by omega,by omega⟩
 rw [wE rfl _ _ (show x * 2 ^ 1 % 18446744073709551616 < 2 ^ 64 by omega) (show l < 2 ^ 64 by omega),h1]
 congr 1
 rw [Nat.mul_comm,← Nat.two_pow_add_eq_or_of_lt (show l < 2 ^ 1 by omega)]
theorem aOU {N : Nat} (hN : 70000 ≤ N) {a l : Nat} (ha : a < 115792089237316195423570985008687907853269984665640564039457584007913129639936) (hl : l ≤ 1) : ∃ k : Nat,qV N (U a) (l : Int) = some (U ((2 * a + l) % 115792089237316195423570985008687907853269984665640564039457584007913129639936),(k : Int)) ∧ k = (2 * a + l) / 115792089237316195423570985008687907853269984665640564039457584007913129639936 := by
 obtain ⟨a0,a1,a2,a3,x0,x1,x2,x3,ea,va⟩ := yI ha
 obtain ⟨y0,s0,k0,e0,f0,g0,h0,j0,l0⟩ := aGQ x0 hl
 obtain ⟨y1,s1,k1,e1,f1,g1,h1,j1,l1⟩ := aGQ x1 l0
 obtain ⟨y2,s2,k2,e2,f2,g2,h2,j2,l2⟩ := aGQ x2 l1
 obtain ⟨y3,s3,k3,e3,f3,g3,h3,j3,l3⟩ := aGQ x3 l2
 unfold vl at va
 have hv := aEZ j0 j1 j2 j3
 have hvv : 2 * a + l = vl s0 s1 s2 s3 + 115792089237316195423570985008687907853269984665640564039457584007913129639936 * k3 := by unfold vl; omega
 refine ⟨k3, ?_,by omega⟩
 rw [ea,show (2 * a + l) % 115792089237316195423570985008687907853269984665640564039457584007913129639936 = vl s0 s1 s2 s3 by omega,← aFN j0 j1 j2 j3]
 obtain ⟨m,hm⟩ := tP (fun q => lR N q (l : Int) 0 (w4 a0 a1 a2 a3)) hN
 unfold qV
 rw [hm]
 simp only [lR,aQT,q40,q41,q42,q43,t40,t41,t42,t43,i01,i12,i23,i34,d04,d14,d24,d34,d44,if_true,Bool.false_eq_true,if_false,Option.bind_some,e0,f0,g0,e1,f1,g1,e2,f2,g2,e3,f3,g3,vQ]
 rfl
theorem um {a b : Nat} (h : a * b < 18446744073709551616) : IntKind.u64.wrap ((a : Int) * (b : Int)) = ((a * b : Nat) : Int) := by rw [← Int.natCast_mul,wZ (by omega) (by omega)]
theorem up {a b : Nat} (h : a + b < 18446744073709551616) : IntKind.u64.wrap ((a : Int) + (b : Int)) = ((a + b : Nat) : Int) := by rw [← Int.natCast_add,wZ (by omega) (by omega)]
theorem aMd {x : Nat} (h : x < 18446744073709551616) : bits .and .u64 (x : Int) 4294967295 = ((x % 4294967296 : Nat) : Int) := by
 rw [show (4294967295 : Int) = ((4294967295 : Nat) : Int) from rfl,aEj (k := .u64) rfl x _ (show x < 2 ^ 64 from h) (by decide),show 4294967295 = 2 ^ 32 - 1 from rfl,Nat.and_two_pow_sub_one_eq_mod]
theorem aD8 {x : Nat} (h : x < 18446744073709551616) : shr .u64 (x : Int) 32 = some ((x / 4294967296 : Nat) : Int) := aAl x 32 h
theorem aNO {N x y : Nat} (hx : x < 18446744073709551616) (hy : y < 18446744073709551616) : ∃ h l : Nat,kH N (x : Int) (y : Int) = some ((h : Int),(l : Int)) ∧ x * y = l + 18446744073709551616 * h ∧ l < 18446744073709551616 ∧ h < 18446744073709551616 := by
 have x0 : x % 4294967296 ≤ 4294967295 := by omega
 have y0 : y % 4294967296 ≤ 4294967295 := by omega
 have x1 : x / 4294967296 ≤ 4294967295 := by omega
 have y1 : y / 4294967296 ≤ 4294967295 := by omega
 have ex : x = 4294967296 * (x / 4294967296) + x % 4294967296 := by omega
 have ey : y = 4294967296 * (y / 4294967296) + y % 4294967296 := by omega
 have lo : IntKind.u64.wrap ((x : Int) * (y : Int)) = ((x * y % 18446744073709551616 : Nat) : Int) := by rw [← Int.natCast_mul,IntKind.wrap_u64]; omega
 unfold kH
 rw [aMd hx,aMd hy,aD8 hx,aD8 hy,lo]
 simp only [Option.bind_some]
 generalize x / 4294967296 = u1 at *
 generalize x % 4294967296 = u0 at *
 generalize y / 4294967296 = v1 at *
 generalize y % 4294967296 = v0 at *
 have p00 := Nat.mul_le_mul x0 y0
 have p10 := Nat.mul_le_mul x1 y0
 have p01 := Nat.mul_le_mul x0 y1
 have p11 := Nat.mul_le_mul x1 y1
 have hxy : x * y = 18446744073709551616 * (u1 * v1) + 4294967296 * (u1 * v0) + 4294967296 * (u0 * v1) + u0 * v0 := by
  rw [ex,ey,Nat.add_mul,Nat.mul_add,Nat.mul_add,Nat.mul_mul_mul_comm,Nat.mul_assoc 4294967296 u1 v0,Nat.mul_left_comm u0 4294967296 v1]
  omega
 rw [um (a := u0) (b := v0) (by omega),um (a := u1) (b := v0) (by omega),um (a := u0) (b := v1) (by omega),um (a := u1) (b := v1) (by omega)]
 clear ex ey lo
 generalize u0 * v0 = q00 at *
 generalize u1 * v0 = q10 at *
 generalize u0 * v1 = q01 at *
 generalize u1 * v1 = q11 at *
 rw [aD8 (x := q00) (by omega)]
 simp only [Option.bind_some]
 rw [up (a := q10) (by omega),aD8 (x := q10 + q00 / 4294967296) (by omega),aMd (x := q10 + q00 / 4294967296) (by omega)]
 simp only [Option.bind_some]
 rw [up (a := (q10 + q00 / 4294967296) % 4294967296) (by omega),aD8 (x := (q10 + q00 / 4294967296) % 4294967296 + q01) (by omega)]
 simp only [Option.bind_some]
 rw [up (a := q11) (by omega),up (a := q11 + (q10 + q00 / 4294967296) / 4294967296) (by omega)]
 exact ⟨_,_,rfl,by omega,by omega,by omega⟩
theorem rD {N A b w c : Nat} (hA : A < 18446744073709551616) (hb : b < 18446744073709551616) (hw : w < 18446744073709551616) (hc : c < 18446744073709551616) : ∃ h l s k s' k' d : Nat,kH N (A : Int) (b : Int) = some ((h : Int),(l : Int)) ∧ q8 (l : Int) (w : Int) 0 = some ((s : Int),(k : Int)) ∧ q8 (s : Int) (c : Int) 0 = some ((s' : Int),(k' : Int)) ∧
  IntKind.u64.wrap (IntKind.u64.wrap ((h : Int) + (k : Int)) + (k' : Int)) = (d : Int) ∧ A * b + w + c = s' + 18446744073709551616 * d ∧ s' < 18446744073709551616 ∧ d < 18446744073709551616 := by
 obtain ⟨h,l,e1,f1,l1,h1⟩ := aNO (N := N) hA hb
 obtain ⟨s,k,e2,f2,l2,h2⟩ := qU l1 hw (Nat.zero_le 1)
 obtain ⟨s',k',e3,f3,l3,h3⟩ := qU l2 hc (Nat.zero_le 1)
 have hP := Nat.mul_le_mul (Nat.le_pred_of_lt hA) (Nat.le_pred_of_lt hb)
 simp only [Nat.pred_eq_sub_one,Nat.reduceSub,Nat.reduceMul] at hP
 have hd : h + k + k' < 18446744073709551616 := by omega
 refine ⟨h,l,s,k,s',k',h + k + k',e1,e2,e3, ?_,by omega,l3,hd⟩
 rw [up (by omega),up (by omega)]
theorem q80 (a b c d e f g h : Int) : bJ 8 [a,b,c,d,e,f,g,h] 0 = some a := rfl
theorem q81 (a b c d e f g h : Int) : bJ 8 [a,b,c,d,e,f,g,h] 1 = some b := rfl
theorem q82 (a b c d e f g h : Int) : bJ 8 [a,b,c,d,e,f,g,h] 2 = some c := rfl
theorem q83 (a b c d e f g h : Int) : bJ 8 [a,b,c,d,e,f,g,h] 3 = some d := rfl
theorem q84 (a b c d e f g h : Int) : bJ 8 [a,b,c,d,e,f,g,h] 4 = some e := rfl
theorem q85 (a b c d e f g h : Int) : bJ 8 [a,b,c,d,e,f,g,h] 5 = some f := rfl
theorem q86 (a b c d e f g h : Int) : bJ 8 [a,b,c,d,e,f,g,h] 6 = some g := rfl
theorem q87 (a b c d e f g h : Int) : bJ 8 [a,b,c,d,e,f,g,h] 7 = some h := rfl
theorem t80 (a b c d e f g h x : Int) : [a,b,c,d,e,f,g,h].set (Int.toNat 0) x = [x,b,c,d,e,f,g,h] := rfl
theorem t81 (a b c d e f g h x : Int) : [a,b,c,d,e,f,g,h].set (Int.toNat 1) x = [a,x,c,d,e,f,g,h] := rfl
theorem t82 (a b c d e f g h x : Int) : [a,b,c,d,e,f,g,h].set (Int.toNat 2) x = [a,b,x,d,e,f,g,h] := rfl
theorem t83 (a b c d e f g h x : Int) : [a,b,c,d,e,f,g,h].set (Int.toNat 3) x = [a,b,c,x,e,f,g,h] := rfl
theorem t84 (a b c d e f g h x : Int) : [a,b,c,d,e,f,g,h].set (Int.toNat 4) x = [a,b,c,d,x,f,g,h] := rfl
theorem t85 (a b c d e f g h x : Int) : [a,b,c,d,e,f,g,h].set (Int.toNat 5) x = [a,b,c,d,e,x,g,h] := rfl
theorem t86 (a b c d e f g h x : Int) : [a,b,c,d,e,f,g,h].set (Int.toNat 6) x = [a,b,c,d,e,f,x,h] := rfl
theorem t87 (a b c d e f g h x : Int) : [a,b,c,d,e,f,g,h].set (Int.toNat 7) x = [a,b,c,d,e,f,g,x] := rfl
theorem x00 : IntKind.i64.wrap (0 + 0) = 0 := by decide +kernel
theorem x01 : IntKind.i64.wrap (0 + 1) = 1 := by decide +kernel
theorem x02 : IntKind.i64.wrap (0 + 2) = 2 := by decide +kernel
theorem x03 : IntKind.i64.wrap (0 + 3) = 3 := by decide +kernel
theorem x04 : IntKind.i64.wrap (0 + 4) = 4 := by decide +kernel
theorem bV : IntKind.i64.wrap (1 + 0) = 1 := by decide +kernel
theorem b4 : IntKind.i64.wrap (1 + 1) = 2 := by decide +kernel
theorem eM : IntKind.i64.wrap (1 + 2) = 3 := by decide +kernel
theorem eD : IntKind.i64.wrap (1 + 3) = 4 := by decide +kernel
theorem bH : IntKind.i64.wrap (1 + 4) = 5 := by decide +kernel
theorem dX : IntKind.i64.wrap (2 + 0) = 2 := by decide +kernel
theorem dI : IntKind.i64.wrap (2 + 1) = 3 := by decide +kernel
theorem c5 : IntKind.i64.wrap (2 + 2) = 4 := by decide +kernel
theorem eN : IntKind.i64.wrap (2 + 3) = 5 := by decide +kernel
theorem fW : IntKind.i64.wrap (2 + 4) = 6 := by decide +kernel
theorem j4 : IntKind.i64.wrap (3 + 0) = 3 := by decide +kernel
theorem cM : IntKind.i64.wrap (3 + 1) = 4 := by decide +kernel
theorem kL : IntKind.i64.wrap (3 + 2) = 5 := by decide +kernel
theorem jU : IntKind.i64.wrap (3 + 3) = 6 := by decide +kernel
theorem dH : IntKind.i64.wrap (3 + 4) = 7 := by decide +kernel
theorem aSN {N : Nat} (hN : 70000 ≤ N) {va : List Int} {A b0 b1 b2 b3 w0 w1 w2 w3 w4' w5 w6 w7 : Nat} (hA : bJ 4 va 0 = some (A : Int)) (gA : A < 18446744073709551616) (g0 : b0 < 18446744073709551616) (g1 : b1 < 18446744073709551616) (g2 : b2 < 18446744073709551616) (g3 : b3 < 18446744073709551616) (h0 : w0 < 18446744073709551616) (h1 : w1 < 18446744073709551616) (h2 : w2 < 18446744073709551616) (h3 : w3 < 18446744073709551616) :
  ∃ s0 s1 s2 s3 c : Nat,cO N va (w4 b0 b1 b2 b3) 0 N 0 0 [(w0 : Int),(w1 : Int),(w2 : Int),(w3 : Int),(w4' : Int),(w5 : Int),(w6 : Int),(w7 : Int)] = some ((c : Int),[(s0 : Int),(s1 : Int),(s2 : Int),(s3 : Int),(w4' : Int),(w5 : Int),(w6 : Int),(w7 : Int)]) ∧ vl w0 w1 w2 w3 + (A * b0 + 18446744073709551616 * (A * b1) + 340282366920938463463374607431768211456 * (A * b2) + 6277101735386680763835789423207666416102355444464034512896 * (A * b3)) = vl s0 s1 s2 s3 + 115792089237316195423570985008687907853269984665640564039457584007913129639936 * c ∧ s0 < 18446744073709551616 ∧ s1 < 18446744073709551616 ∧ s2 < 18446744073709551616 ∧ s3 < 18446744073709551616 ∧ c < 18446744073709551616 := by
 obtain ⟨hh0,ll0,ss0,kk0,s0,jj0,c0,e0,f0,m0,n0,v0,y0,z0⟩ := rD (N := N) gA g0 h0 (show (0 : Nat) < 18446744073709551616 by omega)
 obtain ⟨hh1,ll1,ss1,kk1,s1,jj1,c1,e1,f1,m1,n1,v1,y1,z1⟩ := rD (N := N) gA g1 h1 z0
 obtain ⟨hh2,ll2,ss2,kk2,s2,jj2,c2,e2,f2,m2,n2,v2,y2,z2⟩ := rD (N := N) gA g2 h2 z1
 obtain ⟨hh3,ll3,ss3,kk3,s3,jj3,c3,e3,f3,m3,n3,v3,y3,z3⟩ := rD (N := N) gA g3 h3 z2
 refine ⟨s0,s1,s2,s3,c3, ?_,by unfold vl; omega,y0,y1,y2,y3,z3⟩
 obtain ⟨m,hm⟩ := tP (fun q => cO N va (w4 b0 b1 b2 b3) 0 q 0 0 [(w0 : Int),(w1 : Int),(w2 : Int),(w3 : Int),(w4' : Int),(w5 : Int),(w6 : Int),(w7 : Int)]) hN
 rw [hm]
 have m0' : q8 (ss0 : Int) 0 0 = some ((s0 : Int),(jj0 : Int)) := m0
 simp only [cO,dB,hA,a40,a41,a42,a43,q80,q81,q82,q83,q84,q85,q86,q87,t80,t81,t82,t83,t84,t85,t86,t87,i01,i12,i23,i34,d04,d14,d24,d34,d44,x00,x01,x02,x03,x04,bV,b4,eM,eD,bH,dX,dI,c5,eN,fW,j4,cM,kL,jU,dH,if_true,Bool.false_eq_true,if_false,Option.bind_some,e0,e1,e2,e3,f0,f1,f2,f3,m0',m1,m2,m3,n0,n1,n2,n3]
theorem aTx {N : Nat} (hN : 70000 ≤ N) {va : List Int} {A b0 b1 b2 b3 w0 w1 w2 w3 w4' w5 w6 w7 : Nat} (hA : bJ 4 va 1 = some (A : Int)) (gA : A < 18446744073709551616) (g0 : b0 < 18446744073709551616) (g1 : b1 < 18446744073709551616) (g2 : b2 < 18446744073709551616) (g3 : b3 < 18446744073709551616) (h0 : w1 < 18446744073709551616) (h1 : w2 < 18446744073709551616) (h2 : w3 < 18446744073709551616) (h3 : w4' < 18446744073709551616) :
  ∃ s0 s1 s2 s3 c : Nat,cO N va (w4 b0 b1 b2 b3) 1 N 0 0 [(w0 : Int),(w1 : Int),(w2 : Int),(w3 : Int),(w4' : Int),(w5 : Int),(w6 : Int),(w7 : Int)] = some ((c : Int),[(w0 : Int),(s0 : Int),(s1 : Int),(s2 : Int),(s3 : Int),(w5 : Int),(w6 : Int),(w7 : Int)]) ∧ vl w1 w2 w3 w4' + (A * b0 + 18446744073709551616 * (A * b1) + 340282366920938463463374607431768211456 * (A * b2) + 6277101735386680763835789423207666416102355444464034512896 * (A * b3)) = vl s0 s1 s2 s3 + 115792089237316195423570985008687907853269984665640564039457584007913129639936 * c ∧ s0 < 18446744073709551616 ∧ s1 < 18446744073709551616 ∧ s2 < 18446744073709551616 ∧ s3 < 18446744073709551616 ∧ c < 18446744073709551616 := by
 obtain ⟨hh0,ll0,ss0,kk0,s0,jj0,c0,e0,f0,m0,n0,v0,y0,z0⟩ := rD (N := N) gA g0 h0 (show (0 : Nat) < 18446744073709551616 by omega)
 obtain ⟨hh1,ll1,ss1,kk1,s1,jj1,c1,e1,f1,m1,n1,v1,y1,z1⟩ := rD (N := N) gA g1 h1 z0
 obtain ⟨hh2,ll2,ss2,kk2,s2,jj2,c2,e2,f2,m2,n2,v2,y2,z2⟩ := rD (N := N) gA g2 h2 z1
 obtain ⟨hh3,ll3,ss3,kk3,s3,jj3,c3,e3,f3,m3,n3,v3,y3,z3⟩ := rD (N := N) gA g3 h3 z2
 refine ⟨s0,s1,s2,s3,c3, ?_,by unfold vl; omega,y0,y1,y2,y3,z3⟩
 obtain ⟨m,hm⟩ := tP (fun q => cO N va (w4 b0 b1 b2 b3) 1 q 0 0 [(w0 : Int),(w1 : Int),(w2 : Int),(w3 : Int),(w4' : Int),(w5 : Int),(w6 : Int),(w7 : Int)]) hN
 rw [hm]
 have m0' : q8 (ss0 : Int) 0 0 = some ((s0 : Int),(jj0 : Int)) := m0
 simp only [cO,dB,hA,a40,a41,a42,a43,q80,q81,q82,q83,q84,q85,q86,q87,t80,t81,t82,t83,t84,t85,t86,t87,i01,i12,i23,i34,d04,d14,d24,d34,d44,x00,x01,x02,x03,x04,bV,b4,eM,eD,bH,dX,dI,c5,eN,fW,j4,cM,kL,jU,dH,if_true,Bool.false_eq_true,if_false,Option.bind_some,e0,e1,e2,e3,f0,f1,f2,f3,m0',m1,m2,m3,n0,n1,n2,n3]
theorem aTa {N : Nat} (hN : 70000 ≤ N) {va : List Int} {A b0 b1 b2 b3 w0 w1 w2 w3 w4' w5 w6 w7 : Nat} (hA : bJ 4 va 2 = some (A : Int)) (gA : A < 18446744073709551616) (g0 : b0 < 18446744073709551616) (g1 : b1 < 18446744073709551616) (g2 : b2 < 18446744073709551616) (g3 : b3 < 18446744073709551616) (h0 : w2 < 18446744073709551616) (h1 : w3 < 18446744073709551616) (h2 : w4' < 18446744073709551616) (h3 : w5 < 18446744073709551616) :
  ∃ s0 s1 s2 s3 c : Nat,cO N va (w4 b0 b1 b2 b3) 2 N 0 0 [(w0 : Int),(w1 : Int),(w2 : Int),(w3 : Int),(w4' : Int),(w5 : Int),(w6 : Int),(w7 : Int)] = some ((c : Int),[(w0 : Int),(w1 : Int),(s0 : Int),(s1 : Int),(s2 : Int),(s3 : Int),(w6 : Int),(w7 : Int)]) ∧ vl w2 w3 w4' w5 + (A * b0 + 18446744073709551616 * (A * b1) + 340282366920938463463374607431768211456 * (A * b2) + 6277101735386680763835789423207666416102355444464034512896 * (A * b3)) = vl s0 s1 s2 s3 + 115792089237316195423570985008687907853269984665640564039457584007913129639936 * c ∧ s0 < 18446744073709551616 ∧ s1 < 18446744073709551616 ∧ s2 < 18446744073709551616 ∧ s3 < 18446744073709551616 ∧ c < 18446744073709551616 := by
 obtain ⟨hh0,ll0,ss0,kk0,s0,jj0,c0,e0,f0,m0,n0,v0,y0,z0⟩ := rD (N := N) gA g0 h0 (show (0 : Nat) < 18446744073709551616 by omega)
 obtain ⟨hh1,ll1,ss1,kk1,s1,jj1,c1,e1,f1,m1,n1,v1,y1,z1⟩ := rD (N := N) gA g1 h1 z0
 obtain ⟨hh2,ll2,ss2,kk2,s2,jj2,c2,e2,f2,m2,n2,v2,y2,z2⟩ := rD (N := N) gA g2 h2 z1
 obtain ⟨hh3,ll3,ss3,kk3,s3,jj3,c3,e3,f3,m3,n3,v3,y3,z3⟩ := rD (N := N) gA g3 h3 z2
 refine ⟨s0,s1,s2,s3,c3, ?_,by unfold vl; omega,y0,y1,y2,y3,z3⟩
 obtain ⟨m,hm⟩ := tP (fun q => cO N va (w4 b0 b1 b2 b3) 2 q 0 0 [(w0 : Int),(w1 : Int),(w2 : Int),(w3 : Int),(w4' : Int),(w5 : Int),(w6 : Int),(w7 : Int)]) hN
 rw [hm]
 have m0' : q8 (ss0 : Int) 0 0 = some ((s0 : Int),(jj0 : Int)) := m0
 simp only [cO,dB,hA,a40,a41,a42,a43,q80,q81,q82,q83,q84,q85,q86,q87,t80,t81,t82,t83,t84,t85,t86,t87,i01,i12,i23,i34,d04,d14,d24,d34,d44,x00,x01,x02,x03,x04,bV,b4,eM,eD,bH,dX,dI,c5,eN,fW,j4,cM,kL,jU,dH,if_true,Bool.false_eq_true,if_false,Option.bind_some,e0,e1,e2,e3,f0,f1,f2,f3,m0',m1,m2,m3,n0,n1,n2,n3]
theorem aS4 {N : Nat} (hN : 70000 ≤ N) {va : List Int} {A b0 b1 b2 b3 w0 w1 w2 w3 w4' w5 w6 w7 : Nat} (hA : bJ 4 va 3 = some (A : Int)) (gA : A < 18446744073709551616) (g0 : b0 < 18446744073709551616) (g1 : b1 < 18446744073709551616) (g2 : b2 < 18446744073709551616) (g3 : b3 < 18446744073709551616) (h0 : w3 < 18446744073709551616) (h1 : w4' < 18446744073709551616) (h2 : w5 < 18446744073709551616) (h3 : w6 < 18446744073709551616) :
  ∃ s0 s1 s2 s3 c : Nat,cO N va (w4 b0 b1 b2 b3) 3 N 0 0 [(w0 : Int),(w1 : Int),(w2 : Int),(w3 : Int),(w4' : Int),(w5 : Int),(w6 : Int),(w7 : Int)] = some ((c : Int),[(w0 : Int),(w1 : Int),(w2 : Int),(s0 : Int),(s1 : Int),(s2 : Int),(s3 : Int),(w7 : Int)]) ∧ vl w3 w4' w5 w6 + (A * b0 + 18446744073709551616 * (A * b1) + 340282366920938463463374607431768211456 * (A * b2) + 6277101735386680763835789423207666416102355444464034512896 * (A * b3)) = vl s0 s1 s2 s3 + 115792089237316195423570985008687907853269984665640564039457584007913129639936 * c ∧ s0 < 18446744073709551616 ∧ s1 < 18446744073709551616 ∧ s2 < 18446744073709551616 ∧ s3 < 18446744073709551616 ∧ c < 18446744073709551616 := by
 obtain ⟨hh0,ll0,ss0,kk0,s0,jj0,c0,e0,f0,m0,n0,v0,y0,z0⟩ := rD (N := N) gA g0 h0 (show (0 : Nat) < 18446744073709551616 by omega)
 obtain ⟨hh1,ll1,ss1,kk1,s1,jj1,c1,e1,f1,m1,n1,v1,y1,z1⟩ := rD (N := N) gA g1 h1 z0
 obtain ⟨hh2,ll2,ss2,kk2,s2,jj2,c2,e2,f2,m2,n2,v2,y2,z2⟩ := rD (N := N) gA g2 h2 z1
 obtain ⟨hh3,ll3,ss3,kk3,s3,jj3,c3,e3,f3,m3,n3,v3,y3,z3⟩ := rD (N := N) gA g3 h3 z2
 refine ⟨s0,s1,s2,s3,c3, ?_,by unfold vl; omega,y0,y1,y2,y3,z3⟩
 obtain ⟨m,hm⟩ := tP (fun q => cO N va (w4 b0 b1 b2 b3) 3 q 0 0 [(w0 : Int),(w1 : Int),(w2 : Int),(w3 : Int),(w4' : Int),(w5 : Int),(w6 : Int),(w7 : Int)]) hN
 rw [hm]
 have m0' : q8 (ss0 : Int) 0 0 = some ((s0 : Int),(jj0 : Int)) := m0
 simp only [cO,dB,hA,a40,a41,a42,a43,q80,q81,q82,q83,q84,q85,q86,q87,t80,t81,t82,t83,t84,t85,t86,t87,i01,i12,i23,i34,d04,d14,d24,d34,d44,x00,x01,x02,x03,x04,bV,b4,eM,eD,bH,dX,dI,c5,eN,fW,j4,cM,kL,jU,dH,if_true,Bool.false_eq_true,if_false,Option.bind_some,e0,e1,e2,e3,f0,f1,f2,f3,m0',m1,m2,m3,n0,n1,n2,n3]
theorem aRw (A b0 b1 b2 b3 : Nat) : A * vl b0 b1 b2 b3 = A * b0 + 18446744073709551616 * (A * b1) + 340282366920938463463374607431768211456 * (A * b2) + 6277101735386680763835789423207666416102355444464034512896 * (A * b3) := by
 unfold vl
 rw [Nat.mul_add,Nat.mul_add,Nat.mul_add,Nat.mul_left_comm A 18446744073709551616 b1,Nat.mul_left_comm A 340282366920938463463374607431768211456 b2,Nat.mul_left_comm A 6277101735386680763835789423207666416102355444464034512896 b3]
theorem aO0 {N : Nat} (hN : 70000 ≤ N) {a b : Nat} (ha : a < 115792089237316195423570985008687907853269984665640564039457584007913129639936) (hb : b < 115792089237316195423570985008687907853269984665640564039457584007913129639936) : xF N (U a) (U b) = some (U (a * b / 115792089237316195423570985008687907853269984665640564039457584007913129639936),U (a * b % 115792089237316195423570985008687907853269984665640564039457584007913129639936)) := by
 obtain ⟨a0,a1,a2,a3,x0,x1,x2,x3,ea,va⟩ := yI ha
 obtain ⟨b0,b1,b2,b3,y0,y1,y2,y3,eb,vb⟩ := yI hb
 have zW : (0 : Nat) < 18446744073709551616 := by omega
 obtain ⟨s00,s01,s02,s03,c0,e0,f0,g00,g01,g02,g03,h0⟩ := aSN (N := N) hN (w0 := 0) (w1 := 0) (w2 := 0) (w3 := 0) (w4' := 0) (w5 := 0) (w6 := 0) (w7 := 0) (a40 a0 a1 a2 a3) x0 y0 y1 y2 y3 zW zW zW zW
 obtain ⟨s10,s11,s12,s13,c1,e1,f1,g10,g11,g12,g13,h1⟩ := aTx (N := N) hN (w0 := s00) (w5 := 0) (w6 := 0) (w7 := 0) (a41 a0 a1 a2 a3) x1 y0 y1 y2 y3 g01 g02 g03 h0
 obtain ⟨s20,s21,s22,s23,c2,e2,f2,g20,g21,g22,g23,h2⟩ := aTa (N := N) hN (w0 := s00) (w1 := s10) (w6 := 0) (w7 := 0) (a42 a0 a1 a2 a3) x2 y0 y1 y2 y3 g11 g12 g13 h1
 obtain ⟨s30,s31,s32,s33,c3,e3,f3,g30,g31,g32,g33,h3⟩ := aS4 (N := N) hN (w0 := s00) (w1 := s10) (w2 := s20) (w7 := 0) (a43 a0 a1 a2 a3) x3 y0 y1 y2 y3 g21 g22 g23 h2
 rw [← aRw] at f0 f1 f2 f3
 rw [← vb] at f0 f1 f2 f3
 have hab : a * b = a0 * b + 18446744073709551616 * (a1 * b) + 340282366920938463463374607431768211456 * (a2 * b) + 6277101735386680763835789423207666416102355444464034512896 * (a3 * b) := by
  rw [va]; unfold vl
  rw [Nat.add_mul,Nat.add_mul,Nat.add_mul,Nat.mul_assoc,Nat.mul_assoc,Nat.mul_assoc]
 have k1 := aEZ g00 g10 g20 g30
 have hsum : a * b = vl s00 s10 s20 s30 + 115792089237316195423570985008687907853269984665640564039457584007913129639936 * vl s31 s32 s33 c3 := by
  rw [hab]
  unfold vl at *
  omega
 rw [ea,eb,show a * b / 115792089237316195423570985008687907853269984665640564039457584007913129639936 = vl s31 s32 s33 c3 by omega,show a * b % 115792089237316195423570985008687907853269984665640564039457584007913129639936 = vl s00 s10 s20 s30 by omega,← aFN g00 g10 g20 g30,← aFN g31 g32 g33 h3]
 obtain ⟨m,hm⟩ := tP (fun q => i9 N (w4 a0 a1 a2 a3) (w4 b0 b1 b2 b3) q 0 (List.replicate 8 0)) hN
 unfold xF
 rw [hm]
 have e0' : cO N (w4 a0 a1 a2 a3) (w4 b0 b1 b2 b3) 0 N 0 0 [0,0,0,0,0,0,0,0] = some ((c0 : Int),[(s00 : Int),(s01 : Int),(s02 : Int),(s03 : Int),0,0,0,0]) := e0
 have e1' : cO N (w4 a0 a1 a2 a3) (w4 b0 b1 b2 b3) 1 N 0 0 [(s00 : Int),(s01 : Int),(s02 : Int),(s03 : Int),(c0 : Int),0,0,0] = some ((c1 : Int),[(s00 : Int),(s10 : Int),(s11 : Int),(s12 : Int),(s13 : Int),0,0,0]) := e1
 have e2' : cO N (w4 a0 a1 a2 a3) (w4 b0 b1 b2 b3) 2 N 0 0 [(s00 : Int),(s10 : Int),(s11 : Int),(s12 : Int),(s13 : Int),(c1 : Int),0,0] = some ((c2 : Int),[(s00 : Int),(s10 : Int),(s20 : Int),(s21 : Int),(s22 : Int),(s23 : Int),0,0]) := e2
 have e3' : cO N (w4 a0 a1 a2 a3) (w4 b0 b1 b2 b3) 3 N 0 0 [(s00 : Int),(s10 : Int),(s20 : Int),(s21 : Int),(s22 : Int),(s23 : Int),(c2 : Int),0] = some ((c3 : Int),[(s00 : Int),(s10 : Int),(s20 : Int),(s30 : Int),(s31 : Int),(s32 : Int),(s33 : Int),0]) := e3
 simp only [i9,vY,v6,show List.replicate 8 (0 : Int) = [0,0,0,0,0,0,0,0] from rfl,e0',e1',e2',e3',q84,q85,q86,q87,t84,t85,t86,t87,i01,i12,i23,i34,d04,d14,d24,d34,d44,x04,bH,fW,dH,if_true,Bool.false_eq_true,if_false,Option.bind_some]
 rfl
theorem aC2 : (2 : Nat) ^ 256 = 115792089237316195423570985008687907853269984665640564039457584007913129639936 := by decide +kernel
theorem aQX {K v : Nat} (hK : K + 1 ≤ 256) (hv : v < 2 ^ (K + 1)) : ∃ t v',t ≤ 1 ∧ v' < 2 ^ K ∧ v = t * 2 ^ K + v' ∧ 2 * (v * 2 ^ (256 - (K + 1))) = t * 115792089237316195423570985008687907853269984665640564039457584007913129639936 + v' * 2 ^ (256 - K) ∧ v' * 2 ^ (256 - K) < 115792089237316195423570985008687907853269984665640564039457584007913129639936 := by
 have hp : 0 < 2 ^ K := Nat.pow_pos (by omega)
 rw [Nat.pow_succ] at hv
 have h256 : 2 ^ K * 2 ^ (256 - K) = 115792089237316195423570985008687907853269984665640564039457584007913129639936 := by rw [← Nat.pow_add,show K + (256 - K) = 256 by omega,aC2]
 have hlt : v % 2 ^ K < 2 ^ K := Nat.mod_lt _ hp
 refine ⟨v / 2 ^ K,v % 2 ^ K, ?_,hlt, ?_, ?_, ?_⟩
 ·exact Nat.le_of_lt_succ ((Nat.div_lt_iff_lt_mul hp).2 (by rw [Nat.mul_comm]; exact hv))
 ·rw [Nat.mul_comm]; exact (Nat.div_add_mod v (2 ^ K)).symm
 ·have hx : 2 ^ (256 - K) = 2 * 2 ^ (256 - (K + 1)) := by rw [show 256 - K = (256 - (K + 1)) + 1 by omega,Nat.pow_succ,Nat.mul_comm]
  rw [Nat.mul_left_comm,← hx]
  conv => lhs; rw [← Nat.div_add_mod v (2 ^ K),Nat.add_mul,Nat.mul_right_comm,h256]
  rw [Nat.mul_comm]
 ·rw [← h256]
  exact Nat.mul_lt_mul_of_pos_right hlt (Nat.pow_pos (by omega))
theorem vP {α : Type} {n : Nat} {l : List α} (h : l.length = n) : aX n l = some l := by unfold aX; rw [if_pos h]
theorem aFC (T b p v : Nat) : ((T % b) * p + v) % b = (T * p + v) % b := by
 rw [Nat.add_mod,Nat.mul_mod,Nat.mod_mod,← Nat.mul_mod,← Nat.add_mod]
theorem aGA (a b : Nat) : decide ((0 : Int) ≤ if a < b then -1 else if b < a then 1 else 0) = decide (b ≤ a) := by
 by_cases h : a < b
 ·rw [if_pos h,decide_eq_false (show ¬ b ≤ a by omega)]; rfl
 ·rw [if_neg h,decide_eq_true (show b ≤ a by omega)]
  split <;> rfl
theorem aLL (a b : Nat) : decide ((if a < b then (-1 : Int) else if b < a then 1 else 0) < 0) = decide (a < b) := by
 by_cases h : a < b
 ·rw [if_pos h,decide_eq_true h]; rfl
 ·rw [if_neg h,decide_eq_false h]
  split <;> rfl
theorem aOY (a b : Nat) : decide ((if a < b then (-1 : Int) else if b < a then 1 else 0) ≤ 0) = decide (a ≤ b) := by
 by_cases h : a < b
 ·rw [if_pos h,decide_eq_true (show a ≤ b by omega)]; rfl
 ·rw [if_neg h]
  by_cases h2 : b < a
  ·rw [if_pos h2,decide_eq_false (show ¬ a ≤ b by omega)]; rfl
  ·rw [if_neg h2,decide_eq_true (show a ≤ b by omega)]; rfl
section
variable {N : Nat} (hN : 70000 ≤ N) {b : Nat} (hb : b < 115792089237316195423570985008687907853269984665640564039457584007913129639936) (hb0 : 0 < b)
include hN hb hb0
theorem aPF {cH : Nat} (hw : cH < 4) {m c K v r : Nat} (hc : c < 64) (hK : K = 64 * cH + c) (hv : v < 2 ^ (K + 1)) (hr : r < b) {q : List Int} (hq : q.length = 4) (hnz : ¬ (r = 0 ∧ v = 0)) :
  ∃ q' v' r',q'.length = 4 ∧ v' < 2 ^ K ∧ r' < b ∧ (r' * 2 ^ K + v') % b = (r * 2 ^ (K + 1) + v) % b ∧
   cZ N (U b) (cH : Int) (m + 1) (c : Int) (U (v * 2 ^ (256 - (K + 1)))) q (U r) = cZ N (U b) (cH : Int) m ((c : Int) - 1) (U (v' * 2 ^ (256 - K))) q' (U r') := by
 obtain ⟨t,v',ht,hv',hvv,h2,h3⟩ := aQX (by omega : K + 1 ≤ 256) hv
 have hlo : v * 2 ^ (256 - (K + 1)) < 115792089237316195423570985008687907853269984665640564039457584007913129639936 := by
  have h5 := (Nat.mul_lt_mul_right (Nat.pow_pos (n := 256 - (K + 1)) (show 0 < 2 by omega))).2 hv
  rw [← Nat.pow_add,show K + 1 + (256 - (K + 1)) = 256 by omega,aC2] at h5
  exact h5
 generalize hlov : v * 2 ^ (256 - (K + 1)) = lo at *
 generalize hlov' : v' * 2 ^ (256 - K) = lo' at *
 have hr4 : r < 115792089237316195423570985008687907853269984665640564039457584007913129639936 := by omega
 obtain ⟨k,d1,d2⟩ := aOU hN hlo (Nat.zero_le 1)
 rw [show (2 * lo + 0) % 115792089237316195423570985008687907853269984665640564039457584007913129639936 = lo' by omega,show (2 * lo + 0) / 115792089237316195423570985008687907853269984665640564039457584007913129639936 = t by omega] at *
 rw [d2] at d1
 clear d2
 obtain ⟨k,d3,d4⟩ := aOU hN hr4 ht
 have d1' : qV N (U lo) 0 = some (U lo',((t : Nat) : Int)) := d1
 have hT : (2 * r + t) % b < b := Nat.mod_lt _ hb0
 have hTv : ((2 * r + t) % b * 2 ^ K + v') % b = (r * 2 ^ (K + 1) + v) % b := by
  rw [aFC,hvv,Nat.add_mul,Nat.pow_succ,Nat.add_assoc,Nat.mul_right_comm 2 r,Nat.mul_comm (2 ^ K) 2,Nat.mul_comm (2 * 2 ^ K) r]
 have main : ∀ (q : List Int),q.length = 4 → ∃ q',q'.length = 4 ∧ s8 N (U b) (cH : Int) (c : Int) (U lo) q (U r) (cZ N (U b) (cH : Int) m) false = cZ N (U b) (cH : Int) m ((c : Int) - 1) (U lo') q' (U ((2 * r + t) % b)) := by
  intro q hq
  simp only [s8,Bool.false_eq_true,if_false,bI,d1',d3,Option.bind_some]
  have hcw : IntKind.i64.wrap ((c : Int) - 1) = (c : Int) - 1 := cG (by omega) (by omega)
  have hsub : ∀ (x : Nat),x < 115792089237316195423570985008687907853269984665640564039457584007913129639936 → (x + 115792089237316195423570985008687907853269984665640564039457584007913129639936 - b) % 115792089237316195423570985008687907853269984665640564039457584007913129639936 = (2 * r + t) % b → ∃ q',q'.length = 4 ∧ qZ N (U b) (cH : Int) (c : Int) q (U lo',((t : Nat) : Int)) (U x,(k : Int)) (cZ N (U b) (cH : Int) m) true = cZ N (U b) (cH : Int) m ((c : Int) - 1) (U lo') q' (U ((2 * r + t) % b)) := by
   intro x hx he
   have hs : shl .u64 1 (c : Int) = some ((1 * 2 ^ c % 2 ^ IntKind.u64.bits : Nat) : Int) := aC7 rfl 1 c
   have ha : bJ 4 q (cH : Int) = some (q[cH]'(by omega)) := by
    unfold bJ
    rw [if_pos (by omega),b9 q (by omega)]
   refine ⟨q.set (Int.toNat (cH : Int)) (bits .or .u64 (q[cH]'(by omega)) ((1 * 2 ^ c % 2 ^ IntKind.u64.bits : Nat) : Int)),by rw [List.length_set]; exact hq, ?_⟩
   simp only [qZ,if_true,aE6 hN hx hb,Option.bind_some,bI,ha,hs,s7,hcw,he]
  by_cases h1 : 2 * r + t < 115792089237316195423570985008687907853269984665640564039457584007913129639936
  ·have hk0 : k = 0 := by omega
   subst hk0
   simp only [show (((0 : Nat) : Int) != 0) = false from rfl,Bool.false_eq_true,if_false,y9 hN (show (2 * r + t) % 115792089237316195423570985008687907853269984665640564039457584007913129639936 < 115792089237316195423570985008687907853269984665640564039457584007913129639936 by omega) hb,Option.bind_some,aGA]
   rw [Nat.mod_eq_of_lt h1] at *
   by_cases h4 : b ≤ 2 * r + t
   ·rw [decide_eq_true h4]
    refine hsub _ h1 ?_
    rw [Nat.mod_eq_sub_mod h4,Nat.mod_eq_of_lt (show 2 * r + t - b < b by omega)]
    omega
   ·rw [decide_eq_false h4]
    refine ⟨q,hq, ?_⟩
    simp only [qZ,Bool.false_eq_true,if_false,s7,hcw]
    rw [Nat.mod_eq_of_lt (show 2 * r + t < b by omega)]
  ·have hk1 : k = 1 := by omega
   subst hk1
   simp only [show (((1 : Nat) : Int) != 0) = true from rfl,if_true]
   refine hsub _ (by omega) ?_
   rw [Nat.mod_eq_sub_mod (show b ≤ 2 * r + t by omega),Nat.mod_eq_of_lt (show 2 * r + t - b < b by omega)]
   omega
 obtain ⟨q',hq',he⟩ := main q hq
 refine ⟨q',v',(2 * r + t) % b,hq',hv',hT,hTv, ?_⟩
 rw [hlov']
 rw [cZ,show decide ((0 : Int) ≤ (c : Int)) = true from decide_eq_true (by omega),if_pos rfl,bI,Option.bind_some,← wF]
 rw [aCi hr4 (show 0 < 115792089237316195423570985008687907853269984665640564039457584007913129639936 by omega),bI,Option.bind_some,aCi hlo (show 0 < 115792089237316195423570985008687907853269984665640564039457584007913129639936 by omega)]
 by_cases h0 : r = 0
 ·have hl0 : lo ≠ 0 := by
   intro h
   have : v = 0 := by
    rcases Nat.mul_eq_zero.1 (hlov.trans h) with h | h
    ·exact h
    ·exact absurd h (Nat.ne_of_gt (Nat.pow_pos (by omega)))
   exact hnz ⟨h0,this⟩
  rw [decide_eq_true h0,if_pos rfl,decide_eq_false hl0]
  exact he
 ·rw [decide_eq_false h0]
  exact he
theorem aI7 {cH : Nat} (hw : cH < 4) : ∀ (c m v r : Nat) (q : List Int),c ≤ 64 → c < m → v < 2 ^ (64 * cH + c) → r < b → q.length = 4 →
  (∃ q',q'.length = 4 ∧ (r * 2 ^ (64 * cH + c) + v) % b = 0 ∧ cZ N (U b) (cH : Int) m ((c : Int) - 1) (U (v * 2 ^ (256 - (64 * cH + c)))) q (U r) = some (.ret (q',U 0))) ∨
  (∃ q' v' r',q'.length = 4 ∧ v' < 2 ^ (64 * cH) ∧ r' < b ∧ (r' * 2 ^ (64 * cH) + v') % b = (r * 2 ^ (64 * cH + c) + v) % b ∧
   cZ N (U b) (cH : Int) m ((c : Int) - 1) (U (v * 2 ^ (256 - (64 * cH + c)))) q (U r) = some (.brk (U (v' * 2 ^ (256 - 64 * cH)),q',U r')))
 | 0,m,v,r,q,_,hm,hv,hr,hq => by
  obtain ⟨m,rfl⟩ : ∃ k,m = k + 1 := ⟨m - 1,by omega⟩
  refine .inr ⟨q,v,r,hq,hv,hr,rfl, ?_⟩
  rw [cZ,show decide ((0 : Int) ≤ ((0 : Nat) : Int) - 1) = false from rfl]
  rfl
 | c + 1,m,v,r,q,hc,hm,hv,hr,hq => by
  obtain ⟨m,rfl⟩ : ∃ k,m = k + 1 := ⟨m - 1,by omega⟩
  rw [show ((c + 1 : Nat) : Int) - 1 = (c : Int) by omega]
  by_cases hz : r = 0 ∧ v = 0
  ·obtain ⟨rfl,rfl⟩ := hz
   refine .inl ⟨q,hq,by simp, ?_⟩
   rw [cZ,show decide ((0 : Int) ≤ (c : Int)) = true from decide_eq_true (by omega),if_pos rfl,Nat.zero_mul]
   rfl
  ·obtain ⟨q',v',r',h1,h2,h3,h4,h5⟩ := aPF hN hb hb0 hw (m := m) (show c < 64 by omega) rfl (show v < 2 ^ (64 * cH + c + 1) from hv) hr hq hz
   rw [show 64 * cH + (c + 1) = 64 * cH + c + 1 from rfl,h5,← h4]
   exact aI7 hw c m v' r' q' (by omega) (by omega) h2 h3 h1
theorem aK5 : ∀ (w m v r : Nat) (q : List Int),w ≤ 4 → w < m → v < 2 ^ (64 * w) → r < b → q.length = 4 →
  ∃ q',q'.length = 4 ∧ l8 N (U b) m ((w : Int) - 1) (U (v * 2 ^ (256 - 64 * w))) q (U r) = some (q',U ((r * 2 ^ (64 * w) + v) % b))
 | 0,m,v,r,q,_,hm,hv,hr,hq => by
  obtain ⟨m,rfl⟩ : ∃ k,m = k + 1 := ⟨m - 1,by omega⟩
  refine ⟨q,hq, ?_⟩
  have hv0 : v = 0 := by simpa using hv
  subst hv0
  rw [l8,show decide ((0 : Int) ≤ ((0 : Nat) : Int) - 1) = false from rfl]
  simp [Nat.mod_eq_of_lt hr]
 | w + 1,m,v,r,q,hw,hm,hv,hr,hq => by
  obtain ⟨m,rfl⟩ : ∃ k,m = k + 1 := ⟨m - 1,by omega⟩
  rw [l8,show ((w + 1 : Nat) : Int) - 1 = (w : Int) by omega,show decide ((0 : Int) ≤ (w : Int)) = true from decide_eq_true (by omega),if_pos rfl]
  have e63 : (63 : Int) = ((64 : Nat) : Int) - 1 := rfl
  have ek : 64 * (w + 1) = 64 * w + 64 := by omega
  rw [ek] at hv
  rw [e63,ek]
  rcases aI7 hN hb hb0 (show w < 4 by omega) 64 N v r q (Nat.le_refl _) (by omega) hv hr hq with ⟨q',h1,h2,h3⟩ | ⟨q',v',r',h1,h2,h3,h4,h5⟩
  ·rw [h3,h2]
   exact ⟨q',h1,rfl⟩
  ·rw [h5,← h4]
   simp only [Option.bind_some,aAD]
   rw [cG (a := (w : Int) - 1) (by omega) (by omega)]
   exact aK5 w m v' r' q' (by omega) (by omega) h2 h3 h1
theorem aO2 {hi lo : Nat} (hh : hi < b) (hl : lo < 115792089237316195423570985008687907853269984665640564039457584007913129639936) : ∃ q',q'.length = 4 ∧ aAd N (U hi) (U lo) (U b) = some (q',U ((hi * 115792089237316195423570985008687907853269984665640564039457584007913129639936 + lo) % b),true) := by
 obtain ⟨q',h1,h2⟩ := aK5 hN hb hb0 4 N lo hi (List.replicate 4 0) (Nat.le_refl _) (by omega) (by rw [show 64 * 4 = 256 from rfl,aC2]; exact hl) hh (by simp)
 rw [show ((4 : Nat) : Int) - 1 = 3 from rfl,show 256 - 64 * 4 = 0 from rfl,Nat.pow_zero,Nat.mul_one,show 64 * 4 = 256 from rfl,aC2] at h2
 refine ⟨q',h1, ?_⟩
 simp only [aAd,bI,Option.bind_some,y9 hN hb (show hi < 115792089237316195423570985008687907853269984665640564039457584007913129639936 by omega),aOY]
 rw [decide_eq_false (show ¬ b ≤ hi by omega)]
 simp only [Bool.false_eq_true,if_false,h2,Option.bind_some,aAJ,vP h1,bI]
theorem aFJ {a : Nat} (ha : a < 115792089237316195423570985008687907853269984665640564039457584007913129639936) : qX N (U a) (U b) = some (U (a % b)) := by
 simp only [qX,bI,Option.bind_some,y9 hN ha hb,aLL]
 by_cases h : a < b
 ·rw [decide_eq_true h,if_pos rfl,Nat.mod_eq_of_lt h]
 ·rw [decide_eq_false h]
  obtain ⟨q',h1,h2⟩ := aO2 hN hb hb0 hb0 ha
  rw [wF,Nat.zero_mul,Nat.zero_add] at h2
  simp only [Bool.false_eq_true,if_false,h2,Option.bind_some,vP h1,bI]
theorem aRx : (U b == [0,0,0,0]) = false := by
 rw [← wF,aCi hb (by omega)]
 exact decide_eq_false (by omega)
theorem aNZ {x y : Nat} (hx : x < 115792089237316195423570985008687907853269984665640564039457584007913129639936) (hy : y < 115792089237316195423570985008687907853269984665640564039457584007913129639936) : wA N (U x) (U y) (U b) = some (U (x * y % b)) := by
 have hp : x * y / 115792089237316195423570985008687907853269984665640564039457584007913129639936 < 115792089237316195423570985008687907853269984665640564039457584007913129639936 := by
  have h5 := Nat.mul_le_mul (Nat.le_pred_of_lt hx) (Nat.le_pred_of_lt hy)
  simp only [Nat.pred_eq_sub_one,Nat.reduceSub,Nat.reduceMul] at h5
  omega
 obtain ⟨q',h1,h2⟩ := aO2 hN hb hb0 (Nat.mod_lt (x * y / 115792089237316195423570985008687907853269984665640564039457584007913129639936) hb0) (show x * y % 115792089237316195423570985008687907853269984665640564039457584007913129639936 < 115792089237316195423570985008687907853269984665640564039457584007913129639936 by omega)
 rw [aFC,Nat.mul_comm (x * y / 115792089237316195423570985008687907853269984665640564039457584007913129639936) 115792089237316195423570985008687907853269984665640564039457584007913129639936,Nat.div_add_mod] at h2
 simp only [wA,bI,Option.bind_some,aRx hN hb hb0,Bool.false_eq_true,if_false,aO0 hN hx hy,aFJ hN hb hb0 hp,h2,vP h1]
theorem aI1 {x y : Nat} (hx : x < 115792089237316195423570985008687907853269984665640564039457584007913129639936) (hy : y < 115792089237316195423570985008687907853269984665640564039457584007913129639936) : wG N (U x) (U y) (U b) = some (U ((x + y) % b)) := by
 have h1 := Nat.mod_lt x hb0
 have h2 := Nat.mod_lt y hb0
 have key : (x + y) % b = if x % b + y % b < b then x % b + y % b else x % b + y % b - b := by
  rw [Nat.add_mod]
  split
  ·rename_i h; exact Nat.mod_eq_of_lt h
  ·rename_i h; rw [Nat.mod_eq_sub_mod (by omega),Nat.mod_eq_of_lt (by omega)]
 simp only [wG,bI,Option.bind_some,aRx hN hb hb0,Bool.false_eq_true,if_false,aFJ hN hb hb0 hx,aFJ hN hb hb0 hy,aOR hN (show x % b < 115792089237316195423570985008687907853269984665640564039457584007913129639936 by omega) (show y % b < 115792089237316195423570985008687907853269984665640564039457584007913129639936 by omega)]
 rw [key]
 generalize x % b = u at *
 generalize y % b = v at *
 by_cases h : 115792089237316195423570985008687907853269984665640564039457584007913129639936 ≤ u + v
 ·rw [decide_eq_true h,if_neg (show ¬ u + v < b by omega)]
  simp only [if_true,lO,aE6 hN (show (u + v) % 115792089237316195423570985008687907853269984665640564039457584007913129639936 < 115792089237316195423570985008687907853269984665640564039457584007913129639936 by omega) hb,Option.bind_some,bI,lT]
  rw [show ((u + v) % 115792089237316195423570985008687907853269984665640564039457584007913129639936 + 115792089237316195423570985008687907853269984665640564039457584007913129639936 - b) % 115792089237316195423570985008687907853269984665640564039457584007913129639936 = u + v - b by omega]
 ·rw [decide_eq_false h]
  simp only [Bool.false_eq_true,if_false,y9 hN (show (u + v) % 115792089237316195423570985008687907853269984665640564039457584007913129639936 < 115792089237316195423570985008687907853269984665640564039457584007913129639936 by omega) hb,Option.bind_some,aGA]
  rw [Nat.mod_eq_of_lt (show u + v < 115792089237316195423570985008687907853269984665640564039457584007913129639936 by omega)]
  by_cases h3 : b ≤ u + v
  ·rw [decide_eq_true h3,if_neg (show ¬ u + v < b by omega)]
   simp only [if_true,lO,aE6 hN (show u + v < 115792089237316195423570985008687907853269984665640564039457584007913129639936 by omega) hb,Option.bind_some,bI,lT]
   rw [show (u + v + 115792089237316195423570985008687907853269984665640564039457584007913129639936 - b) % 115792089237316195423570985008687907853269984665640564039457584007913129639936 = u + v - b by omega]
  ·rw [decide_eq_false h3,if_pos (show u + v < b by omega)]
   simp only [Bool.false_eq_true,if_false,lO,Option.bind_some,bI,lT]
end
theorem aPc : ((List.range 256).all fun y => match gZ 0 (y : Int) 0 with | some v => decide (0 ≤ v ∧ v ≤ 8 ∧ y < 2 ^ v.toNat) | none => false) = true := by decide +kernel
theorem aMP (z : Int) : IntKind.i64.wrap (0 + IntKind.i64.wrap z) = IntKind.i64.wrap z := by simp only [IntKind.wrap_i64]; omega
theorem aQJ {N x : Nat} (hx : x < 256) {n : Nat} (hn : n ≤ 1000) : ∃ t : Nat,t ≤ 8 ∧ x < 2 ^ t ∧ gZ N (x : Int) (n : Int) = some ((n + t : Nat) : Int) := by
 have h := List.all_eq_true.1 aPc x (by simpa using hx)
 unfold gZ at h ⊢
 generalize hs : aLn _ (IntKind.u8.wrap (x : Int)) = s at h ⊢
 cases s with
 | none => simp at h
 | some z =>
  simp only [Option.bind_some,aMP,decide_eq_true_eq] at h ⊢
  generalize IntKind.i64.wrap z = w at *
  obtain ⟨h1,h2,h3⟩ := h
  clear hs
  refine ⟨w.toNat, ?_,h3, ?_⟩ <;> clear h3
  ·omega
  ·rw [cG (by omega) (by omega)]
   congr 1; omega
theorem aKk {x k t : Nat} (h : x / 2 ^ k < 2 ^ t) : x < 2 ^ (k + t) := by
 rw [Nat.pow_add,Nat.mul_comm]
 exact (Nat.div_lt_iff_lt_mul (Nat.pow_pos (by omega))).1 h
theorem aOw (a b : Nat) : decide ((a : Int) ≤ (b : Int)) = decide (a ≤ b) := by
 by_cases h : a ≤ b
 ·rw [decide_eq_true h,decide_eq_true (by omega)]
 ·rw [decide_eq_false h,decide_eq_false (by omega)]
theorem aDo {N x : Nat} (hx : x < 18446744073709551616) : ∃ n : Nat,n ≤ 64 ∧ x < 2 ^ n ∧ pY N (x : Int) = some (n : Int) := by
 have j2 : ∀ (x n : Nat),x < 65536 → n ≤ 100 → ∃ t : Nat,t ≤ 16 ∧ x < 2 ^ t ∧ j5 N (x : Int) (n : Int) = some ((n + t : Nat) : Int) := by
  intro x n hx hn
  unfold j5
  rw [show (256 : Int) = ((256 : Nat) : Int) from rfl,aOw]
  by_cases h : 256 ≤ x
  ·rw [decide_eq_true h,if_pos rfl,show shr .u64 (x : Int) 8 = some ((x / 256 : Nat) : Int) from aAl x 8 (Nat.lt_of_lt_of_le hx (by decide)),Option.bind_some,cG (a := (n : Int) + 8) (by omega) (by omega),show (n : Int) + 8 = ((n + 8 : Nat) : Int) by omega]
   obtain ⟨t,h1,h2,h3⟩ := aQJ (N := N) (show x / 256 < 256 by omega) (show n + 8 ≤ 1000 by omega)
   exact ⟨8 + t,Nat.add_le_add_left h1 8,aKk (k := 8) h2,by rw [h3,Nat.add_assoc]⟩
  ·rw [decide_eq_false h]
   obtain ⟨t,h1,h2,h3⟩ := aQJ (N := N) (show x < 256 by omega) (show n ≤ 1000 by omega)
   exact ⟨t,Nat.le_trans h1 (by decide),h2,h3⟩
 have j1 : ∀ (x n : Nat),x < 4294967296 → n ≤ 50 → ∃ t : Nat,t ≤ 32 ∧ x < 2 ^ t ∧ jT N (x : Int) (n : Int) = some ((n + t : Nat) : Int) := by
  intro x n hx hn
  unfold jT
  rw [show (65536 : Int) = ((65536 : Nat) : Int) from rfl,aOw]
  by_cases h : 65536 ≤ x
  ·rw [decide_eq_true h,if_pos rfl,show shr .u64 (x : Int) 16 = some ((x / 65536 : Nat) : Int) from aAl x 16 (Nat.lt_of_lt_of_le hx (by decide)),Option.bind_some,cG (a := (n : Int) + 16) (by omega) (by omega),show (n : Int) + 16 = ((n + 16 : Nat) : Int) by omega]
   obtain ⟨t,h1,h2,h3⟩ := j2 (x / 65536) (n + 16) (by omega) (by omega)
   exact ⟨16 + t,Nat.add_le_add_left h1 16,aKk (k := 16) h2,by rw [h3,Nat.add_assoc]⟩
  ·rw [decide_eq_false h]
   obtain ⟨t,h1,h2,h3⟩ := j2 x n (by omega) (by omega)
   exact ⟨t,Nat.le_trans h1 (by decide),h2,h3⟩
 unfold pY
 rw [show (4294967296 : Int) = ((4294967296 : Nat) : Int) from rfl,aOw]
 by_cases h : 4294967296 ≤ x
 ·rw [decide_eq_true h,if_pos rfl,show shr .u64 (x : Int) 32 = some ((x / 4294967296 : Nat) : Int) from aAl x 32 hx,Option.bind_some]
  obtain ⟨t,h1,h2,h3⟩ := j1 (x / 4294967296) 32 (by omega) (by omega)
  exact ⟨32 + t,Nat.add_le_add_left h1 32,aKk (k := 32) h2,h3⟩
 ·rw [decide_eq_false h]
  obtain ⟨t,h1,h2,h3⟩ := j1 x 0 (by omega) (by omega)
  exact ⟨t,Nat.le_trans h1 (by decide),h2,by rw [Nat.zero_add] at h3; exact h3⟩
theorem aSg {N : Nat} (hN : 70000 ≤ N) {e : Nat} (he : e < 115792089237316195423570985008687907853269984665640564039457584007913129639936) : ∃ n : Nat,n ≤ 256 ∧ e < 2 ^ n ∧ aBG N (U e) = some (n : Int) := by
 obtain ⟨a0,a1,a2,a3,x0,x1,x2,x3,ea,va⟩ := yI he
 unfold vl at va
 obtain ⟨n0,l0,p0,f0⟩ := aDo (N := N) x0
 obtain ⟨n1,l1,p1,f1⟩ := aDo (N := N) x1
 obtain ⟨n2,l2,p2,f2⟩ := aDo (N := N) x2
 obtain ⟨n3,l3,p3,f3⟩ := aDo (N := N) x3
 rw [ea]
 obtain ⟨m,hm⟩ := tP (fun q => qN N (w4 a0 a1 a2 a3) q 3) hN
 unfold aBG
 rw [hm]
 simp only [qN,a40,a41,a42,a43,i32,i21,i10,i0m,show decide ((0 : Int) ≤ 3) = true from rfl,show decide ((0 : Int) ≤ 2) = true from rfl,show decide ((0 : Int) ≤ 1) = true from rfl,show decide ((0 : Int) ≤ 0) = true from rfl,show decide ((0 : Int) ≤ -1) = false from rfl,if_true,Bool.false_eq_true,if_false,Option.bind_some,aAG,f0,f1,f2,f3]
 have nz : ∀ x : Nat,(((x : Nat) : Int) != 0) = !decide (x = 0) := fun x => by
  by_cases h : x = 0
  ·subst h; rfl
  ·rw [decide_eq_false h]; simp; omega
 rw [nz,nz,nz,nz]
 have wr : ∀ (i n : Nat),i ≤ 3 → n ≤ 64 → IntKind.i64.wrap (IntKind.i64.wrap (64 * (i : Int)) + (n : Int)) = ((64 * i + n : Nat) : Int) := fun i n hi hn => by
  rw [cG (a := 64 * (i : Int)) (by omega) (by omega),cG (by omega) (by omega)]; omega
 have q3 := wr 3 n3 (by omega) l3
 have q2 := wr 2 n2 (by omega) l2
 have q1 := wr 1 n1 (by omega) l1
 have q0 := wr 0 n0 (by omega) l0
 have pw : ∀ i n : Nat,2 ^ (64 * i + n) = 2 ^ (64 * i) * 2 ^ n := fun i n => Nat.pow_add _ _ _
 by_cases h3 : a3 = 0
 ·rw [decide_eq_true h3]
  by_cases h2 : a2 = 0
  ·rw [decide_eq_true h2]
   by_cases h1 : a1 = 0
   ·rw [decide_eq_true h1]
    by_cases h0 : a0 = 0
    ·rw [decide_eq_true h0]
     exact ⟨0,by omega,by simp; omega,rfl⟩
    ·rw [decide_eq_false h0]
     refine ⟨64 * 0 + n0,by omega, ?_, ?_⟩
     ·rw [show 64 * 0 + n0 = n0 by omega]; omega
     ·rw [← q0]; rfl
   ·rw [decide_eq_false h1]
    refine ⟨64 * 1 + n1,by omega, ?_, ?_⟩
    ·rw [pw,show 2 ^ (64 * 1) = 18446744073709551616 from rfl]
     generalize 2 ^ n1 = z at *
     omega
    ·rw [← q1]; rfl
  ·rw [decide_eq_false h2]
   refine ⟨64 * 2 + n2,by omega, ?_, ?_⟩
   ·rw [pw,show 2 ^ (64 * 2) = 340282366920938463463374607431768211456 from rfl]
    generalize 2 ^ n2 = z at *
    omega
   ·rw [← q2]; rfl
 ·rw [decide_eq_false h3]
  refine ⟨64 * 3 + n3,by omega, ?_, ?_⟩
  ·rw [pw,show 2 ^ (64 * 3) = 6277101735386680763835789423207666416102355444464034512896 from rfl]
   generalize 2 ^ n3 = z at *
   omega
  ·rw [← q3]; rfl
theorem aJo (N : Nat) : pE N = some (U 115792089237316195423570985008687907853269984665640564039457584007913129603823) := by unfold pE; decide +kernel
theorem aBU (N : Nat) : nQ N = some (U 57896044618658097711785492504343953926634992332820282019728792003956564801911) := by unfold nQ; decide +kernel
theorem aLs {N : Nat} (hN : 70000 ≤ N) {a b : Nat} (ha : a < 115792089237316195423570985008687907853269984665640564039457584007913129639936) (hb : b < 115792089237316195423570985008687907853269984665640564039457584007913129639936) : uG N (U a) (U b) = some (U (a * b % 115792089237316195423570985008687907853269984665640564039457584007913129603823)) := by
 simp only [uG,bI,aJo,Option.bind_some,aNZ (b := 115792089237316195423570985008687907853269984665640564039457584007913129603823) hN (by decide) (by decide) ha hb]
theorem aOT {e : Nat} (he : e < 115792089237316195423570985008687907853269984665640564039457584007913129639936) {j : Nat} (hj : j < 256) : ∃ x y : Nat,bJ 4 (U e) ((j / 64 : Nat) : Int) = some (x : Int) ∧ shr .u64 (x : Int) ((j % 64 : Nat) : Int) = some (y : Int) ∧ (bits .and .u64 (y : Int) 1 == 1) = decide (e / 2 ^ j % 2 = 1) := by
 have hx : bJ 4 (U e) ((j / 64 : Nat) : Int) = some ((e / 2 ^ (64 * (j / 64)) % 18446744073709551616 : Nat) : Int) := by
  have h4 : j / 64 < 4 := by omega
  unfold U
  generalize j / 64 = k at *
  match k,h4 with
  | 0,_ => rw [show 2 ^ (64 * 0) = 1 from rfl,Nat.div_one]; rfl
  | 1,_ => rfl
  | 2,_ => rfl
  | 3,_ => rfl
 refine ⟨_,_,hx,aAl _ _ (show e / 2 ^ (64 * (j / 64)) % 18446744073709551616 < 2 ^ 64 by omega), ?_⟩
 have hlt : e / 2 ^ (64 * (j / 64)) % 18446744073709551616 / 2 ^ (j % 64) < 2 ^ 64 := Nat.lt_of_le_of_lt (Nat.div_le_self _ _) (show e / 2 ^ (64 * (j / 64)) % 18446744073709551616 < 2 ^ 64 by omega)
 rw [show (1 : Int) = ((1 : Nat) : Int) from rfl,aEj (k := .u64) rfl _ 1 hlt (by decide),Nat.and_one_is_mod]
 have key : e / 2 ^ (64 * (j / 64)) % 18446744073709551616 / 2 ^ (j % 64) % 2 = e / 2 ^ j % 2 := by
  have h1 : (e / 2 ^ (64 * (j / 64)) % 2 ^ 64).testBit (j % 64) = (e / 2 ^ (64 * (j / 64))).testBit (j % 64) := by
   rw [Nat.testBit_mod_two_pow,decide_eq_true (Nat.mod_lt _ (by omega)),Bool.true_and]
  rw [Nat.testBit_div_two_pow,show j % 64 + 64 * (j / 64) = j by omega] at h1
  rw [Nat.testBit_eq_decide_div_mod_eq,Nat.testBit_eq_decide_div_mod_eq,decide_eq_decide] at h1
  have h2 : e / 2 ^ (64 * (j / 64)) % 2 ^ 64 / 2 ^ (j % 64) % 2 = e / 2 ^ j % 2 := by
   generalize e / 2 ^ (64 * (j / 64)) % 2 ^ 64 / 2 ^ (j % 64) = u at *
   generalize e / 2 ^ j = w at *
   omega
  exact h2
 rw [key]
 generalize e / 2 ^ j % 2 = u
 by_cases h : u = 1
 ·subst h; rfl
 ·rw [decide_eq_false h]; simp; omega
theorem aFu (a p e : Nat) : (a ^ (e / 2) % p) * (a ^ (e / 2) % p) % p * (if e % 2 = 1 then a else 1) % p = a ^ e % p := by
 have h : a ^ e = a ^ (e / 2) * a ^ (e / 2) * (if e % 2 = 1 then a else 1) := by
  rw [← Nat.pow_add]
  split
  ·rename_i h1
   rw [← Nat.pow_succ]; congr 1; omega
  ·rw [Nat.mul_one]; congr 1; omega
 rw [h,← Nat.mul_mod,Nat.mod_mul_mod]
section
variable {N : Nat} (hN : 70000 ≤ N)
include hN
theorem aFU {a e n : Nat} (ha : a < 115792089237316195423570985008687907853269984665640564039457584007913129639936) (he : e < 115792089237316195423570985008687907853269984665640564039457584007913129639936) (hn : n ≤ 256) : ∀ (m j : Nat),n - j < m → j ≤ n → kD N (U a) (U e) (n : Int) m (j : Int) (U (a ^ (e / 2 ^ (n - j)) % 115792089237316195423570985008687907853269984665640564039457584007913129603823)) = some (U (a ^ e % 115792089237316195423570985008687907853269984665640564039457584007913129603823))
 | 0,j,hm,_ => by omega
 | m + 1,j,hm,hj => by
  rw [kD]
  by_cases h : j < n
  ·rw [dT h,if_pos rfl]
   have hp : a ^ (e / 2 ^ (n - j)) % 115792089237316195423570985008687907853269984665640564039457584007913129603823 < 115792089237316195423570985008687907853269984665640564039457584007913129639936 := Nat.lt_of_lt_of_le (Nat.mod_lt _ (by omega)) (by omega)
   obtain ⟨x,y,b1,b2,b3⟩ := aOT he (show n - 1 - j < 256 by omega)
   rw [cG (a := (n : Int) - 1) (by omega) (by omega),cG (a := (n : Int) - 1 - (j : Int)) (by omega) (by omega),show (n : Int) - 1 - (j : Int) = ((n - 1 - j : Nat) : Int) by omega,show (64 : Int) = ((64 : Nat) : Int) from rfl,sS,sU,cG (a := (((n - 1 - j) / 64 : Nat) : Int)) (by omega) (by omega)]
   simp only [bI,aLs hN hp hp,Option.bind_some,b1,b2,b3]
   have hdiv : e / 2 ^ (n - (j + 1)) / 2 = e / 2 ^ (n - j) := by rw [Nat.div_div_eq_div_mul,show 2 ^ (n - (j + 1)) * 2 = 2 ^ (n - j) by rw [← Nat.pow_succ]; congr 1; omega]
   have key := aFu a 115792089237316195423570985008687907853269984665640564039457584007913129603823 (e / 2 ^ (n - (j + 1)))
   rw [hdiv] at key
   have hlt2 : (a ^ (e / 2 ^ (n - j)) % 115792089237316195423570985008687907853269984665640564039457584007913129603823) * (a ^ (e / 2 ^ (n - j)) % 115792089237316195423570985008687907853269984665640564039457584007913129603823) % 115792089237316195423570985008687907853269984665640564039457584007913129603823 < 115792089237316195423570985008687907853269984665640564039457584007913129639936 := Nat.lt_of_lt_of_le (Nat.mod_lt _ (by omega)) (by omega)
   rw [show n - 1 - j = n - (j + 1) by omega]
   by_cases hb : e / 2 ^ (n - (j + 1)) % 2 = 1
   ·rw [decide_eq_true hb,if_pos rfl,aLs hN hlt2 ha]
    rw [if_pos hb] at key
    simp only [Option.bind_some,bI,rW,i1 (show j ≤ 100000 by omega),key]
    exact aFU ha he hn m (j + 1) (by omega) (by omega)
   ·rw [decide_eq_false hb]
    rw [if_neg hb,Nat.mul_one,Nat.mod_mod] at key
    simp only [Bool.false_eq_true,if_false,rW,i1 (show j ≤ 100000 by omega),key]
    exact aFU ha he hn m (j + 1) (by omega) (by omega)
  ·obtain rfl : j = n := by omega
   rw [dF h,Nat.sub_self,Nat.pow_zero,Nat.div_one]
   rfl
theorem aE7 {a e : Nat} (ha : a < 115792089237316195423570985008687907853269984665640564039457584007913129639936) (he : e < 115792089237316195423570985008687907853269984665640564039457584007913129639936) : uK N (U a) (U e) = some (U (a ^ e % 115792089237316195423570985008687907853269984665640564039457584007913129603823)) := by
 obtain ⟨n,h1,h2,h3⟩ := aSg hN he
 have h4 := aFU hN ha he h1 N 0 (by omega) (by omega)
 rw [Nat.sub_zero,Nat.div_eq_of_lt h2,Nat.pow_zero,show 1 % 115792089237316195423570985008687907853269984665640564039457584007913129603823 = 1 from rfl,show ((0 : Nat) : Int) = 0 from rfl] at h4
 have hU1 : ([1,0,0,0] : List Int) = U 1 := by decide +kernel
 simp only [uK,fG,hU1,bI,h3,Option.bind_some,h4,yH]
end
theorem aMi {k : Nat} (h : k ≤ 1) : ((k : Int) == 1) = ((k : Int) != 0) := by
 rcases (by omega : k = 0 ∨ k = 1) with rfl | rfl <;> rfl
theorem aMx (N : Nat) (a b : List Int) : ∀ (m : Nat) (c x : Int) (l : List Int),oT N a b m c x l = jB N a b m c x l
 | 0,_,_,_ => rfl
 | m + 1,c,x,l => by simp only [oT,jB,aMx N a b m]
theorem aMm (N : Nat) (a b : List Int) : ∀ (m : Nat) (c x : Int) (l : List Int),oL N a b m c x l = jF N a b m c x l
 | 0,_,_,_ => rfl
 | m + 1,c,x,l => by simp only [oL,jF,aMm N a b m]
theorem aMN (N : Nat) (a b : List Int) : ∀ (m : Nat) (x : Int),oD N a b m x = lY N a b m x
 | 0,_ => rfl
 | m + 1,x => by simp only [oD,lY,aMN N a b m]
theorem aLi (N : Nat) (a b : List Int) : r7 N a b = nC N a b := by
 unfold r7 nC
 rw [aMN]
 rfl
theorem aQd {N : Nat} (hN : 70000 ≤ N) {a0 a1 a2 a3 b0 b1 b2 b3 : Nat} (ha0 : a0 < 18446744073709551616) (ha1 : a1 < 18446744073709551616) (ha2 : a2 < 18446744073709551616) (ha3 : a3 < 18446744073709551616) (hb0 : b0 < 18446744073709551616) (hb1 : b1 < 18446744073709551616) (hb2 : b2 < 18446744073709551616) (hb3 : b3 < 18446744073709551616) :
  t6 N (w4 a0 a1 a2 a3) (w4 b0 b1 b2 b3) = uO N (w4 a0 a1 a2 a3) (w4 b0 b1 b2 b3) := by
 obtain ⟨s0,k0,e0,f0,g0,l0⟩ := qU ha0 hb0 (Nat.zero_le 1)
 obtain ⟨s1,k1,e1,f1,g1,l1⟩ := qU ha1 hb1 l0
 obtain ⟨s2,k2,e2,f2,g2,l2⟩ := qU ha2 hb2 l1
 obtain ⟨s3,k3,e3,f3,g3,l3⟩ := qU ha3 hb3 l2
 obtain ⟨m,hm⟩ := tP (fun q => jB N (w4 a0 a1 a2 a3) (w4 b0 b1 b2 b3) q 0 0 (List.replicate 4 0)) hN
 unfold t6 uO
 rw [aMx,hm]
 have e0' : q8 (a0 : Int) (b0 : Int) 0 = some ((s0 : Int),(k0 : Int)) := e0
 simp only [jB,dB,a40,a41,a42,a43,q40,q41,q42,q43,t40,t41,t42,t43,r40,i01,i12,i23,i34,d04,d14,d24,d34,d44,if_true,Bool.false_eq_true,if_false,Option.bind_some,e0',e1,e2,e3,wH,z9,aMi l3]
theorem aMz {N : Nat} (hN : 70000 ≤ N) {a b : Nat} (ha : a < 115792089237316195423570985008687907853269984665640564039457584007913129639936) (hb : b < 115792089237316195423570985008687907853269984665640564039457584007913129639936) : t6 N (U a) (U b) = some (U ((a + b) % 115792089237316195423570985008687907853269984665640564039457584007913129639936),decide (115792089237316195423570985008687907853269984665640564039457584007913129639936 ≤ a + b)) := by
 obtain ⟨a0,a1,a2,a3,x0,x1,x2,x3,ea,va⟩ := yI ha
 obtain ⟨b0,b1,b2,b3,y0,y1,y2,y3,eb,vb⟩ := yI hb
 rw [← aOR hN ha hb,ea,eb]
 exact aQd hN x0 x1 x2 x3 y0 y1 y2 y3
theorem aQx {N : Nat} (hN : 70000 ≤ N) {a0 a1 a2 a3 b0 b1 b2 b3 : Nat} (ha0 : a0 < 18446744073709551616) (ha1 : a1 < 18446744073709551616) (ha2 : a2 < 18446744073709551616) (ha3 : a3 < 18446744073709551616) (hb0 : b0 < 18446744073709551616) (hb1 : b1 < 18446744073709551616) (hb2 : b2 < 18446744073709551616) (hb3 : b3 < 18446744073709551616) :
  sA N (w4 a0 a1 a2 a3) (w4 b0 b1 b2 b3) = qS N (w4 a0 a1 a2 a3) (w4 b0 b1 b2 b3) := by
 obtain ⟨s0,k0,e0,f0,g0,l0⟩ := uZ ha0 hb0 (Nat.zero_le 1)
 obtain ⟨s1,k1,e1,f1,g1,l1⟩ := uZ ha1 hb1 l0
 obtain ⟨s2,k2,e2,f2,g2,l2⟩ := uZ ha2 hb2 l1
 obtain ⟨s3,k3,e3,f3,g3,l3⟩ := uZ ha3 hb3 l2
 obtain ⟨m,hm⟩ := tP (fun q => jF N (w4 a0 a1 a2 a3) (w4 b0 b1 b2 b3) q 0 0 (List.replicate 4 0)) hN
 unfold sA qS
 rw [aMm,hm]
 have e0' : aDm (a0 : Int) (b0 : Int) 0 = some ((s0 : Int),(k0 : Int)) := e0
 simp only [jF,qA,a40,a41,a42,a43,q40,q41,q42,q43,t40,t41,t42,t43,r40,i01,i12,i23,i34,d04,d14,d24,d34,d44,if_true,Bool.false_eq_true,if_false,Option.bind_some,e0',e1,e2,e3,v9,yW,aMi l3]
theorem aI4 {N : Nat} (hN : 70000 ≤ N) {a b : Nat} (ha : a < 115792089237316195423570985008687907853269984665640564039457584007913129639936) (hb : b < 115792089237316195423570985008687907853269984665640564039457584007913129639936) : sA N (U a) (U b) = some (U ((a + 115792089237316195423570985008687907853269984665640564039457584007913129639936 - b) % 115792089237316195423570985008687907853269984665640564039457584007913129639936),decide (a < b)) := by
 obtain ⟨a0,a1,a2,a3,x0,x1,x2,x3,ea,va⟩ := yI ha
 obtain ⟨b0,b1,b2,b3,y0,y1,y2,y3,eb,vb⟩ := yI hb
 rw [← aE6 hN ha hb,ea,eb]
 exact aQx hN x0 x1 x2 x3 y0 y1 y2 y3
theorem aGS {N e : Nat} (he : e < 115792089237316195423570985008687907853269984665640564039457584007913129639936) {j : Nat} (hj : j < 256) : mN N (U e) (j : Int) = some (decide (e / 2 ^ j % 2 = 1)) := by
 obtain ⟨x,y,h1,h2,h3⟩ := aOT he hj
 have hd : Int.tdiv (j : Int) 64 = ((j / 64 : Nat) : Int) := sS j 64
 have hm : Int.tmod (j : Int) 64 = ((j % 64 : Nat) : Int) := sU j 64
 unfold mN
 rw [hd,hm,cG (by omega) (by omega),h1]
 simp only [Option.bind_some,h2,h3]
theorem aCS {N n : Nat} (hn : n < 115792089237316195423570985008687907853269984665640564039457584007913129639936) : nO N (U n) = some (decide (n = 0)) := by
 unfold nO
 rw [bI]
 simp only [Option.bind_some]
 rw [← wF,aCi hn (by omega)]
theorem aHY {N e : Nat} (he : e < 115792089237316195423570985008687907853269984665640564039457584007913129639936) : ∀ (f k : Nat),k < f → k ≤ 256 → e < 2 ^ k → ∃ n : Nat,n ≤ 256 ∧ e < 2 ^ n ∧ ((oI N (U e) f ((k : Int) - 1)).bind fun q => match q with | .ret v => some v | .brk _ => yB N) = some (n : Int)
 | f + 1,0,_,_,h => by
  refine ⟨0,by omega,h, ?_⟩
  rfl
 | f + 1,k + 1,hf,hk,h => by
  unfold oI
  rw [show (((k + 1 : Nat) : Int) - 1) = (k : Int) by omega,if_pos (decide_eq_true (by omega)),bI]
  simp only [Option.bind_some]
  rw [aGS he (by omega)]
  simp only [Option.bind_some]
  by_cases hb : e / 2 ^ k % 2 = 1
  ·rw [if_pos (decide_eq_true hb)]
   refine ⟨k + 1,by omega,h, ?_⟩
   simp only [Option.bind_some]
   rw [cG (by omega) (by omega)]
   rfl
  ·rw [if_neg (by simpa using hb),cG (by omega) (by omega)]
   refine aHY he f k (by omega) (by omega) ?_
   have h1 : e / 2 ^ k < 2 := by
    rw [Nat.div_lt_iff_lt_mul (Nat.pow_pos (by omega))]
    rw [Nat.pow_succ] at h
    omega
   have h2 : e / 2 ^ k = 0 := by revert h1 hb; generalize e / 2 ^ k = q; intro h1 hb; omega
   exact (Nat.div_eq_zero_iff.1 h2).resolve_left (by have := Nat.pow_pos (n := k) (show 0 < 2 by omega); omega)
theorem aQR {N e : Nat} (hN : 70000 ≤ N) (he : e < 115792089237316195423570985008687907853269984665640564039457584007913129639936) : ∃ n : Nat,n ≤ 256 ∧ e < 2 ^ n ∧ aCp N (U e) = some (n : Int) := by
 obtain ⟨n,h1,h2,h3⟩ := aHY (N := N) he N 256 (by omega) (by omega) (by rw [aC2]; exact he)
 exact ⟨n,h1,h2,h3⟩
theorem aLE (x y c : Int) : q8 x y c = q8 y x c := by
 unfold q8
 rw [Nat.add_comm x.toNat y.toNat]
theorem aKY (N : Nat) (a b : List Int) (i : Int) : ∀ (m : Nat) (c x : Int) (l : List Int),oY N a b i m c x l = cO N a b i m c x l
 | 0,_,_,_ => rfl
 | m + 1,c,x,l => by
  unfold oY cO
  simp only [aKY N a b i m,dB]
  split
  ·refine congrArg _ (funext fun p => congrArg _ (funext fun q => congrArg _ (funext fun r => congrArg _ (funext fun t => ?_))))
   rw [aLE t r.2 0]
  ·rfl
theorem aLa (N : Nat) (a b : List Int) : ∀ (m : Nat) (x : Int) (l : List Int),kG N a b m x l = i9 N a b m x l
 | 0,_,_ => rfl
 | m + 1,x,l => by
  unfold kG i9
  simp only [aKY,y7,y5,vY,v6,aLa N a b m]
theorem aPp (N : Nat) (l : List Int) : uB N l = wL N l := by
 by_cases h : l.length = 8
 ·match l,h with
  | [a,b,c,d,e,f,g,h],_ => rfl
 ·unfold uB wL
  simp only [aX,if_neg h,Option.bind_none]
theorem aSO (N : Nat) (a b : List Int) : aAY N a b = xF N a b := by
 unfold aAY xF
 rw [aLa]
 exact congrArg _ (funext fun l => aPp N l)
theorem aRf {n : Nat} (h2 : n % 2 = 0) (hn : n < 115792089237316195423570985008687907853269984665640564039457584007913129639936) : ∃ x : Int,bJ 4 (U n) 0 = some x ∧ (U n).set (Int.toNat 0) (bits .or .u64 x 1) = U (n + 1) := by
 refine ⟨_,rfl, ?_⟩
 have h1 : bits .or .u64 ((n % 18446744073709551616 : Nat) : Int) 1 = (((n + 1) % 18446744073709551616 : Nat) : Int) := by
  rw [show (1 : Int) = ((1 : Nat) : Int) from rfl,wE (k := .u64) rfl _ 1 (show n % 18446744073709551616 < 2 ^ 64 by omega) (by decide)]
  congr 1
  have h3 : n % 18446744073709551616 = 2 * (n % 18446744073709551616 / 2) := by omega
  rw [h3,show 2 * (n % 18446744073709551616 / 2) ||| 1 = 2 * (n % 18446744073709551616 / 2) + 1 from by
   have := Nat.two_pow_add_eq_or_of_lt (i := 1) (b := 1) (by decide) (n % 18446744073709551616 / 2)
   simpa using this.symm]
  omega
 show [bits .or .u64 ((n % 18446744073709551616 : Nat) : Int) 1,((n / 18446744073709551616 % 18446744073709551616 : Nat) : Int),((n / 340282366920938463463374607431768211456 % 18446744073709551616 : Nat) : Int),((n / 6277101735386680763835789423207666416102355444464034512896 % 18446744073709551616 : Nat) : Int)] = U (n + 1)
 rw [h1]
 unfold U w4
 rw [show (n + 1) / 18446744073709551616 = n / 18446744073709551616 by omega,show (n + 1) / 340282366920938463463374607431768211456 = n / 340282366920938463463374607431768211456 by omega,show (n + 1) / 6277101735386680763835789423207666416102355444464034512896 = n / 6277101735386680763835789423207666416102355444464034512896 by omega]
section
variable {N : Nat} (hN : 70000 ≤ N) {b : Nat} (hb : b < 115792089237316195423570985008687907853269984665640564039457584007913129639936) (hb0 : 0 < b)
include hN hb hb0
theorem aTy {q : List Int} (hq : q.length = 4) {k : Nat} (hk : k < 256) : ∃ x y : Int,bJ 4 q (IntKind.i64.wrap (Int.tdiv (k : Int) 64)) = some x ∧ shl .u64 1 (Int.tmod (k : Int) 64) = some y := by
 have hd : Int.tdiv (k : Int) 64 = ((k / 64 : Nat) : Int) := sS k 64
 have hm : Int.tmod (k : Int) 64 = ((k % 64 : Nat) : Int) := sU k 64
 rw [hd,hm,cG (by omega) (by omega)]
 refine ⟨q[k / 64]'(by omega),_, ?_,aC7 (k := .u64) rfl 1 (k % 64)⟩
 unfold bJ
 rw [if_pos (show ((k / 64 : Nat) : Int) < ((4 : Nat) : Int) by omega)]
 exact b9 q (by omega)
theorem aHO {lo : Nat} (hlo : lo < 115792089237316195423570985008687907853269984665640564039457584007913129639936) : ∀ (f k r : Nat) (q : List Int),k < f → k ≤ 256 → r < b → q.length = 4 → ∃ q',q'.length = 4 ∧ eC N (U lo) (U b) f ((k : Int) - 1) q (U r) = some (q',U ((r * 2 ^ k + lo % 2 ^ k) % b))
 | f + 1,0,r,q,_,_,hr,hq => by
  refine ⟨q,hq, ?_⟩
  rw [show (r * 2 ^ 0 + lo % 2 ^ 0) % b = r by rw [Nat.pow_zero,Nat.mod_one]; simpa using Nat.mod_eq_of_lt hr]
  rfl
 | f + 1,k + 1,r,q,hf,hk,hr,hq => by
  have key : ∀ t : Nat,t ≤ 1 → lo / 2 ^ k % 2 = t → ∀ q1 : List Int,q1.length = 4 → ∃ q',q'.length = 4 ∧ eC N (U lo) (U b) f ((k : Int) - 1) q1 (U ((2 * r + t) % b)) = some (q',U ((r * 2 ^ (k + 1) + lo % 2 ^ (k + 1)) % b)) := by
   intro t ht hbit q1 hq1
   obtain ⟨q',h1,h2⟩ := aHO hlo f k ((2 * r + t) % b) q1 (by omega) (by omega) (Nat.mod_lt _ hb0) hq1
   refine ⟨q',h1, ?_⟩
   rw [h2,aFC,show lo % 2 ^ (k + 1) = t * 2 ^ k + lo % 2 ^ k from by rw [Nat.pow_succ,Nat.mod_mul,hbit,Nat.add_comm,Nat.mul_comm],show r * 2 ^ (k + 1) + (t * 2 ^ k + lo % 2 ^ k) = (2 * r + t) * 2 ^ k + lo % 2 ^ k from by rw [Nat.pow_succ,Nat.add_mul,Nat.mul_comm (2 ^ k) 2,← Nat.mul_assoc,Nat.mul_comm r 2,Nat.add_assoc]]
  have hr4 : r < 115792089237316195423570985008687907853269984665640564039457584007913129639936 := by omega
  have fin : ∀ t : Nat,t ≤ 1 → lo / 2 ^ k % 2 = t → ∃ q',q'.length = 4 ∧ r4 N (U lo) (U b) (k : Int) q (decide (r / 2 ^ 255 % 2 = 1)) (eC N (U lo) (U b) f) (U ((2 * r + t) % 115792089237316195423570985008687907853269984665640564039457584007913129639936)) = some (q',U ((r * 2 ^ (k + 1) + lo % 2 ^ (k + 1)) % b)) := by
   intro t ht hbit
   have hx : (2 * r + t) % 115792089237316195423570985008687907853269984665640564039457584007913129639936 < 115792089237316195423570985008687907853269984665640564039457584007913129639936 := Nat.mod_lt _ (by omega)
   obtain ⟨y,z,e1,e2⟩ := aTy hN hb hb0 hq (show k < 256 by omega)
   have sub : ∀ (h : 115792089237316195423570985008687907853269984665640564039457584007913129639936 ≤ 2 * r + t ∨ b ≤ 2 * r + t),∃ q',q'.length = 4 ∧ oB N (U lo) (U b) (k : Int) q (U ((2 * r + t) % 115792089237316195423570985008687907853269984665640564039457584007913129639936)) (eC N (U lo) (U b) f) true = some (q',U ((r * 2 ^ (k + 1) + lo % 2 ^ (k + 1)) % b)) := by
    intro h
    have hb2 : b ≤ 2 * r + t := by omega
    have hm : (2 * r + t) % b = 2 * r + t - b := by rw [Nat.mod_eq_sub_mod hb2,Nat.mod_eq_of_lt (by omega)]
    have hs : ((2 * r + t) % 115792089237316195423570985008687907853269984665640564039457584007913129639936 + 115792089237316195423570985008687907853269984665640564039457584007913129639936 - b) % 115792089237316195423570985008687907853269984665640564039457584007913129639936 = (2 * r + t) % b := by rw [hm]; omega
    unfold oB
    rw [if_pos rfl,bI,Option.bind_some,aI4 hN hx hb,Option.bind_some,hs]
    simp only [bI,Option.bind_some,e1,e2,rZ]
    rw [cG (by omega) (by omega)]
    exact key t ht hbit _ (by rw [List.length_set]; exact hq)
   unfold r4
   by_cases ho : r / 2 ^ 255 % 2 = 1
   ·rw [if_pos (decide_eq_true ho)]
    exact sub (.inl (by omega))
   ·rw [if_neg (by simpa using ho),bI,Option.bind_some,aLi,y9 hN hx hb,Option.bind_some,aGA]
    have hnw : 2 * r + t < 115792089237316195423570985008687907853269984665640564039457584007913129639936 := by omega
    by_cases hc : b ≤ (2 * r + t) % 115792089237316195423570985008687907853269984665640564039457584007913129639936
    ·rw [decide_eq_true hc]
     exact sub (.inr (by omega))
    ·rw [decide_eq_false hc]
     rw [Nat.mod_eq_of_lt hnw] at hc ⊢
     unfold oB
     simp only [Bool.false_eq_true,if_false,rZ]
     rw [cG (by omega) (by omega)]
     have := key t ht hbit q hq
     rwa [Nat.mod_eq_of_lt (show 2 * r + t < b by omega)] at this
  have h255 : mN N (U r) 255 = some (decide (r / 2 ^ 255 % 2 = 1)) := aGS (j := 255) hr4 (by omega)
  unfold eC
  rw [show (((k + 1 : Nat) : Int) - 1) = (k : Int) by omega,if_pos (decide_eq_true (by omega)),bI,Option.bind_some,h255,Option.bind_some,aMz hN hr4 hr4,Option.bind_some]
  simp only [bI,Option.bind_some]
  rw [aGS hlo (show k < 256 by omega),Option.bind_some,show r + r = 2 * r by omega]
  by_cases hbit : lo / 2 ^ k % 2 = 1
  ·rw [if_pos (decide_eq_true hbit)]
   obtain ⟨x,h1,h2⟩ := aRf (n := 2 * r % 115792089237316195423570985008687907853269984665640564039457584007913129639936) (by omega) (by omega)
   rw [h1,Option.bind_some,h2,show 2 * r % 115792089237316195423570985008687907853269984665640564039457584007913129639936 + 1 = (2 * r + 1) % 115792089237316195423570985008687907853269984665640564039457584007913129639936 by omega]
   exact fin 1 (by omega) hbit
  ·rw [if_neg (by simpa using hbit)]
   exact fin 0 (by omega) (by omega)
theorem aMw {hi lo : Nat} (hh : hi < b) (hl : lo < 115792089237316195423570985008687907853269984665640564039457584007913129639936) : ∃ q',q'.length = 4 ∧ xO N (U hi) (U lo) (U b) = some (q',U ((hi * 115792089237316195423570985008687907853269984665640564039457584007913129639936 + lo) % b),true) := by
 obtain ⟨q',h1,h2⟩ := aHO hN hb hb0 hl N 256 hi (List.replicate 4 0) (by omega) (by omega) hh rfl
 refine ⟨q',h1, ?_⟩
 rw [aC2,Nat.mod_eq_of_lt hl] at h2
 unfold xO
 rw [bI,Option.bind_some,bI,Option.bind_some,aLi,y9 hN hb (by omega),Option.bind_some,aOY,decide_eq_false (by omega)]
 simp only [Bool.false_eq_true,if_false]
 rw [show eC N (U lo) (U b) N 255 (List.replicate 4 0) (U hi) = _ from h2,Option.bind_some]
 simp only [zI,vP h1,bI,Option.bind_some]
theorem aAP {a : Nat} (ha : a < 115792089237316195423570985008687907853269984665640564039457584007913129639936) : kI N (U a) (U b) = some (U (a % b)) := by
 obtain ⟨q',h1,h2⟩ := aMw hN hb hb0 (hi := 0) hb0 ha
 rw [Nat.zero_mul,Nat.zero_add] at h2
 unfold kI
 rw [bI,Option.bind_some,bI,Option.bind_some,← wF,h2,Option.bind_some]
 simp only [vP h1,bI,Option.bind_some]
theorem aEf {x y : Nat} (hx : x < 115792089237316195423570985008687907853269984665640564039457584007913129639936) (hy : y < 115792089237316195423570985008687907853269984665640564039457584007913129639936) : oO N (U x) (U y) (U b) = some (U (x * y % b)) := by
 have hxb : x % b < b := Nat.mod_lt _ hb0
 have hyb : y % b < b := Nat.mod_lt _ hb0
 have hp : x % b * (y % b) / 115792089237316195423570985008687907853269984665640564039457584007913129639936 < b := by
  rw [Nat.div_lt_iff_lt_mul (by omega)]
  exact Nat.lt_of_lt_of_le (Nat.mul_lt_mul_of_lt_of_lt hxb hyb) (Nat.mul_le_mul_left _ (by omega))
 obtain ⟨q',h1,h2⟩ := aMw hN hb hb0 hp (Nat.mod_lt (x % b * (y % b)) (show 0 < 115792089237316195423570985008687907853269984665640564039457584007913129639936 by omega))
 rw [Nat.mul_comm (x % b * (y % b) / _),Nat.div_add_mod,← Nat.mul_mod] at h2
 unfold oO
 rw [bI,Option.bind_some,aCS hb,Option.bind_some,decide_eq_false (by omega)]
 simp only [Bool.false_eq_true,if_false,bI,Option.bind_some,aAP hN hb hb0 hx,aAP hN hb hb0 hy,aSO,aO0 hN (show x % b < 115792089237316195423570985008687907853269984665640564039457584007913129639936 by omega) (show y % b < 115792089237316195423570985008687907853269984665640564039457584007913129639936 by omega),h2,vP h1]
theorem aMy {x y : Nat} (hx : x < 115792089237316195423570985008687907853269984665640564039457584007913129639936) (hy : y < 115792089237316195423570985008687907853269984665640564039457584007913129639936) : uV N (U x) (U y) (U b) = some (U ((x + y) % b)) := by
 have hxb : x % b < b := Nat.mod_lt _ hb0
 have hyb : y % b < b := Nat.mod_lt _ hb0
 have hs := Nat.add_mod x y b
 unfold uV
 rw [bI,Option.bind_some,aCS hb,Option.bind_some,decide_eq_false (by omega)]
 simp only [Bool.false_eq_true,if_false,bI,Option.bind_some,aAP hN hb hb0 hx,aAP hN hb hb0 hy,aMz hN (show x % b < 115792089237316195423570985008687907853269984665640564039457584007913129639936 by omega) (show y % b < 115792089237316195423570985008687907853269984665640564039457584007913129639936 by omega)]
 have sub : b ≤ x % b + y % b → kF N (U b) (U ((x % b + y % b) % 115792089237316195423570985008687907853269984665640564039457584007913129639936),decide (115792089237316195423570985008687907853269984665640564039457584007913129639936 ≤ x % b + y % b)) true = some (U ((x + y) % b)) := by
  intro h
  have hm : (x + y) % b = x % b + y % b - b := by rw [hs,Nat.mod_eq_sub_mod h,Nat.mod_eq_of_lt (by omega)]
  unfold kF
  rw [if_pos rfl,aI4 hN (Nat.mod_lt _ (by omega)) hb,Option.bind_some]
  simp only [bI,Option.bind_some,mU]
  rw [hm]
  congr 2
  omega
 by_cases ho : 115792089237316195423570985008687907853269984665640564039457584007913129639936 ≤ x % b + y % b
 ·rw [if_pos (decide_eq_true ho)]
  exact sub (by omega)
 ·rw [if_neg (by simpa using ho),aLi,y9 hN (Nat.mod_lt _ (by omega)) hb,Option.bind_some,aGA]
  by_cases hc : b ≤ (x % b + y % b) % 115792089237316195423570985008687907853269984665640564039457584007913129639936
  ·rw [decide_eq_true hc]
   exact sub (by omega)
  ·rw [decide_eq_false hc]
   unfold kF
   simp only [Bool.false_eq_true,if_false,bI,Option.bind_some,mU]
   rw [hs,Nat.mod_eq_of_lt (show x % b + y % b < 115792089237316195423570985008687907853269984665640564039457584007913129639936 by omega),Nat.mod_eq_of_lt (show x % b + y % b < b by omega)]
end
section
variable {N : Nat} (hN : 70000 ≤ N) {b : Nat} (hb : b < 115792089237316195423570985008687907853269984665640564039457584007913129639936) (hb0 : 0 < b)
include hN hb hb0
theorem aHV {a e : Nat} (ha : a < 115792089237316195423570985008687907853269984665640564039457584007913129639936) (he : e < 115792089237316195423570985008687907853269984665640564039457584007913129639936) : ∀ (f k : Nat),k < f → k ≤ 256 → gM N (U a) (U e) (U b) f ((k : Int) - 1) (U (a ^ (e / 2 ^ k) % b)) = some (U (a ^ e % b))
 | f + 1,0,_,_ => by rw [Nat.pow_zero,Nat.div_one]; rfl
 | f + 1,k + 1,hf,hk => by
  have ih := aHV ha he f k (by omega) (by omega)
  have hs := aFu a b (e / 2 ^ k)
  have hd : e / 2 ^ (k + 1) = e / 2 ^ k / 2 := by rw [Nat.pow_succ,Nat.div_div_eq_div_mul]
  rw [hd]
  generalize hT : a ^ (e / 2 ^ k / 2) % b = T at *
  have hTb : T < b := hT ▸ Nat.mod_lt _ hb0
  have hTT : T * T % b < b := Nat.mod_lt _ hb0
  unfold gM
  rw [show (((k + 1 : Nat) : Int) - 1) = (k : Int) by omega,if_pos (decide_eq_true (by omega)),bI,Option.bind_some,aEf hN hb hb0 (show T < 115792089237316195423570985008687907853269984665640564039457584007913129639936 by omega) (show T < 115792089237316195423570985008687907853269984665640564039457584007913129639936 by omega),Option.bind_some,bI,Option.bind_some,aGS he (show k < 256 by omega),Option.bind_some]
  by_cases hbit : e / 2 ^ k % 2 = 1
  ·rw [if_pos hbit] at hs
   rw [if_pos (decide_eq_true hbit),bI,Option.bind_some,aEf hN hb hb0 (show T * T % b < 115792089237316195423570985008687907853269984665640564039457584007913129639936 by omega) ha,Option.bind_some,bI,Option.bind_some,hs]
   unfold mO
   rw [cG (by omega) (by omega)]
   exact ih
  ·rw [if_neg hbit,Nat.mul_one,Nat.mod_mod] at hs
   rw [if_neg (by simpa using hbit),hs]
   unfold mO
   rw [cG (by omega) (by omega)]
   exact ih
theorem aM2 {a e : Nat} (ha : a < 115792089237316195423570985008687907853269984665640564039457584007913129639936) (he : e < 115792089237316195423570985008687907853269984665640564039457584007913129639936) : uS N (U a) (U e) (U b) = some (U (a ^ e % b)) := by
 obtain ⟨n,h1,h2,h3⟩ := aQR hN he
 have hl := aHV hN hb hb0 ha he N n (by omega) h1
 rw [Nat.div_eq_of_lt h2,Nat.pow_zero] at hl
 unfold uS
 rw [bI,Option.bind_some,aCS hb,Option.bind_some,decide_eq_false (by omega)]
 simp only [Bool.false_eq_true,if_false]
 rw [show iM N 1 = some (U 1) from rfl,Option.bind_some,aAP hN hb hb0 (by omega),Option.bind_some,bI,Option.bind_some,bI,Option.bind_some,h3,Option.bind_some,cG (by omega) (by omega),hl,Option.bind_some]
 rfl
end
section
variable {N : Nat} (hN : 70000 ≤ N)
theorem aKO (N : Nat) (hN : 70000 ≤ N) : pI N = some (U 115792089237316195423570985008687907853269984665640564039457584007913129603823) := by
 unfold pI
 rw [show iM N 36113 = some (U 36113) from rfl,Option.bind_some,← wF,aI4 hN (by omega) (by omega),Option.bind_some,bI,Option.bind_some]
theorem aKd (N : Nat) (va : List Int) (n : Int) : ∀ (f f' : Nat) (i : Int) (l r : List Int),f ≤ f' → iG 0 va n f i l = some r → iG N va n f' i l = some r
 | 0,_,_,_,_,_,h => by cases h
 | f + 1,0,_,_,_,hf,_ => by omega
 | f + 1,f' + 1,i,l,r,hf,h => by
  have ih := aKd N va n f f'
  unfold iG at h ⊢
  split at h
  ·rename_i hc
   rw [if_pos hc]
   obtain ⟨q,h1,h⟩ := Option.bind_eq_some_iff.1 h
   obtain ⟨x,h2,h⟩ := Option.bind_eq_some_iff.1 h
   rw [h1,Option.bind_some,show mN N va (IntKind.i64.wrap (i + n)) = some x from h2,Option.bind_some]
   split at h
   ·rename_i hx
    rw [if_pos hx]
    obtain ⟨y,h3,h⟩ := Option.bind_eq_some_iff.1 h
    obtain ⟨z,h4,h⟩ := Option.bind_eq_some_iff.1 h
    rw [h3,Option.bind_some,h4,Option.bind_some]
    exact ih _ _ _ (by omega) h
   ·rename_i hx
    rw [if_neg hx]
    exact ih _ _ _ (by omega) h
  ·rename_i hc
   rw [if_neg hc]
   exact h
theorem aQ2 : iG 0 (U 115792089237316195423570985008687907853269984665640564039457584007913129603823) 1 300 0 (List.replicate 4 0) = some (U 57896044618658097711785492504343953926634992332820282019728792003956564801911) := by decide +kernel
theorem aHq (N : Nat) (hN : 70000 ≤ N) : qT N = some (U 57896044618658097711785492504343953926634992332820282019728792003956564801911) := by
 unfold qT
 rw [aKO N hN,Option.bind_some]
 unfold aCj
 rw [if_neg (by decide),if_neg (by decide),aKd N _ 1 300 N 0 _ _ (by omega) aQ2,Option.bind_some]
 rfl
include hN
theorem aQL {a e : Nat} (ha : a < 115792089237316195423570985008687907853269984665640564039457584007913129639936) (he : e < 115792089237316195423570985008687907853269984665640564039457584007913129639936) : aAX N (U a) (U e) = some (U (a ^ e % 115792089237316195423570985008687907853269984665640564039457584007913129603823)) := by
 unfold aAX
 rw [bI,Option.bind_some,bI,Option.bind_some,aKO N hN,Option.bind_some,aM2 hN (by omega) (by omega) ha he,Option.bind_some,bI,Option.bind_some]
theorem aFp {e : Nat} (he : e < 115792089237316195423570985008687907853269984665640564039457584007913129639936) : qR N (U e) = some (U (4 ^ e % 115792089237316195423570985008687907853269984665640564039457584007913129603823)) := by
 unfold qR
 rw [show iM N 4 = some (U 4) from rfl,Option.bind_some,bI,Option.bind_some,aQL hN (by omega) he,Option.bind_some,bI,Option.bind_some]
theorem aD3 {a b : Nat} (ha : a < 115792089237316195423570985008687907853269984665640564039457584007913129639936) (hb : b < 115792089237316195423570985008687907853269984665640564039457584007913129639936) : mR N (U a) (U b) = some (U ((a + b) % 57896044618658097711785492504343953926634992332820282019728792003956564801911)) := by
 unfold mR
 rw [bI,Option.bind_some,bI,Option.bind_some,aHq N hN,Option.bind_some,aMy hN (by omega) (by omega) ha hb,Option.bind_some,bI,Option.bind_some]
theorem aJr {a b : Nat} (ha : a < 115792089237316195423570985008687907853269984665640564039457584007913129639936) (hb : b < 115792089237316195423570985008687907853269984665640564039457584007913129639936) : pO N (U a) (U b) = some (U (a * b % 57896044618658097711785492504343953926634992332820282019728792003956564801911)) := by
 unfold pO
 rw [bI,Option.bind_some,bI,Option.bind_some,aHq N hN,Option.bind_some,aEf hN (by omega) (by omega) ha hb,Option.bind_some,bI,Option.bind_some]
theorem aMj {x : Nat} (hx : x < 115792089237316195423570985008687907853269984665640564039457584007913129639936) : uM N (U x) = some (!decide (x = 0) && decide (x < 57896044618658097711785492504343953926634992332820282019728792003956564801911)) := by
 unfold uM
 rw [bI,Option.bind_some,aCS hx,Option.bind_some]
 by_cases h : x = 0
 ·rw [decide_eq_true h]; rfl
 ·rw [decide_eq_false h]
  simp only [Bool.not_false,if_true,Bool.true_and]
  rw [aHq N hN,Option.bind_some,aLi,y9 hN hx (by omega),Option.bind_some,aLL]
  rfl
theorem aEC {x : Nat} (h0 : x ≠ 0) (hx : x < 57896044618658097711785492504343953926634992332820282019728792003956564801911) : oH N (U x) = some (U (4 ^ x % 115792089237316195423570985008687907853269984665640564039457584007913129603823),0) := by
 unfold oH
 rw [bI,Option.bind_some,aMj hN (by omega),Option.bind_some,decide_eq_false h0,decide_eq_true hx]
 simp only [Bool.not_false,Bool.and_self,Bool.not_true,Bool.false_eq_true,if_false]
 rw [aFp hN (by omega),Option.bind_some,bI,Option.bind_some]
end
abbrev gP : Nat := 115792089237316195423570985008687907853269984665640564039457584007913129603823
abbrev gQ : Nat := 57896044618658097711785492504343953926634992332820282019728792003956564801911
def pm (a p : Nat) : Nat → Nat → Nat
 | 0,_ => 1 % p
 | k + 1,e => if e = 0 then 1 % p else pm a p k (e / 2) * pm a p k (e / 2) % p * (if e % 2 = 1 then a else 1) % p
theorem aLW (a p : Nat) : ∀ (k e : Nat),e < 2 ^ k → pm a p k e = a ^ e % p
 | 0,e,h => by
  obtain rfl : e = 0 := by simp at h; exact h
  rfl
 | k + 1,e,h => by
  unfold pm
  by_cases h0 : e = 0
  ·rw [if_pos h0,h0]; rfl
  ·rw [if_neg h0,aLW a p k (e / 2) (by rw [Nat.pow_succ] at h; omega)]
   exact aFu a p e
def pm' (a p : Nat) : Nat → Nat → Nat
 | 0,_ => 1 % p
 | k + 1,e => if e = 0 then 1 % p else (fun t => t * t % p * (if e % 2 = 1 then a else 1) % p) (pm' a p k (e / 2))
theorem aKb (a p : Nat) : ∀ (k e : Nat),pm' a p k e = pm a p k e
 | 0,_ => rfl
 | k + 1,e => by unfold pm' pm; simp only [aKb a p k (e / 2)]
theorem aQO : 4 ^ gQ % gP = 1 := by
 rw [← aLW 4 gP 256 gQ (by decide +kernel),← aKb]
 decide +kernel
theorem aJM (k : Nat) : 4 ^ (gQ * k) % gP = 1 := by
 rw [Nat.pow_mul,Nat.pow_mod,aQO,Nat.one_pow]
 exact Nat.mod_eq_of_lt (by decide)
theorem aFs (a : Nat) : 4 ^ a % gP = 4 ^ (a % gQ) % gP := by
 conv => lhs; rw [← Nat.div_add_mod a gQ,Nat.pow_add,Nat.mul_mod,aJM,Nat.one_mul,Nat.mod_mod]
theorem aLN {a b : Nat} (h : a % gQ = b % gQ) : 4 ^ a % gP = 4 ^ b % gP := by rw [aFs a,aFs b,h]
theorem aKS (x e : Nat) : (4 ^ x % gP) ^ e % gP = 4 ^ (x * e) % gP := by rw [← Nat.pow_mod,Nat.pow_mul]
theorem aO1 (x : Nat) : (4 ^ x % gP) ^ gQ % gP = 1 := by rw [aKS,Nat.mul_comm,aJM]
theorem aQb (x : Nat) : 4 ^ x % gP ≠ 0 := by
 intro h
 have := aO1 x
 rw [h] at this
 have h2 : (0 : Nat) ^ gQ = 0 := Nat.zero_pow (by decide)
 rw [h2] at this
 exact absurd this (by decide +kernel)
theorem aPQ {k c x : Nat} (hc : c ≤ gQ) : (4 ^ ((k + c * x) % gQ) % gP) * ((4 ^ x % gP) ^ (gQ - c) % gP) % gP = 4 ^ k % gP := by
 rw [← aFs,aKS,← Nat.mul_mod,← Nat.pow_add]
 apply aLN
 have h1 : x * (gQ - c) = x * gQ - x * c := Nat.mul_sub ..
 have h2 : x * c ≤ x * gQ := Nat.mul_le_mul_left _ hc
 have h3 : k + c * x + x * (gQ - c) = k + gQ * x := by
  rw [h1,Nat.mul_comm c x,Nat.mul_comm gQ x]; omega
 rw [h3,Nat.add_mul_mod_self_left]
theorem cY {α : Type} {n : Nat} {l : List α} {i : Nat} (h : i < n) (hl : i < l.length) : bJ n l (i : Int) = some l[i] := by
 unfold bJ; rw [if_pos (by omega),b9 l hl]
theorem cR {α : Type} {n : Nat} {l : List α} (h : l.length = n) : aX n l = some l := by unfold aX; rw [if_pos h]
theorem wD (N : Nat) (x n s : Int) (hs : bits .and .u64 (IntKind.u64.wrap (IntKind.i64.wrap (0 - n))) 31 = s) (h0 : 0 ≤ s) (h1 : s ≤ 32) : ∃ y,cX N x n = some y := by
 unfold cX i8
 rw [hs,wZ (a := 32 - s) (by omega) (by omega)]
 unfold shl shr
 rw [if_neg (by omega),if_neg (by omega)]
 exact ⟨_,rfl⟩
def rv (N : Nat) (x n : Int) : Int := (cX N x n).getD 0
theorem aAC {N : Nat} {x n : Int} (h : ∃ y,cX N x n = some y) : cX N x n = some (rv N x n) := by obtain ⟨y,h⟩ := h; simp [rv,h]
theorem rv2 (N : Nat) (x : Int) : cX N x 2 = some (rv N x 2) := aAC (wD N x 2 30 (by decide +kernel) (by omega) (by omega))
theorem rv6 (N : Nat) (x : Int) : cX N x 6 = some (rv N x 6) := aAC (wD N x 6 26 (by decide +kernel) (by omega) (by omega))
theorem rv7 (N : Nat) (x : Int) : cX N x 7 = some (rv N x 7) := aAC (wD N x 7 25 (by decide +kernel) (by omega) (by omega))
theorem aTf (N : Nat) (x : Int) : cX N x 11 = some (rv N x 11) := aAC (wD N x 11 21 (by decide +kernel) (by omega) (by omega))
theorem aSJ (N : Nat) (x : Int) : cX N x 13 = some (rv N x 13) := aAC (wD N x 13 19 (by decide +kernel) (by omega) (by omega))
theorem aSC (N : Nat) (x : Int) : cX N x 17 = some (rv N x 17) := aAC (wD N x 17 15 (by decide +kernel) (by omega) (by omega))
theorem aTE (N : Nat) (x : Int) : cX N x 18 = some (rv N x 18) := aAC (wD N x 18 14 (by decide +kernel) (by omega) (by omega))
theorem aSD (N : Nat) (x : Int) : cX N x 19 = some (rv N x 19) := aAC (wD N x 19 13 (by decide +kernel) (by omega) (by omega))
theorem aSx (N : Nat) (x : Int) : cX N x 22 = some (rv N x 22) := aAC (wD N x 22 10 (by decide +kernel) (by omega) (by omega))
theorem aTv (N : Nat) (x : Int) : cX N x 25 = some (rv N x 25) := aAC (wD N x 25 7 (by decide +kernel) (by omega) (by omega))
theorem aTA (x : Int) : shr .u32 x 3 = some (x.fdiv (2 ^ (min (3 : Int).toNat 32))) := by unfold shr; rw [if_neg (by omega)]; rfl
theorem aSd (x : Int) : shr .u32 x 10 = some (x.fdiv (2 ^ (min (10 : Int).toNat 32))) := by unfold shr; rw [if_neg (by omega)]; rfl
theorem sL3 (N : Nat) : ∀ (m j : Nat) (l : List Int),l.length = 64 → 16 ≤ j → j ≤ 64 → 64 - j < m → ∃ r,gO N m (j : Int) l = some r ∧ r.length = 64
 | 0,j,l,_,_,_,hm => by omega
 | m + 1,j,l,hl,h1,h2,hm => by
  rw [gO]
  by_cases h : j < 64
  ·rw [show decide ((j : Int) < 64) = true from decide_eq_true (by omega),if_pos rfl]
   rw [cG (a := (j : Int) - 15) (by omega) (by omega),show (j : Int) - 15 = ((j - 15 : Nat) : Int) by omega,cY (show j - 15 < 64 by omega) (by omega)]
   rw [cG (a := (j : Int) - 2) (by omega) (by omega),show (j : Int) - 2 = ((j - 2 : Nat) : Int) by omega,cY (show j - 2 < 64 by omega) (by omega)]
   rw [cG (a := (j : Int) - 16) (by omega) (by omega),show (j : Int) - 16 = ((j - 16 : Nat) : Int) by omega,cY (show j - 16 < 64 by omega) (by omega)]
   rw [cG (a := (j : Int) - 7) (by omega) (by omega),show (j : Int) - 7 = ((j - 7 : Nat) : Int) by omega,cY (show j - 7 < 64 by omega) (by omega)]
   rw [cY h (by omega)]
   simp only [Option.bind_some,rv7,aTE,aSC,aSD,aTA,aSd,i1 (show j ≤ 100000 by omega)]
   exact sL3 N m (j + 1) _ (by rw [List.length_set]; exact hl) (by omega) (by omega) (by omega)
  ·rw [show decide ((j : Int) < 64) = false from decide_eq_false (by omega)]
   exact ⟨l,rfl,hl⟩
theorem cL2 (N : Nat) (st w : List Int) (hw : w.length = 64) : ∀ (m j : Nat) (a b c d e f g h : Int),j ≤ 64 → 64 - j < m → ∃ r,gR N st w m a b c d e f g h (j : Int) = some r
 | 0,j,_,_,_,_,_,_,_,_,_,hm => by omega
 | m + 1,j,a,b,c,d,e,f,g,h,hj,hm => by
  rw [gR]
  by_cases h1 : j < 64
  ·rw [show decide ((j : Int) < 64) = true from decide_eq_true (by omega),if_pos rfl,cY h1 (show j < aCF.length from h1),cY h1 (by omega)]
   simp only [Option.bind_some,rv2,rv6,aTf,aSJ,aSx,aTv,i1 (show j ≤ 100000 by omega)]
   exact cL2 N st w hw m (j + 1) _ _ _ _ _ _ _ _ (by omega) (by omega)
  ·rw [show decide ((j : Int) < 64) = false from decide_eq_false (by omega)]
   exact ⟨_,rfl⟩
def wd (b : List Nat) (i : Nat) : Nat := ((b.getD (4 * i) 0 * 256 + b.getD (4 * i + 1) 0) * 256 + b.getD (4 * i + 2) 0) * 256 + b.getD (4 * i + 3) 0
theorem xM {b : List Nat} (h : ∀ x ∈ b,x < 256) (i : Nat) : b.getD i 0 < 256 := by
 rw [List.getD_eq_getElem?_getD]
 rcases Nat.lt_or_ge i b.length with hi | hi
 ·rw [List.getElem?_eq_getElem hi]; exact h _ (List.getElem_mem hi)
 ·rw [List.getElem?_eq_none hi]; simp
theorem aG0 (a b k : Nat) (h : b < 2 ^ k) : a * 2 ^ k ||| b = a * 2 ^ k + b := by
 rw [Nat.mul_comm,← Nat.two_pow_add_eq_or_of_lt h]
theorem orU (a b : Nat) (ha : a < 4294967296) (hb : b < 4294967296) : bits .or .u32 (a : Int) (b : Int) = ((a ||| b : Nat) : Int) := wE rfl a b ha hb
theorem aQQ (a b : Nat) : shl .u32 (a : Int) (b : Int) = some ((a * 2 ^ b % 4294967296 : Nat) : Int) := aC7 rfl a b
theorem aEh {b : List Nat} {i : Nat} (hl : b.length = 64) (hi : i < 64) : bJ 64 (iN b) (i : Int) = some ((b.getD i 0 : Nat) : Int) := by
 rw [cY hi (by rw [aGJ]; omega)]
 have h1 : i < b.length := by omega
 simp [iN,h1]
theorem aEU (n : Nat) (h : n < 4294967296) : IntKind.u32.wrap (n : Int) = n := aSU (by omega) (by omega)
def aDB (b : List Nat) (j : Nat) (l : List Int) : List Int := (List.range' j (16 - j)).foldl (fun l i => l.set i ((wd b i : Nat) : Int)) l
theorem aMk (b : List Nat) (j : Nat) (l : List Int) : (aDB b j l).length = l.length := by
 unfold aDB
 generalize List.range' j (16 - j) = r
 induction r generalizing l with
 | nil => rfl
 | cons x r ih => rw [List.foldl_cons,ih,List.length_set]
section
variable (N : Nat) (b : List Nat) (hl : b.length = 64) (hb : ∀ x ∈ b,x < 256)
include hl hb
theorem sL6 (i : Nat) (hi : i < 16) (m j : Nat) (hj : j < 4) (l : List Int) (hll : l.length = 64) (v : Nat) (hv : v < 16777216) (hli : l[i]? = some (v : Int)) :
  dP N (iN b) (i : Int) (m + 1) (j : Int) l = dP N (iN b) (i : Int) m ((j + 1 : Nat) : Int) (l.set i ((v * 256 + b.getD (4 * i + j) 0 : Nat) : Int)) := by
 have hil : i < l.length := by omega
 have hbl := xM hb (4 * i + j)
 rw [dP,show decide ((j : Int) < 4) = true from decide_eq_true (by omega),if_pos rfl,cY (show i < 64 by omega) hil]
 rw [List.getElem?_eq_getElem hil] at hli
 rw [Option.some.inj hli,cG (a := 4 * (i : Int)) (by omega) (by omega),cG (a := 4 * (i : Int) + (j : Int)) (by omega) (by omega),show 4 * (i : Int) + (j : Int) = ((4 * i + j : Nat) : Int) by omega,aEh hl (by omega)]
 rw [show (8 : Int) = ((8 : Nat) : Int) from rfl]
 simp only [Option.bind_some,aQQ,Int.toNat_natCast,i1 (show j ≤ 100000 by omega)]
 rw [aEU _ (by omega),orU _ _ (Nat.mod_lt _ (by omega)) (by omega),Nat.mod_eq_of_lt (by omega),aG0 _ _ 8 (by omega)]
theorem aQq (i : Nat) (hi : i < 16) (l : List Int) (hll : l.length = 64) (hli : l[i]? = some 0) (hN : 10 ≤ N) : dP N (iN b) (i : Int) N 0 l = some (l.set i ((wd b i : Nat) : Int)) := by
 have g0 := xM hb (4 * i)
 have g1 := xM hb (4 * i + 1)
 have g2 := xM hb (4 * i + 2)
 have hil : i < l.length := by omega
 obtain ⟨m,hm⟩ : ∃ m,N = m + 5 := ⟨N - 5,by omega⟩
 have hfu : ∀ k,dP N (iN b) (i : Int) N k l = dP N (iN b) (i : Int) (m + 1 + 1 + 1 + 1 + 1) k l := fun k => by
  have : N = m + 1 + 1 + 1 + 1 + 1 := by omega
  exact congrArg (fun q => dP N (iN b) (i : Int) q k l) this
 rw [hfu,show (0 : Int) = ((0 : Nat) : Int) from rfl,sL6 N b hl hb i hi _ 0 (by omega) l hll 0 (by omega) hli]
 rw [sL6 N b hl hb i hi _ 1 (by omega) _ (by rw [List.length_set]; exact hll) (0 * 256 + b.getD (4 * i + 0) 0) (by simp only [Nat.add_zero]; omega) (List.getElem?_set_self hil),List.set_set]
 rw [sL6 N b hl hb i hi _ 2 (by omega) _ (by rw [List.length_set]; exact hll) _ (by simp only [Nat.add_zero]; omega) (List.getElem?_set_self hil),List.set_set]
 rw [sL6 N b hl hb i hi _ 3 (by omega) _ (by rw [List.length_set]; exact hll) _ (by simp only [Nat.add_zero]; omega) (List.getElem?_set_self hil),List.set_set]
 rw [dP]
 simp only [Nat.reduceAdd,show decide (((4 : Nat) : Int) < 4) = false from rfl,Bool.false_eq_true,if_false,wd,Nat.zero_mul,Nat.zero_add,Nat.add_zero]
omit hl hb in
theorem aHf {f : Nat → Int → List Int → Option (List Int)} (hs : ∀ (m j : Nat) (l : List Int),j < 16 → l.length = 64 → l[j]? = some 0 → f (m + 1) (j : Int) l = f m ((j + 1 : Nat) : Int) (l.set j ((wd b j : Nat) : Int))) (he : ∀ m l,f (m + 1) 16 l = some l) :
  ∀ (m j : Nat) (l : List Int),16 - j < m → j ≤ 16 → l.length = 64 → (∀ i,j ≤ i → i < 64 → l[i]? = some 0) → f m (j : Int) l = some (aDB b j l)
 | 0,j,l,hm,_,_,_ => by omega
 | m + 1,j,l,hm,hj,hll,hz => by
  by_cases h : j < 16
  ·rw [hs m j l h hll (hz j (Nat.le_refl _) (by omega)),aHf hs he m (j + 1) _ (by omega) (by omega) (by rw [List.length_set]; exact hll) (fun i h1 h2 => by rw [List.getElem?_set_ne (by omega)]; exact hz i (by omega) h2)]
   unfold aDB
   rw [show 16 - j = (16 - (j + 1)) + 1 by omega,List.range'_succ,List.foldl_cons]
  ·obtain rfl : j = 16 := by omega
   exact he m l
theorem sL4 (hN : 70000 ≤ N) : fR N (iN b) N 0 (List.replicate 64 0) = some (aDB b 0 (List.replicate 64 0)) := by
 refine aHf b (f := fR N (iN b)) (fun m j l hj hll hz => ?_) (fun m l => by rw [fR]; rfl) N 0 _ (by omega) (by omega) (by simp) (fun i _ hi => by rw [List.getElem?_replicate,if_pos hi])
 rw [fR,show decide ((j : Int) < 16) = true from decide_eq_true (by omega),if_pos rfl,aQq N b hl hb j hj l hll hz (by omega)]
 simp only [Option.bind_some,tT,i1 (show j ≤ 100000 by omega)]
end
section
variable (N : Nat) (hN : 70000 ≤ N) (b : List Nat) (hl : b.length = 64) (hb : ∀ x ∈ b,x < 256)
include hN hl hb
theorem aOX : ∃ w,oK N (iN b) = some w ∧ w.length = 64 := by
 obtain ⟨w,h1,h2⟩ := sL3 N N 16 (aDB b 0 (List.replicate 64 0)) (by rw [aMk]; simp) (by omega) (by omega) (by omega)
 rw [show ((16 : Nat) : Int) = 16 from rfl] at h1
 refine ⟨w, ?_,h2⟩
 simp only [oK,sL4 N b hl hb hN,Option.bind_some,qC,h1,pU,cR h2]
theorem aOB (st : List Int) (hst : st.length = 8) : ∃ r,k5 N st (iN b) = some r ∧ r.length = 8 := by
 obtain ⟨w,h1,h2⟩ := aOX N hN b hl hb
 have hbl : (iN b).length = 64 := by rw [aGJ]; exact hl
 have a0 : bJ 8 st 0 = some st[0] := cY (i := 0) (by omega) (by omega)
 have a1 : bJ 8 st 1 = some st[1] := cY (i := 1) (by omega) (by omega)
 have a2 : bJ 8 st 2 = some st[2] := cY (i := 2) (by omega) (by omega)
 have a3 : bJ 8 st 3 = some st[3] := cY (i := 3) (by omega) (by omega)
 have a4 : bJ 8 st 4 = some st[4] := cY (i := 4) (by omega) (by omega)
 have a5 : bJ 8 st 5 = some st[5] := cY (i := 5) (by omega) (by omega)
 have a6 : bJ 8 st 6 = some st[6] := cY (i := 6) (by omega) (by omega)
 have a7 : bJ 8 st 7 = some st[7] := cY (i := 7) (by omega) (by omega)
 obtain ⟨r,hr⟩ := cL2 N st w h2 N 0 st[0] st[1] st[2] st[3] st[4] st[5] st[6] st[7] (by omega) (by omega)
 rw [show ((0 : Nat) : Int) = 0 from rfl] at hr
 refine ⟨[IntKind.u32.wrap (st[0] + r.1),IntKind.u32.wrap (st[1] + r.2.1),IntKind.u32.wrap (st[2] + r.2.2.1),IntKind.u32.wrap (st[3] + r.2.2.2.1),IntKind.u32.wrap (st[4] + r.2.2.2.2.1),IntKind.u32.wrap (st[5] + r.2.2.2.2.2.1),IntKind.u32.wrap (st[6] + r.2.2.2.2.2.2.1),IntKind.u32.wrap (st[7] + r.2.2.2.2.2.2.2)], ?_,rfl⟩
 simp only [k5,cR hbl,h1,cR h2,a0,a1,a2,a3,a4,a5,a6,a7,Option.bind_some,hr,pV]
end
end Go.Proofs.YtnoklhehodlkaaaGreatDoor
