/- Texts of ours, joined: Sh, PlainU1, Laid, OpenArr, OpenS, PlainH1, PlainH2, PlainR1, PlainL2, PlainL3, PlainL4. -/
import Derived.Test.YtgfdllellpbmoaaGreatDoorQLedgerBasics3
import Derived.Test.YtgfdllellpbmoaaGreatDoorCards
import Derived.Test.YtgfdllellpbmoaaGreatDoorTie
import Derived.WalkKit
import Derived.ProofKit
import Derived.OpenShut
import Derived.LaidSub
import Derived.Deep.DeepHandedRow
import Derived.Lib.LaidTab
open Go.IntKind renaming i64 → aYV,u64 → aYY,u32 → aYZ,u8 → aY1,max → aZa,signed → aZp,bits → aZq,min → aZw
open Option renaming bind_some → aYW
open List renaming replicate → aYX,length_append → aY2,nil_append → aY6,drop_eq_nil_of_le → aY8,drop_eq_getElem_cons → aY9,append_assoc → aZb,getElem?_eq_getElem → aZc,range'_succ → aZd,length_set → aZe,getElem?_eq_some_iff → aZg,drop_zero → aZh,getElem_mem → aZi,replicate_succ → aZk,range → aZl,getElem?_replicate → aZm,getElem?_set_self → aZn,range' → aZo,foldl_cons → aZs,range_zero → aZt,getD_eq_getElem?_getD → aZu,take_of_length_le → aZx,mem_map → aZz,set_append_right → aZA,map_nil → aZB,set_set → aZC,length_cons → aZD,range_succ → aZG,map_append → aZH,append_nil → aZI
open Int renaming toNat → aY0,toNat_natCast → aY3,tmod → aY4,tdiv → aY5,toNat_of_nonneg → aZj
open Bool renaming false_eq_true → aY7
open Nat renaming sub_zero → aZf,mod_eq_of_lt → aZr,mod_lt → aZv,add_zero → aZy,le_refl → aZF
open List.cons renaming injEq → aZE
set_option linter.unusedVariables false
set_option linter.unusedSimpArgs false
set_option maxRecDepth 20000
set_option maxHeartbeats 8000000
namespace Go.Proofs.YtgfdllellpbmoaaGreatDoor
open Go Go.Vm
structure bT where
 Version:Int
 Prev:List Int
 Root:List Int
 Time:Int
 Bits:Int
 Nonce:Int
abbrev nS (x:bT):List V:=((eI .u32 x.Version)::(aK (eI .u8) x.Prev (aK (eI .u8) x.Root [(eI .u32 x.Time),(eI .u32 x.Bits),(eI .u32 x.Nonce)])))
abbrev qM (x:bT):V:= .agg (nS x)
@[simp] theorem aIq {f:Nat→Nat}(l:List bT):V.rns f (l.flatMap nS)=l.flatMap nS:=eG (fun _=>rfl) l
@[simp] theorem aIn {f:Nat→Nat}(x:bT):V.rns f (nS x)=nS x:=rfl
structure e9 where
 Height:Int
 Hash:List Int
abbrev gT (x:e9):List V:=((eI .i64 x.Height)::(aK (eI .u8) x.Hash []))
abbrev cR (x:e9):V:= .agg (gT x)
@[simp] theorem aFC {f:Nat→Nat}(l:List e9):V.rns f (l.flatMap gT)=l.flatMap gT:=eG (fun _=>rfl) l
@[simp] theorem aFD {f:Nat→Nat}(x:e9):V.rns f (gT x)=gT x:=rfl
structure aJ where
 Genesis:bT
 Limit:List Int
 Window:Int
 Spacing:Int
 Future:Int
 Version:Int
 Checkpoints:List e9
 Subsidy:Int
 Halving:Int
 Maturity:Int
abbrev aT (x:aJ):List V:=((eI .u32 x.Genesis.Version)::(aK (eI .u8) x.Genesis.Prev (aK (eI .u8) x.Genesis.Root ((eI .u32 x.Genesis.Time)::((eI .u32 x.Genesis.Bits)::((eI .u32 x.Genesis.Nonce)::(jQ (eI .u64) x.Limit [(eI .i64 x.Window),(eI .u32 x.Spacing),(eI .u32 x.Future),(eI .u32 x.Version),(.row none 33 (x.Checkpoints.map cR)),(eI .i64 x.Subsidy),(eI .i64 x.Halving),(eI .i64 x.Maturity)])))))))
abbrev cY (x:aJ):V:= .agg (aT x)
@[simp] theorem aIU {f:Nat→Nat}(l:List aJ):V.rns f (l.flatMap aT)=l.flatMap aT:=eG (fun _=>rfl) l
@[simp] theorem aI4 {f:Nat→Nat}(x:aJ):V.rns f (aT x)=aT x:=rfl
structure aI where
 Tx:List Int
 Index:Int
abbrev cC (x:aI):List V:=(aK (eI .u8) x.Tx [(eI .u32 x.Index)])
abbrev cG (x:aI):V:= .agg (cC x)
@[simp] theorem aHy {f:Nat→Nat}(l:List aI):V.rns f (l.flatMap cC)=l.flatMap cC:=eG (fun _=>rfl) l
@[simp] theorem aHH {f:Nat→Nat}(x:aI):V.rns f (cC x)=cC x:=rfl
structure bA where
 Value:Int
 Script:List Int
abbrev dM (x:bA):List V:=[(eI .i64 x.Value),(.row none 1 (x.Script.map (eI .u8)))]
abbrev eR (x:bA):V:= .agg (dM x)
@[simp] theorem aI7 {f:Nat→Nat}(l:List bA):V.rns f (l.flatMap dM)=l.flatMap dM:=eG (fun _=>rfl) l
@[simp] theorem aIy {f:Nat→Nat}(x:bA):V.rns f (dM x)=dM x:=rfl
structure aC where
 Out:aI
 Output:bA
 Height:Int
 Coinbase:Bool
abbrev aQ (x:aC):List V:=(aK (eI .u8) x.Out.Tx [(eI .u32 x.Out.Index),(eI .i64 x.Output.Value),(.row none 1 (x.Output.Script.map (eI .u8))),(eI .i64 x.Height),(eB x.Coinbase)])
abbrev aR (x:aC):V:= .agg (aQ x)
@[simp] theorem aLb {f:Nat→Nat}(l:List aC):V.rns f (l.flatMap aQ)=l.flatMap aQ:=eG (fun _=>rfl) l
@[simp] theorem aKD {f:Nat→Nat}(x:aC):V.rns f (aQ x)=aQ x:=rfl
structure aF where
 Height:Int
 Tip:List Int
 Coins:List aC
abbrev aN (x:aF):List V:=((eI .i64 x.Height)::(aK (eI .u8) x.Tip [(.row none 37 (x.Coins.map aR))]))
abbrev dO (x:aF):V:= .agg (aN x)
@[simp] theorem aI6 {f:Nat→Nat}(l:List aF):V.rns f (l.flatMap aN)=l.flatMap aN:=eG (fun _=>rfl) l
@[simp] theorem aIl {f:Nat→Nat}(x:aF):V.rns f (aN x)=aN x:=rfl
structure aU where
 Height:Int
 Hash:List Int
 Bits:Int
 First:Int
 Times:List Int
abbrev aE (x:aU):List V:=((eI .i64 x.Height)::(aK (eI .u8) x.Hash [(eI .u32 x.Bits),(eI .u32 x.First),(.row none 1 (x.Times.map (eI .u32)))]))
abbrev iS (x:aU):V:= .agg (aE x)
@[simp] theorem aH6 {f:Nat→Nat}(l:List aU):V.rns f (l.flatMap aE)=l.flatMap aE:=eG (fun _=>rfl) l
@[simp] theorem aH4 {f:Nat→Nat}(x:aU):V.rns f (aE x)=aE x:=rfl
structure bL where
 Prev:aI
 Sequence:Int
 Witness:List (List Int)
abbrev fN (x:bL):List V:=(aK (eI .u8) x.Prev.Tx [(eI .u32 x.Prev.Index),(eI .u32 x.Sequence),(.row none 1 (x.Witness.map (eL 1 (eI .u8))))])
abbrev dH (x:bL):V:= .agg (fN x)
@[simp] theorem aJj {f:Nat→Nat}(l:List bL):V.rns f (l.flatMap fN)=l.flatMap fN:=eG (fun _=>rfl) l
@[simp] theorem aJv {f:Nat→Nat}(x:bL):V.rns f (fN x)=fN x:=rfl
structure aG where
 Version:Int
 Inputs:List bL
 Outputs:List bA
 Lock:Int
abbrev aZ (x:aG):List V:=[(eI .u32 x.Version),(.row none 35 (x.Inputs.map dH)),(.row none 2 (x.Outputs.map eR)),(eI .u32 x.Lock)]
abbrev cK (x:aG):V:= .agg (aZ x)
@[simp] theorem aOg {f:Nat→Nat}(l:List aG):V.rns f (l.flatMap aZ)=l.flatMap aZ:=eG (fun _=>rfl) l
@[simp] theorem aN5 {f:Nat→Nat}(x:aG):V.rns f (aZ x)=aZ x:=rfl
structure aV where
 Header:bT
 Txs:List aG
abbrev bG (x:aV):List V:=((eI .u32 x.Header.Version)::(aK (eI .u8) x.Header.Prev (aK (eI .u8) x.Header.Root [(eI .u32 x.Header.Time),(eI .u32 x.Header.Bits),(eI .u32 x.Header.Nonce),(.row none 4 (x.Txs.map cK))])))
abbrev k6 (x:aV):V:= .agg (bG x)
@[simp] theorem aJx {f:Nat→Nat}(l:List aV):V.rns f (l.flatMap bG)=l.flatMap bG:=eG (fun _=>rfl) l
@[simp] theorem aJl {f:Nat→Nat}(x:aV):V.rns f (bG x)=bG x:=rfl
structure cD where
 Spent:List aC
abbrev b4 (x:cD):List V:=[(.row none 37 (x.Spent.map aR))]
abbrev aJ0 (x:cD):V:= .agg (b4 x)
@[simp] theorem aLg {f:Nat→Nat}(l:List cD):V.rns f (l.flatMap b4)=l.flatMap b4:=eG (fun _=>rfl) l
@[simp] theorem aKx {f:Nat→Nat}(x:cD):V.rns f (b4 x)=b4 x:=rfl
structure aW where
 Params:aJ
 Blocks:List aV
 Ledgers:List aF
 Contexts:List aU
 Undos:List cD
abbrev fG (x:aW):List V:=((eI .u32 x.Params.Genesis.Version)::(aK (eI .u8) x.Params.Genesis.Prev (aK (eI .u8) x.Params.Genesis.Root ((eI .u32 x.Params.Genesis.Time)::((eI .u32 x.Params.Genesis.Bits)::((eI .u32 x.Params.Genesis.Nonce)::(jQ (eI .u64) x.Params.Limit [(eI .i64 x.Params.Window),(eI .u32 x.Params.Spacing),(eI .u32 x.Params.Future),(eI .u32 x.Params.Version),(.row none 33 (x.Params.Checkpoints.map cR)),(eI .i64 x.Params.Subsidy),(eI .i64 x.Params.Halving),(eI .i64 x.Params.Maturity),(.row none 69 (x.Blocks.map k6)),(.row none 34 (x.Ledgers.map dO)),(.row none 36 (x.Contexts.map iS)),(.row none 1 (x.Undos.map aJ0))])))))))
abbrev gM (x:aW):V:= .agg (fG x)
@[simp] theorem aC1 {f:Nat→Nat}(l:List aW):V.rns f (l.flatMap fG)=l.flatMap fG:=eG (fun _=>rfl) l
@[simp] theorem aDa {f:Nat→Nat}(x:aW):V.rns f (fG x)=fG x:=rfl
structure cM where
 Code:Int
 Data:List Int
 M:Int
 N:Int
abbrev dP (x:cM):List V:=[(eI .i64 x.Code),(.row none 1 (x.Data.map (eI .u8))),(eI .i64 x.M),(eI .i64 x.N)]
abbrev sI (x:cM):V:= .agg (dP x)
@[simp] theorem aN7 {f:Nat→Nat}(l:List cM):V.rns f (l.flatMap dP)=l.flatMap dP:=eG (fun _=>rfl) l
@[simp] theorem aNu {f:Nat→Nat}(x:cM):V.rns f (dP x)=dP x:=rfl
structure bD where
 reached:Bool
 done:Bool
abbrev bO (x:bD):List V:=[(eB x.reached),(eB x.done)]
abbrev aEf (x:bD):V:= .agg (bO x)
@[simp] theorem aCG {f:Nat→Nat}(l:List bD):V.rns f (l.flatMap bO)=l.flatMap bO:=eG (fun _=>rfl) l
@[simp] theorem aCp {f:Nat→Nat}(x:bD):V.rns f (bO x)=bO x:=rfl
structure aBy where
 E:List Int
 S:List Int
abbrev wT (x:aBy):List V:=(jQ (eI .u64) x.E (jQ (eI .u64) x.S []))
@[simp] theorem aGK {f:Nat→Nat}(l:List aBy):V.rns f (l.flatMap wT)=l.flatMap wT:=eG (fun _=>rfl) l
@[simp] theorem aGL {f:Nat→Nat}(x:aBy):V.rns f (wT x)=wT x:=rfl
structure fD where
 Message:List Int
 Height:Int
 Age:Int
abbrev kL (x:fD):List V:=(aK (eI .u8) x.Message [(eI .i64 x.Height),(eI .i64 x.Age)])
abbrev aHq (x:fD):V:= .agg (kL x)
@[simp] theorem aMe {f:Nat→Nat}(l:List fD):V.rns f (l.flatMap kL)=l.flatMap kL:=eG (fun _=>rfl) l
@[simp] theorem aMa {f:Nat→Nat}(x:fD):V.rns f (kL x)=kL x:=rfl
def aFB (N:Nat):Option Bool:=some true
def aCH (N:Nat)(p:aJ):Option Bool:=
 some (decide ((p.Checkpoints.length:Int)≤8))
def aDq (N:Nat):Option Bool:=
 some true
def oZ (N:Nat)(l:List aC):Nat→Int→Option (LR (Unit) (Bool))
 |0,_=>none
 |m+1,cB=>
  if decide (cB<(l.length:Int)) then
   (bM l cB).bind fun x15=>
   if decide (600<(x15.Output.Script.length:Int)) then
    some (.ret false)
   else
    (oZ N l m) (aYV.wrap (cB+1))
  else
   some (.brk ())
def aBk (N:Nat)(l:List aC)(vn:Int):Option Bool:=
 if decide (vn<(l.length:Int)) then
  some false
 else
  (oZ N l N 0).bind fun q=>match q with
   | .ret v=>some v
   | .brk p2=>
    aDq N
def aAA (N:Nat)(vn:Int):Option (List Int):=
 some [vn,0,0,0]
def iP (N:Nat)(x_3 aNl:Int):Option Int:=
 (aQo (⟨#[0,1,2,2,3,3,3,3,4,4,4,4,4,4,4,4,5,5,5,5,5,5,5,5,5,5,5,5,5,5,5,5,6,6,6,6,6,6,6,6,6,6,6,6,6,6,6,6,6,6,6,6,6,6,6,6,6,6,6,6,6,6,6,6,7,7,7,7,7,7,7,7,7,7,7,7,7,7,7,7,7,7,7,7,7,7,7,7,7,7,7,7,7,7,7,7,7,7,7,7,7,7,7,7,7,7,7,7,7,7,7,7,7,7,7,7,7,7,7,7,7,7,7,7,7,7,7,7,8,8,8,8,8,8,8,8,8,8,8,8,8,8,8,8,8,8,8,8,8,8,8,8,8,8,8,8,8,8,8,8,8,8,8,8,8,8,8,8,8,8,8,8,8,8,8,8,8,8,8,8,8,8,8,8,8,8,8,8,8,8,8,8,8,8,8,8,8,8,8,8,8,8,8,8,8,8,8,8,8,8,8,8,8,8,8,8,8,8,8,8,8,8,8,8,8,8,8,8,8,8,8,8,8,8,8,8,8,8,8,8,8,8,8,8,8,8,8,8,8,8,8,8,8,8,8,8]⟩) (aY1.wrap x_3)).bind fun bW=>
 some (aYV.wrap (aNl+(aYV.wrap bW)))
def kK (N:Nat)(x_2 iV:Int):Option Int:=
 if decide (256≤x_2) then
  (shr .u64 x_2 8).bind fun x16=>
  iP N x16 (aYV.wrap (iV+8))
 else
  iP N x_2 iV
def kR (N:Nat)(x_1 vn:Int):Option Int:=
 if decide (65536≤x_1) then
  (shr .u64 x_1 16).bind fun bQ=>
  kK N bQ (aYV.wrap (vn+16))
 else
  kK N x_1 vn
def rN (N:Nat)(x:Int):Option Int:=
 if decide (4294967296≤x) then
  (shr .u64 x 32).bind fun x6=>
  kR N x6 32
 else
  kR N x 0
def aCU (N:Nat):Option Int:=
 some 0
def vQ (N:Nat)(va:List Int):Nat→Int→Option (LR (Unit) (Int))
 |0,_=>none
 |m+1,vi=>
  if decide (0≤vi) then
   (bK 4 va vi).bind fun x9=>
   if x9 != 0 then
    (rN N x9).bind fun x17=>
    some (.ret (aYV.wrap ((aYV.wrap (64*vi))+x17)))
   else
    (vQ N va m) (aYV.wrap (vi-1))
  else
   some (.brk ())
def aEo (N:Nat)(va:List Int):Option Int:=
 (vQ N va N 3).bind fun q=>match q with
  | .ret v=>some v
  | .brk p2=>
   aCU N
def aCS (N:Nat)(l1:List Int):Option (List Int):=
 (bH 4 l1).bind fun q_1=>
 some l1
def aAe (N:Nat)(va:List Int)(vn cW:Int)(rec:Int→(List Int)→Option (List Int))(dJ:List Int):Option (List Int):=
 rec (aYV.wrap (cW+1)) dJ
def pN (N:Nat)(va:List Int)(vn:Int):Nat→Int→(List Int)→Option (List Int)
 |0,_,_=>none
 |m+1,cW,l2=>
  if decide (cW<(aYV.wrap (4-(aYV.wrap (aY5 vn 64))))) then
   (bK 4 va (aYV.wrap (cW+(aYV.wrap (aY5 vn 64))))).bind fun x28=>
   (shr .u64 x28 (aY4 vn 64)).bind fun cO=>
   (bK 4 l2 cW).bind fun g6=>
   if decide ((aYV.wrap (cW+(aYV.wrap (aY5 vn 64))))<3) then
    (bK 4 (l2.set (aY0 cW) cO) cW).bind fun x38=>
    (bK 4 va (aYV.wrap ((aYV.wrap (cW+(aYV.wrap (aY5 vn 64))))+1))).bind fun x44=>
    (shl .u64 x44 (aYV.wrap (64-(aY4 vn 64)))).bind fun x48=>
    aAe N va vn cW (pN N va vn m) ((l2.set (aY0 cW) cO).set (aY0 cW) (bits .or .u64 x38 x48))
   else
    aAe N va vn cW (pN N va vn m) (l2.set (aY0 cW) cO)
  else
   some l2
def aDX (N:Nat)(va:List Int)(vn:Int):Option (List Int):=
 if decide (vn<0) then
  (bH 4 va).bind fun q=>
  some va
 else
  if decide (256≤vn) then
   some (aYX 4 0)
  else
   (pN N va vn N 0 (aYX 4 0)).bind fun p2=>
   aCS N p2
def aE3 (N:Nat)(l1:List Int):Option (List Int):=
 (bH 4 l1).bind fun q_1=>
 some l1
def pL (N:Nat)(va:List Int)(vn vi:Int)(rec:Int→(List Int)→Option (List Int))(dJ:List Int):Option (List Int):=
 rec (aYV.wrap (vi+1)) dJ
def gH (N:Nat)(va:List Int)(vn:Int):Nat→Int→(List Int)→Option (List Int)
 |0,_,_=>none
 |m+1,vi,l2=>
  if decide (vi<4) then
   (bK 4 va (aYV.wrap (vi-(aYV.wrap (aY5 vn 64))))).bind fun x28=>
   (shl .u64 x28 (aY4 vn 64)).bind fun cO=>
   (bK 4 l2 vi).bind fun g6=>
   if decide ((aYV.wrap (aY5 vn 64))<vi) then
    (bK 4 (l2.set (aY0 vi) cO) vi).bind fun x37=>
    (bK 4 va (aYV.wrap ((aYV.wrap (vi-(aYV.wrap (aY5 vn 64))))-1))).bind fun x43=>
    (shr .u64 x43 (aYV.wrap (64-(aY4 vn 64)))).bind fun x47=>
    pL N va vn vi (gH N va vn m) ((l2.set (aY0 vi) cO).set (aY0 vi) (bits .or .u64 x37 x47))
   else
    pL N va vn vi (gH N va vn m) (l2.set (aY0 vi) cO)
  else
   some l2
def mX (N:Nat)(va:List Int)(vn:Int):Option (List Int):=
 if decide (vn<0) then
  (bH 4 va).bind fun q=>
  some va
 else
  if decide (256≤vn) then
   some (aYX 4 0)
  else
   (gH N va vn N (aYV.wrap (aY5 vn 64)) (aYX 4 0)).bind fun p2=>
   aE3 N p2
def pU (N:Nat)(va:List Int)(vn:Int):Option (List Int):=
 if decide (vn<0) then
  (bH 4 va).bind fun q=>
  (aDX N va (aYV.wrap (0-vn))).bind fun bQ=>
  (bH 4 bQ).bind fun q_1=>
  some bQ
 else
  (bH 4 va).bind fun q_2=>
  (mX N va vn).bind fun cB=>
  (bH 4 cB).bind fun q_3=>
  some cB
def qV (N:Nat)(bQ:(List Int))(cH:Int)(x25:Bool):Option ((List Int)×Int):=
 if x25 then
  some ([0,0,0,0],120)
 else
  (pU N bQ (aYV.wrap (8*(aYV.wrap ((aYV.wrap cH)-3))))).bind fun x29=>
  (bH 4 x29).bind fun q_1=>
  if x29 == [0,0,0,0] then
   some ([0,0,0,0],120)
  else
   some (x29,0)
def vJ (N:Nat)(kZ:Int):Option ((List Int)×Int):=
 (aAA N (aYY.wrap (bits .and .u32 kZ 16777215))).bind fun bQ=>
 (bH 4 bQ).bind fun q=>
 (shr .u32 kZ 24).bind fun cH=>
 if(bits .and .u32 kZ 8388608) != 0 then
  qV N bQ cH true
 else
  (aEo N bQ).bind fun cW=>
  qV N bQ cH (decide (256<(aYV.wrap (cW+(aYV.wrap (8*(aYV.wrap ((aYV.wrap cH)-3))))))))
def aCR (N:Nat):Option Int:=
 some 0
def pM (N:Nat)(va b:List Int):Nat→Int→Option (LR (Unit) (Int))
 |0,_=>none
 |m+1,vi=>
  if decide (0≤vi) then
   (bK 4 va vi).bind fun b8=>
   (bK 4 b vi).bind fun bZ=>
   if decide (b8<bZ) then
    some (.ret (-1))
   else
    if decide (bZ<b8) then
     some (.ret 1)
    else
     (pM N va b m) (aYV.wrap (vi-1))
  else
   some (.brk ())
def aAL (N:Nat)(va b:List Int):Option Int:=
 (pM N va b N 3).bind fun q=>match q with
  | .ret v=>some v
  | .brk p2=>
   aCR N
def o9 (N:Nat)(x2:Bool):Option Bool:=
 some x2
def tB (N:Nat)(p:aJ):Option Bool:=
 (vJ N p.Genesis.Bits).bind fun x81=>
 (bH 4 x81.1).bind fun q=>
 if x81.2 == 0 then
  (bH 4 p.Limit).bind fun q_1=>
  (aAL N x81.1 p.Limit).bind fun x90=>
  o9 N (decide (x90≤0))
 else
  o9 N false
def pA (N:Nat)(p:aJ)(x61:Int)(x63:e9)(rec:Int→Int→Option (LR (Unit) (Bool)))(x73:Bool):Option (LR (Unit) (Bool)):=
 if x73 then
  some (.ret false)
 else
  rec x63.Height (aYV.wrap (x61+1))
def g8 (N:Nat)(p:aJ):Nat→Int→Int→Option (LR (Unit) (Bool))
 |0,_,_=>none
 |m+1,before,x61=>
  if decide (x61<(p.Checkpoints.length:Int)) then
   (bM p.Checkpoints x61).bind fun x63=>
   if decide (x63.Height≤before) then
    pA N p x61 x63 (g8 N p m) true
   else
    pA N p x61 x63 (g8 N p m) (decide (16777216<x63.Height))
  else
   some (.brk ())
def fT (N:Nat)(p:aJ)(x57:Bool):Option Bool:=
 if x57 then
  some false
 else
  (g8 N p N 0 0).bind fun q=>match q with
   | .ret v=>some v
   | .brk p6=>
    tB N p
def jC (N:Nat)(p:aJ)(x39:Bool):Option Bool:=
 if x39 then
  some false
 else
  if decide (p.Halving<1) then
   fT N p true
  else
   if decide (16777216<p.Halving) then
    fT N p true
   else
    if decide (p.Maturity<0) then
     fT N p true
    else
     fT N p (decide (16777216<p.Maturity))
def lV (N:Nat)(p:aJ)(cW:Bool):Option Bool:=
 if cW then
  some false
 else
  if decide (p.Spacing<1) then
   jC N p true
  else
   if decide (1048576<p.Spacing) then
    jC N p true
   else
    if decide (p.Subsidy<0) then
     jC N p true
    else
     jC N p (decide (2100000000000000<p.Subsidy))
def mK (N:Nat)(p:aJ):Option Bool:=
 (bH 4 p.Limit).bind fun q_2=>
 if p.Limit == [0,0,0,0] then
  lV N p true
 else
  if decide (p.Window<1) then
   lV N p true
  else
   lV N p (decide (4096<p.Window))
def wG (N:Nat)(l0:List Int):Option (List Int):=
 some l0
def lA (N:Nat)(vn eN:Int):Nat→Int→(List Int)→Option (List Int)
 |0,_,_=>none
 |m+1,bQ,aM=>
  if decide (bQ<eN) then
   (shr .u64 vn (aYV.wrap (8*bQ))).bind fun x18=>
   (bM aM bQ).bind fun b6=>
   (lA N vn eN m) (aYV.wrap (bQ+1)) (aM.set (aY0 bQ) (aY1.wrap x18))
  else
   some aM
def xR (N:Nat)(vn eN:Int):Option (List Int):=
 (mks 1 0 eN).bind fun x8=>
 (lA N vn eN N 0 x8).bind fun p2=>
 wG N p2
def tM (N:Nat)(b vs:List Int):Option (List Int):=
 (mks 1 0 (aYV.wrap ((b.length:Int)+(vs.length:Int)))).bind fun b8=>
 (cZ 1 (b8.take 0) b).bind fun bZ=>
 (cZ 1 bZ vs).bind fun x17=>
 some x17
def jG (N:Nat)(b:List Int)(vn:Int):Option (List Int):=
 (xR N (aYY.wrap vn) 4).bind fun x8=>
 (tM N b x8).bind fun x9=>
 some x9
def nC (N:Nat)(b vh:List Int):Option (List Int):=
 (bH 32 vh).bind fun q=>
 (tM N b vh).bind fun x7=>
 some x7
def nQ (N:Nat)(vh:bT):Option (List Int):=
 (jG N [] vh.Version).bind fun x6=>
 (bH 32 vh.Prev).bind fun q=>
 (nC N x6 vh.Prev).bind fun bQ=>
 (bH 32 vh.Root).bind fun q_1=>
 (nC N bQ vh.Root).bind fun bZ=>
 (jG N bZ vh.Time).bind fun x18=>
 (jG N x18 vh.Bits).bind fun bW=>
 (jG N bW vh.Nonce).bind fun x26=>
 some x26
def aGk (N:Nat)(l0:List Int):Option (List Int):=
 some l0
def uS (N:Nat)(vn:Int):Nat→Int→(List Int)→Option (List Int)
 |0,_,_=>none
 |m+1,x18,aM=>
  if decide (x18<8) then
   (shr .u64 (aYY.wrap (8*vn)) (aYV.wrap (56-(aYV.wrap (8*x18))))).bind fun x27=>
   (cZ 1 aM [aY1.wrap x27]).bind fun fA=>
   (uS N vn m) (aYV.wrap (x18+1)) fA
  else
   some aM
def aFd (N:Nat)(vn:Int):Option (List Int):=
 (mkl 1 0 (aYY.wrap (1+(aY4 (aYY.wrap (64-(aY4 (aYY.wrap (vn+9)) 64))) 64))) (aYY.wrap (9+(aY4 (aYY.wrap (64-(aY4 (aYY.wrap (vn+9)) 64))) 64)))).bind fun x15=>
 (bM x15 0).bind fun x17=>
 (uS N vn N 0 (x15.set (aY0 0) 128)).bind fun p2=>
 aGk N p2
def aFH (N:Nat)(l0:List Int):Option (List Int):=
 some l0
def uU (N:Nat)(parts:List (List Int)):Nat→Int→(List Int)→Option (List Int)
 |0,_,_=>none
 |m+1,x8,aM=>
  if decide (x8<(parts.length:Int)) then
   (bM parts x8).bind fun bQ=>
   (cZ 1 aM bQ).bind fun bZ=>
   (uU N parts m) (aYV.wrap (x8+1)) bZ
  else
   some aM
def aFf (N:Nat)(parts:List (List Int)):Option (List Int):=
 (uU N parts N 0 []).bind fun p2=>
 aFH N p2
def jX (N:Nat)(x k:Int):Option Int:=
 (shl .u32 x (bits .and .u64 (aYY.wrap k) 31)).bind fun b8=>
 (shr .u32 x (aYY.wrap (32-(bits .and .u64 (aYY.wrap k) 31)))).bind fun x15=>
 some (bits .or .u32 b8 x15)
def dU (N:Nat)(x vn:Int):Option Int:=
 (jX N x (aYV.wrap (0-vn))).bind fun x8=>
 some x8
def rM (N:Nat)(b5:List Int):Option (List Int):=
 (bH 64 b5).bind fun q=>
 some b5
def jJ (N:Nat):Nat→Int→(List Int)→Option (List Int)
 |0,_,_=>none
 |m+1,vi,cN=>
  if decide (vi<64) then
   (bK 64 cN (aYV.wrap (vi-15))).bind fun x37=>
   (dU N x37 7).bind fun x39=>
   (dU N x37 18).bind fun x44=>
   (shr .u32 x37 3).bind fun x50=>
   (bK 64 cN (aYV.wrap (vi-2))).bind fun x54=>
   (dU N x54 17).bind fun x56=>
   (dU N x54 19).bind fun x61=>
   (shr .u32 x54 10).bind fun x67=>
   (bK 64 cN (aYV.wrap (vi-16))).bind fun x72=>
   (bK 64 cN (aYV.wrap (vi-7))).bind fun x78=>
   (bK 64 cN vi).bind fun x83=>
   (jJ N m) (aYV.wrap (vi+1)) (cN.set (aY0 vi) (aYZ.wrap ((aYZ.wrap ((aYZ.wrap (x72+(bits .xor .u32 (bits .xor .u32 x39 x44) x50)))+x78))+(bits .xor .u32 (bits .xor .u32 x56 x61) x67))))
  else
   some cN
def rW (N:Nat)(l1:List Int):Option (List Int):=
 (jJ N N 16 l1).bind fun p3=>
 rM N p3
def wL (N:Nat)(block:List Int)(x9:Int)(rec:Int→(List Int)→Option (List Int))(dJ:List Int):Option (List Int):=
 rec (aYV.wrap (x9+1)) dJ
def eX (N:Nat)(block:List Int)(x9:Int):Nat→Int→(List Int)→Option (List Int)
 |0,_,_=>none
 |m+1,cH,yC=>
  if decide (cH<4) then
   (bK 64 yC x9).bind fun x17=>
   (shl .u32 x17 8).bind fun x19=>
   (bK 64 block (aYV.wrap ((aYV.wrap (4*x9))+cH))).bind fun dL=>
   (eX N block x9 m) (aYV.wrap (cH+1)) (yC.set (aY0 x9) (bits .or .u32 x19 (aYZ.wrap dL)))
  else
   some yC
def iB (N:Nat)(block:List Int):Nat→Int→(List Int)→Option (List Int)
 |0,_,_=>none
 |m+1,x9,l2=>
  if decide (x9<16) then
   (eX N block x9 N 0 l2).bind fun p6=>
   wL N block x9 (iB N block m) p6
  else
   some l2
def qQ (N:Nat)(block:List Int):Option (List Int):=
 (iB N block N 0 (aYX 64 0)).bind fun p4=>
 rW N p4
def rO (N:Nat)(cP:List Int)(va b c d ve f g vh:Int):Option (List Int):=
 (bK 8 cP 0).bind fun x98=>
 (bK 8 cP 1).bind fun aF0=>
 (bK 8 cP 2).bind fun aTg=>
 (bK 8 cP 3).bind fun aSK=>
 (bK 8 cP 4).bind fun aIu=>
 (bK 8 cP 5).bind fun aDn=>
 (bK 8 cP 6).bind fun aSs=>
 (bK 8 cP 7).bind fun aIG=>
 some [aYZ.wrap (x98+va),aYZ.wrap (aF0+b),aYZ.wrap (aTg+c),aYZ.wrap (aSK+d),aYZ.wrap (aIu+ve),aYZ.wrap (aDn+f),aYZ.wrap (aSs+g),aYZ.wrap (aIG+vh)]
def jL (N:Nat)(cP:List Int)(x18:(List Int)):Nat→Int→Int→Int→Int→Int→Int→Int→Int→Int→Option (Int×Int×Int×Int×Int×Int×Int×Int)
 |0,_,_,_,_,_,_,_,_,_=>none
 |m+1,va_1,b_1,c_1,d_1,ve_1,f_1,g_1,vh_1,x35=>
  if decide (x35<64) then
   (dU N ve_1 6).bind fun x40=>
   (dU N ve_1 11).bind fun x42=>
   (dU N ve_1 25).bind fun x45=>
   (bK 64 aEV x35).bind fun x58=>
   (bK 64 x18 x35).bind fun x62=>
   (dU N va_1 2).bind fun x66=>
   (dU N va_1 13).bind fun x68=>
   (dU N va_1 22).bind fun x71=>
   (jL N cP x18 m) (aYZ.wrap ((aYZ.wrap ((aYZ.wrap ((aYZ.wrap ((aYZ.wrap (vh_1+(bits .xor .u32 (bits .xor .u32 x40 x42) x45)))+(bits .xor .u32 (bits .and .u32 ve_1 f_1) (bits .and .u32 (bits .xor .u32 (aZa .u32) ve_1) g_1))))+x58))+x62))+(aYZ.wrap ((bits .xor .u32 (bits .xor .u32 x66 x68) x71)+(bits .xor .u32 (bits .xor .u32 (bits .and .u32 va_1 b_1) (bits .and .u32 va_1 c_1)) (bits .and .u32 b_1 c_1)))))) va_1 b_1 c_1 (aYZ.wrap (d_1+(aYZ.wrap ((aYZ.wrap ((aYZ.wrap ((aYZ.wrap (vh_1+(bits .xor .u32 (bits .xor .u32 x40 x42) x45)))+(bits .xor .u32 (bits .and .u32 ve_1 f_1) (bits .and .u32 (bits .xor .u32 (aZa .u32) ve_1) g_1))))+x58))+x62)))) ve_1 f_1 g_1 (aYV.wrap (x35+1))
  else
   some (va_1,b_1,c_1,d_1,ve_1,f_1,g_1,vh_1)
def lG (N:Nat)(cP block:List Int):Option (List Int):=
 (bH 64 block).bind fun q=>
 (qQ N block).bind fun x18=>
 (bH 64 x18).bind fun q_1=>
 (bK 8 cP 0).bind fun x19=>
 (bK 8 cP 1).bind fun cW=>
 (bK 8 cP 2).bind fun eQ=>
 (bK 8 cP 3).bind fun x25=>
 (bK 8 cP 4).bind fun x27=>
 (bK 8 cP 5).bind fun x29=>
 (bK 8 cP 6).bind fun cO=>
 (bK 8 cP 7).bind fun nY=>
 (jL N cP x18 N x19 cW eQ x25 x27 x29 cO nY 0).bind fun p2=>
 rO N cP p2.1 p2.2.1 p2.2.2.1 p2.2.2.2.1 p2.2.2.2.2.1 p2.2.2.2.2.2.1 p2.2.2.2.2.2.2.1 p2.2.2.2.2.2.2.2
def aDE (N:Nat)(b5:List Int):Option (List Int):=
 (bH 32 b5).bind fun q=>
 some b5
def zE (N:Nat)(l1:List Int):Nat→Int→(List Int)→Option (List Int)
 |0,_,_=>none
 |m+1,cO,l2=>
  if decide (cO<32) then
   (bK 8 l1 (aYV.wrap (aY5 cO 4))).bind fun x37=>
   (shr .u32 x37 (aYV.wrap (24-(aYV.wrap ((aY4 cO 4)*8))))).bind fun x43=>
   (bK 32 l2 cO).bind fun x45=>
   (zE N l1 m) (aYV.wrap (cO+1)) (l2.set (aY0 cO) (aY1.wrap x43))
  else
   some l2
def aDG (N:Nat)(l1:List Int):Option (List Int):=
 (zE N l1 N 0 (aYX 32 0)).bind fun p3=>
 aDE N p3
def zJ (N:Nat)(bZ:(List Int)):Nat→Int→(List Int)→Option (List Int)
 |0,_,_=>none
 |m+1,x19,cN=>
  if decide (x19<(aYV.wrap (aY5 (bZ.length:Int) 64))) then
   (bH 8 cN).bind fun q_1=>
   (sub bZ (aYV.wrap (64*x19)) (bZ.length:Int)).bind fun x26=>
   (arp 64 x26).bind fun x27=>
   (lG N cN x27).bind fun x29=>
   (bH 8 x29).bind fun q_2=>
   (zJ N bZ m) (aYV.wrap (x19+1)) x29
  else
   some cN
def aDR (N:Nat)(b:List Int):Option (List Int):=
 (aFd N (aYY.wrap (b.length:Int))).bind fun cH=>
 (aFf N [b,cH]).bind fun bZ=>
 (zJ N bZ N 0 zX).bind fun p4=>
 aDG N p4
def zP (N:Nat)(b:List Int):Option (List Int):=
 (aDR N b).bind fun x5=>
 (bH 32 x5).bind fun q=>
 (aDR N x5).bind fun x7=>
 (bH 32 x7).bind fun q_1=>
 some x7
def aBC (N:Nat)(vh:bT):Option (List Int):=
 (nQ N vh).bind fun x4=>
 (zP N x4).bind fun x5=>
 (bH 32 x5).bind fun q=>
 some x5
def xQ (N:Nat)(p:aJ):Option (aF×Int):=
 (mK N p).bind fun x5=>
 if !x5 then
  some ((aF.mk 0 (aYX 32 0) []),6)
 else
  (aBC N p.Genesis).bind fun bQ=>
  (bH 32 bQ).bind fun q=>
  some ((aF.mk 0 bQ []),0)
def pH (N:Nat)(va:List Int):Option Bool:=
 (bH 4 va).bind fun q=>
 some (va == [0,0,0,0])
def gZ (N:Nat)(vn:Int):Option (List Int):=
 some [vn,0,0,0]
def r7 (N:Nat)(va:List Int)(vi:Int):Option Bool:=
 (bK 4 va (aYV.wrap (aY5 vi 64))).bind fun x7=>
 (shr .u64 x7 (aY4 vi 64)).bind fun b8=>
 some ((bits .and .u64 b8 1) == 1)
def aBG (N:Nat)(l1:List Int):Option (List Int):=
 (bH 4 l1).bind fun q_1=>
 some l1
def tG (N:Nat)(va:List Int)(vn vi:Int)(rec:Int→(List Int)→Option (List Int))(dJ:List Int):Option (List Int):=
 rec (aYV.wrap (vi+1)) dJ
def nV (N:Nat)(va:List Int)(vn:Int):Nat→Int→(List Int)→Option (List Int)
 |0,_,_=>none
 |m+1,vi,l2=>
  if decide ((aYV.wrap (vi+vn))<256) then
   (bH 4 va).bind fun q_2=>
   (r7 N va (aYV.wrap (vi+vn))).bind fun eQ=>
   if eQ then
    (bK 4 l2 (aYV.wrap (aY5 vi 64))).bind fun x26=>
    (shl .u64 1 (aY4 vi 64)).bind fun fA=>
    tG N va vn vi (nV N va vn m) (l2.set (aY0 (aYV.wrap (aY5 vi 64))) (bits .or .u64 x26 fA))
   else
    tG N va vn vi (nV N va vn m) l2
  else
   some l2
def mC (N:Nat)(va:List Int)(vn:Int):Option (List Int):=
 if decide (vn≤0) then
  (bH 4 va).bind fun q=>
  some va
 else
  if decide (256≤vn) then
   some [0,0,0,0]
  else
   (nV N va vn N 0 (aYX 4 0)).bind fun p2=>
   aBG N p2
def aBY (N:Nat):Option Int:=
 some 0
def t6 (N:Nat)(va:List Int):Nat→Int→Option (LR (Unit) (Int))
 |0,_=>none
 |m+1,vi=>
  if decide (0≤vi) then
   (bH 4 va).bind fun q=>
   (r7 N va vi).bind fun bQ=>
   if bQ then
    some (.ret (aYV.wrap (vi+1)))
   else
    (t6 N va m) (aYV.wrap (vi-1))
  else
   some (.brk ())
def aC0 (N:Nat)(va:List Int):Option Int:=
 (t6 N va N 255).bind fun q=>match q with
  | .ret v=>some v
  | .brk p2=>
   aBY N
def dX (N:Nat)(x y c:Int):Option (Int×Int):=sT x y c
def aCa (N:Nat)(sZ:Int)(l1:List Int):Option ((List Int)×Bool):=
 (bH 4 l1).bind fun q=>
 some (l1,sZ == 1)
def tT (N:Nat)(va b:List Int):Nat→Int→Int→(List Int)→Option (Int×(List Int))
 |0,_,_,_=>none
 |m+1,carry_1,x9,l3=>
  if decide (x9<4) then
   (bK 4 va x9).bind fun x15=>
   (bK 4 b x9).bind fun x18=>
   (dX N x15 x18 carry_1).bind fun cW=>
   (bK 4 l3 x9).bind fun dL=>
   (tT N va b m) cW.2 (aYV.wrap (x9+1)) (l3.set (aY0 x9) cW.1)
  else
   some (carry_1,l3)
def xP (N:Nat)(va b:List Int):Option ((List Int)×Bool):=
 (tT N va b N 0 0 (aYX 4 0)).bind fun p2=>
 aCa N p2.1 p2.2
def aBX (N:Nat)(l0:List Int):Option (List Int):=
 (bH 4 l0).bind fun q=>
 some l0
def qK (N:Nat):Nat→Int→(List Int)→Option (List Int)
 |0,_,_=>none
 |m+1,iV,aM=>
  if decide (0<iV) then
   (bH 4 aM).bind fun q_1=>
   (xP N aM aM).bind fun x15=>
   (bH 4 x15.1).bind fun q_2=>
   (qK N m) (aYV.wrap (iV-1)) x15.1
  else
   some aM
def xK (N:Nat)(va:List Int)(vn:Int):Option (List Int):=
 if decide (256≤vn) then
  some [0,0,0,0]
 else
  (qK N N vn va).bind fun p2=>
  aBX N p2
def oJ (N:Nat)(l1:List Int):Option ((List Int)×Int):=
 (bH 4 l1).bind fun q_1=>
 (pH N l1).bind fun x45=>
 if x45 then
  some ([0,0,0,0],120)
 else
  some (l1,0)
def oL (N:Nat)(x8:Int)(cB:(List Int))(x37:Bool):Option ((List Int)×Int):=
 if x37 then
  some ([0,0,0,0],120)
 else
  (xK N cB (aYV.wrap (8*(aYV.wrap ((aYV.wrap x8)-3))))).bind fun x43=>
  (bH 4 x43).bind fun q_3=>
  oJ N x43
def qC (N:Nat)(kZ:Int):Option ((List Int)×Int):=
 (shr .u32 kZ 24).bind fun x8=>
 (gZ N (aYY.wrap (bits .and .u32 kZ 16777215))).bind fun cB=>
 (bH 4 cB).bind fun q=>
 if(bits .and .u32 kZ 8388608) != 0 then
  some ([0,0,0,0],120)
 else
  if decide ((aYV.wrap x8)<3) then
   (mC N cB (aYV.wrap (8*(aYV.wrap (3-(aYV.wrap x8)))))).bind fun x25=>
   (bH 4 x25).bind fun q_2=>
   oJ N x25
  else
   (pH N cB).bind fun x27=>
   if !x27 then
    (aC0 N cB).bind fun cO=>
    oL N x8 cB (decide (256<(aYV.wrap (cO+(aYV.wrap (8*(aYV.wrap ((aYV.wrap x8)-3))))))))
   else
    oL N x8 cB false
def aD1 (N:Nat):Option Int:=
 some 0
def uE (N:Nat)(va b:List Int):Nat→Int→Option (LR (Unit) (Int))
 |0,_=>none
 |m+1,vi=>
  if decide (0≤vi) then
   (bK 4 va vi).bind fun b8=>
   (bK 4 b vi).bind fun bZ=>
   if decide (b8<bZ) then
    some (.ret (-1))
   else
    if decide (bZ<b8) then
     some (.ret 1)
    else
     (uE N va b m) (aYV.wrap (vi-1))
  else
   some (.brk ())
def iJ (N:Nat)(va b:List Int):Option Int:=
 (uE N va b N 3).bind fun q=>match q with
  | .ret v=>some v
  | .brk p2=>
   aD1 N
def uA (N:Nat)(x2:Bool):Option Bool:=
 some x2
def zA (N:Nat)(p:aJ):Option Bool:=
 (qC N p.Genesis.Bits).bind fun x95=>
 (bH 4 x95.1).bind fun q=>
 if x95.2 == 0 then
  (bH 4 p.Limit).bind fun q_1=>
  (iJ N x95.1 p.Limit).bind fun yJ=>
  uA N (decide (yJ≤0))
 else
  uA N false
def mR (N:Nat)(p:aJ)(x61:Int)(rec:Int→Option (LR (Unit) (Bool)))(x89:Bool):Option (LR (Unit) (Bool)):=
 if x89 then
  some (.ret false)
 else
  rec (aYV.wrap (x61+1))
def fJ (N:Nat)(p:aJ):Nat→Int→Option (LR (Unit) (Bool))
 |0,_=>none
 |m+1,x61=>
  if decide (x61<(p.Checkpoints.length:Int)) then
   (bM p.Checkpoints x61).bind fun x64=>
   if decide (x64.Height<1) then
    mR N p x61 (fJ N p m) true
   else
    if decide (16777216<x64.Height) then
     mR N p x61 (fJ N p m) true
    else
     if decide (0<x61) then
      (bM p.Checkpoints (aYV.wrap (x61-1))).bind fun x82=>
      mR N p x61 (fJ N p m) (decide (x64.Height≤x82.Height))
     else
      mR N p x61 (fJ N p m) false
  else
   some (.brk ())
def f9 (N:Nat)(p:aJ)(x57:Bool):Option Bool:=
 if x57 then
  some false
 else
  (fJ N p N 0).bind fun q=>match q with
   | .ret v=>some v
   | .brk p5=>
    zA N p
def kX (N:Nat)(p:aJ)(x29:Bool):Option Bool:=
 if x29 then
  some false
 else
  if decide (p.Subsidy<0) then
   f9 N p true
  else
   if decide (2100000000000000<p.Subsidy) then
    f9 N p true
   else
    if decide (p.Halving<1) then
     f9 N p true
    else
     if decide (16777216<p.Halving) then
      f9 N p true
     else
      if decide (p.Maturity<0) then
       f9 N p true
      else
       f9 N p (decide (16777216<p.Maturity))
def iT (N:Nat)(p:aJ):Option Bool:=
 (bH 4 p.Limit).bind fun q_2=>
 (pH N p.Limit).bind fun x9=>
 if x9 then
  kX N p true
 else
  if decide (p.Window<1) then
   kX N p true
  else
   if decide (4096<p.Window) then
    kX N p true
   else
    if decide (p.Spacing<1) then
     kX N p true
    else
     kX N p (decide (1048576<p.Spacing))
def wM (N:Nat)(l0:List Int):Option (List Int):=
 some l0
def lJ (N:Nat)(v:Int)(x8:List Int):Nat→Int→(List Int)→Option (List Int)
 |0,_,_=>none
 |m+1,b8,aM=>
  if decide (b8<(x8.length:Int)) then
   (shr .u64 v (aYV.wrap (8*b8))).bind fun x19=>
   (bM aM b8).bind fun cW=>
   (lJ N v x8 m) (aYV.wrap (b8+1)) (aM.set (aY0 b8) (aY1.wrap x19))
  else
   some aM
def jS (N:Nat)(v vn:Int):Option (List Int):=
 (mks 1 0 vn).bind fun x8=>
 (lJ N v x8 N 0 x8).bind fun p2=>
 wM N p2
def eP (N:Nat)(va b:List Int):Option (List Int):=
 (mks 1 0 (aYV.wrap ((va.length:Int)+(b.length:Int)))).bind fun b8=>
 (cZ 1 (b8.take 0) va).bind fun bZ=>
 (cZ 1 bZ b).bind fun x16=>
 some x16
def dY (N:Nat)(b:List Int)(vn:Int):Option (List Int):=
 (jS N (aYY.wrap vn) 4).bind fun x8=>
 (eP N b x8).bind fun x9=>
 some x9
def eZ (N:Nat)(b vh:List Int):Option (List Int):=
 (bH 32 vh).bind fun q=>
 (eP N b vh).bind fun x7=>
 some x7
def t0 (N:Nat)(l0:List Int):Option (List Int):=
 some l0
def iE (N:Nat)(vh:bT):Nat→Int→(List Int)→Option (List Int)
 |0,_,_=>none
 |m+1,dL,aM=>
  if decide (dL<(3:Int)) then
   (bM [vh.Time,vh.Bits,vh.Nonce] dL).bind fun x26=>
   (dY N aM x26).bind fun fA=>
   (iE N vh m) (aYV.wrap (dL+1)) fA
  else
   some aM
def kP (N:Nat)(vh:bT):Option (List Int):=
 (dY N [] vh.Version).bind fun x8=>
 (bH 32 vh.Prev).bind fun q=>
 (eZ N x8 vh.Prev).bind fun cH=>
 (bH 32 vh.Root).bind fun q_1=>
 (eZ N cH vh.Root).bind fun x15=>
 (iE N vh N 0 x15).bind fun p2=>
 t0 N p2
def aEk (N:Nat)(aM:List Int):Option (List Int):=
 some aM
def qO (N:Nat)(vn:Int):Nat→Int→(List Int)→Option (List Int)
 |0,_,_=>none
 |m+1,vi,dW=>
  if decide (0≤vi) then
   (shr .u64 (aYY.wrap (8*vn)) (aYV.wrap (8*vi))).bind fun x26=>
   (cZ 1 dW [aY1.wrap x26]).bind fun x29=>
   (qO N vn m) (aYV.wrap (vi-1)) x29
  else
   some dW
def aB9 (N:Nat)(vn:Int)(l0:List Int):Option (List Int):=
 (qO N vn N 7 l0).bind fun p3=>
 aEk N p3
def tW (N:Nat)(vn:Int):Nat→(List Int)→Option (List Int)
 |0,_=>none
 |m+1,nR=>
  if(aY4 (aYY.wrap ((aYY.wrap (vn+(aYY.wrap (nR.length:Int))))+8)) 64) != 0 then
   (cZ 1 nR [0]).bind fun x16=>
   (tW N vn m) x16
  else
   some nR
def aC4 (N:Nat)(vn:Int):Option (List Int):=
 (tW N vn N [128]).bind fun p4=>
 aB9 N vn p4
def aAn (N:Nat):Option (List Int):=
 some [1779033703,3144134277,1013904242,2773480762,1359893119,2600822924,528734635,1541459225]
def i0 (N:Nat)(x vn:Int):Option Int:=
 (jX N x (aYV.wrap (0-vn))).bind fun x8=>
 some x8
def sW (N:Nat)(b5:List Int):Option (List Int):=
 (bH 64 b5).bind fun q=>
 some b5
def lX (N:Nat):Nat→Int→(List Int)→Option (List Int)
 |0,_,_=>none
 |m+1,vi,cN=>
  if decide (vi<64) then
   (bK 64 cN (aYV.wrap (vi-15))).bind fun x49=>
   (i0 N x49 7).bind fun x51=>
   (i0 N x49 18).bind fun x56=>
   (shr .u32 x49 3).bind fun x62=>
   (bK 64 cN (aYV.wrap (vi-2))).bind fun x66=>
   (i0 N x66 17).bind fun x68=>
   (i0 N x66 19).bind fun x73=>
   (shr .u32 x66 10).bind fun x79=>
   (bK 64 cN (aYV.wrap (vi-16))).bind fun x84=>
   (bK 64 cN (aYV.wrap (vi-7))).bind fun x90=>
   (bK 64 cN vi).bind fun x95=>
   (lX N m) (aYV.wrap (vi+1)) (cN.set (aY0 vi) (aYZ.wrap ((aYZ.wrap ((aYZ.wrap (x84+(bits .xor .u32 (bits .xor .u32 x51 x56) x62)))+x90))+(bits .xor .u32 (bits .xor .u32 x68 x73) x79))))
  else
   some cN
def tA (N:Nat)(l1:List Int):Option (List Int):=
 (lX N N 16 l1).bind fun p3=>
 sW N p3
def g9 (N:Nat)(block:List Int):Nat→Int→(List Int)→Option (List Int)
 |0,_,_=>none
 |m+1,fS,l2=>
  if decide (fS<16) then
   (bK 64 block (aYV.wrap (4*fS))).bind fun x15=>
   (shl .u32 (aYZ.wrap x15) 24).bind fun x18=>
   (bK 64 block (aYV.wrap ((aYV.wrap (4*fS))+1))).bind fun bW=>
   (shl .u32 (aYZ.wrap bW) 16).bind fun x25=>
   (bK 64 block (aYV.wrap ((aYV.wrap (4*fS))+2))).bind fun fA=>
   (shl .u32 (aYZ.wrap fA) 8).bind fun nY=>
   (bK 64 block (aYV.wrap ((aYV.wrap (4*fS))+3))).bind fun x38=>
   (bK 64 l2 fS).bind fun x42=>
   (g9 N block m) (aYV.wrap (fS+1)) (l2.set (aY0 fS) (bits .or .u32 (bits .or .u32 (bits .or .u32 x18 x25) nY) (aYZ.wrap x38)))
  else
   some l2
def t5 (N:Nat)(block:List Int):Option (List Int):=
 (g9 N block N 0 (aYX 64 0)).bind fun p4=>
 tA N p4
def wF (N:Nat):Option (List Int):=
 some [1116352408,1899447441,3049323471,3921009573,961987163,1508970993,2453635748,2870763221,3624381080,310598401,607225278,1426881987,1925078388,2162078206,2614888103,3248222580,3835390401,4022224774,264347078,604807628,770255983,1249150122,1555081692,1996064986,2554220882,2821834349,2952996808,3210313671,3336571891,3584528711,113926993,338241895,666307205,773529912,1294757372,1396182291,1695183700,1986661051,2177026350,2456956037,2730485921,2820302411,3259730800,3345764771,3516065817,3600352804,4094571909,275423344,430227734,506948616,659060556,883997877,958139571,1322822218,1537002063,1747873779,1955562222,2024104815,2227730452,2361852424,2428436474,2756734187,3204031479,3329325298]
def tC (N:Nat)(cP:List Int)(va b c d ve f g vh:Int):Option (List Int):=
 (bK 8 cP 0).bind fun aTs=>
 (bK 8 cP 1).bind fun yJ=>
 (bK 8 cP 2).bind fun aTu=>
 (bK 8 cP 3).bind fun aSz=>
 (bK 8 cP 4).bind fun aSm=>
 (bK 8 cP 5).bind fun aSX=>
 (bK 8 cP 6).bind fun aK0=>
 (bK 8 cP 7).bind fun aSF=>
 some [aYZ.wrap (aTs+va),aYZ.wrap (yJ+b),aYZ.wrap (aTu+c),aYZ.wrap (aSz+d),aYZ.wrap (aSm+ve),aYZ.wrap (aSX+f),aYZ.wrap (aK0+g),aYZ.wrap (aSF+vh)]
def lY (N:Nat)(cP:List Int)(x19 b6:(List Int)):Nat→Int→Int→Int→Int→Int→Int→Int→Int→Int→Option (Int×Int×Int×Int×Int×Int×Int×Int)
 |0,_,_,_,_,_,_,_,_,_=>none
 |m+1,va_1,b_1,c_1,d_1,ve_1,f_1,g_1,vh_1,vi=>
  if decide (vi<64) then
   (i0 N ve_1 6).bind fun x43=>
   (i0 N ve_1 11).bind fun x45=>
   (i0 N ve_1 25).bind fun x48=>
   (bK 64 b6 vi).bind fun x61=>
   (bK 64 x19 vi).bind fun x65=>
   (i0 N va_1 2).bind fun x69=>
   (i0 N va_1 13).bind fun x71=>
   (i0 N va_1 22).bind fun x74=>
   (lY N cP x19 b6 m) (aYZ.wrap ((aYZ.wrap ((aYZ.wrap ((aYZ.wrap ((aYZ.wrap (vh_1+(bits .xor .u32 (bits .xor .u32 x43 x45) x48)))+(bits .xor .u32 (bits .and .u32 ve_1 f_1) (bits .and .u32 (bits .xor .u32 (aZa .u32) ve_1) g_1))))+x61))+x65))+(aYZ.wrap ((bits .xor .u32 (bits .xor .u32 x69 x71) x74)+(bits .xor .u32 (bits .xor .u32 (bits .and .u32 va_1 b_1) (bits .and .u32 va_1 c_1)) (bits .and .u32 b_1 c_1)))))) va_1 b_1 c_1 (aYZ.wrap (d_1+(aYZ.wrap ((aYZ.wrap ((aYZ.wrap ((aYZ.wrap (vh_1+(bits .xor .u32 (bits .xor .u32 x43 x45) x48)))+(bits .xor .u32 (bits .and .u32 ve_1 f_1) (bits .and .u32 (bits .xor .u32 (aZa .u32) ve_1) g_1))))+x61))+x65)))) ve_1 f_1 g_1 (aYV.wrap (vi+1))
  else
   some (va_1,b_1,c_1,d_1,ve_1,f_1,g_1,vh_1)
def qB (N:Nat)(cP block:List Int):Option (List Int):=
 (bH 64 block).bind fun q=>
 (t5 N block).bind fun x19=>
 (wF N).bind fun b6=>
 (bH 64 x19).bind fun q_1=>
 (bH 64 b6).bind fun q_2=>
 (bK 8 cP 0).bind fun cW=>
 (bK 8 cP 1).bind fun eQ=>
 (bK 8 cP 2).bind fun x25=>
 (bK 8 cP 3).bind fun x27=>
 (bK 8 cP 4).bind fun x29=>
 (bK 8 cP 5).bind fun cO=>
 (bK 8 cP 6).bind fun nY=>
 (bK 8 cP 7).bind fun x35=>
 (lY N cP x19 b6 N cW eQ x25 x27 x29 cO nY x35 0).bind fun p2=>
 tC N cP p2.1 p2.2.1 p2.2.2.1 p2.2.2.2.1 p2.2.2.2.2.1 p2.2.2.2.2.2.1 p2.2.2.2.2.2.2.1 p2.2.2.2.2.2.2.2
def aBD (N:Nat)(b5:List Int):Option (List Int):=
 (bH 32 b5).bind fun q_1=>
 some b5
def tQ (N:Nat)(l1:List Int):Nat→Int→(List Int)→Option (List Int)
 |0,_,_=>none
 |m+1,fB,cN=>
  if decide (fB<8) then
   (bK 8 l1 fB).bind fun x37=>
   (shr .u32 x37 24).bind fun x50=>
   (shr .u32 x37 16).bind fun x53=>
   (shr .u32 x37 8).bind fun x56=>
   (bK 32 cN (aYV.wrap (4*fB))).bind fun x60=>
   (bK 32 (cN.set (aY0 (aYV.wrap (4*fB))) (aY1.wrap x50)) (aYV.wrap ((aYV.wrap (4*fB))+1))).bind fun x61=>
   (bK 32 ((cN.set (aY0 (aYV.wrap (4*fB))) (aY1.wrap x50)).set (aY0 (aYV.wrap ((aYV.wrap (4*fB))+1))) (aY1.wrap x53)) (aYV.wrap ((aYV.wrap (4*fB))+2))).bind fun x62=>
   (bK 32 (((cN.set (aY0 (aYV.wrap (4*fB))) (aY1.wrap x50)).set (aY0 (aYV.wrap ((aYV.wrap (4*fB))+1))) (aY1.wrap x53)).set (aY0 (aYV.wrap ((aYV.wrap (4*fB))+2))) (aY1.wrap x56)) (aYV.wrap ((aYV.wrap (4*fB))+3))).bind fun x63=>
   (tQ N l1 m) (aYV.wrap (fB+1)) ((((cN.set (aY0 (aYV.wrap (4*fB))) (aY1.wrap x50)).set (aY0 (aYV.wrap ((aYV.wrap (4*fB))+1))) (aY1.wrap x53)).set (aY0 (aYV.wrap ((aYV.wrap (4*fB))+2))) (aY1.wrap x56)).set (aY0 (aYV.wrap ((aYV.wrap (4*fB))+3))) (aY1.wrap x37))
  else
   some cN
def aBl (N:Nat)(l1:List Int):Option (List Int):=
 (bH 8 l1).bind fun q_2=>
 (tQ N l1 N 0 (aYX 32 0)).bind fun p3=>
 aBD N p3
def tL (N:Nat)(x16:List Int):Nat→Int→(List Int)→Option (List Int)
 |0,_,_=>none
 |m+1,vi,l1_3=>
  if decide ((aYV.wrap (vi+64))≤(x16.length:Int)) then
   (sub x16 vi (x16.length:Int)).bind fun x28=>
   (bH 8 l1_3).bind fun q_3=>
   (bH 64 (cpy (aYX 64 0) x28)).bind fun q_4=>
   (qB N l1_3 (cpy (aYX 64 0) x28)).bind fun g6=>
   (bH 8 g6).bind fun q_5=>
   (tL N x16 m) (aYV.wrap (vi+64)) g6
  else
   some l1_3
def kQ (N:Nat)(b:List Int):Option (List Int):=
 (cZ 1 [] b).bind fun b8=>
 (aC4 N (aYY.wrap (b.length:Int))).bind fun x15=>
 (cZ 1 b8 x15).bind fun x16=>
 (aAn N).bind fun x17=>
 (bH 8 x17).bind fun q=>
 (tL N x16 N 0 x17).bind fun p4=>
 aBl N p4
def qR (N:Nat)(b:List Int):Option (List Int):=
 (kQ N b).bind fun x5=>
 (bH 32 x5).bind fun q=>
 (kQ N x5).bind fun x7=>
 (bH 32 x7).bind fun q_1=>
 some x7
def nJ (N:Nat)(vh:bT):Option (List Int):=
 (kP N vh).bind fun x4=>
 (qR N x4).bind fun x5=>
 (bH 32 x5).bind fun q=>
 some x5
def sH (N:Nat)(p:aJ):Option (aF×Int):=
 (iT N p).bind fun x5=>
 if !x5 then
  some ((aF.mk 0 (aYX 32 0) []),6)
 else
  (nJ N p.Genesis).bind fun bQ=>
  (bH 32 bQ).bind fun q=>
  some ((aF.mk 0 bQ []),0)
def zC (N:Nat)(va b:List Int):Option Bool:=
 some ((zS va).toList == (zS b).toList)
def uW (N:Nat)(x4:Bool):Option Bool:=
 some x4
def aDt (N:Nat)(va b:bA):Option Bool:=
 if va.Value == b.Value then
  (zC N va.Script b.Script).bind fun x15=>
  uW N x15
 else
  uW N false
def lU (N:Nat)(x4:Bool):Option Bool:=
 some x4
def aCi (N:Nat)(va b:aC):Option Bool:=
 if(sX va.Out.Tx b.Out.Tx ((va.Out.Index == b.Out.Index)&&true)) then
  (aDt N va.Output b.Output).bind fun x15=>
  if x15 then
   if va.Height == b.Height then
    lU N (va.Coinbase == b.Coinbase)
   else
    lU N false
  else
   lU N false
 else
  lU N false
def yG (N:Nat):Option Bool:=
 some true
def sD (N:Nat)(va b:List aC):Nat→Int→Option (LR (Unit) (Bool))
 |0,_=>none
 |m+1,cB=>
  if decide (cB<(va.length:Int)) then
   (bM va cB).bind fun x18=>
   (bM b cB).bind fun bW=>
   (aCi N x18 bW).bind fun dL=>
   if !dL then
    some (.ret false)
   else
    (sD N va b m) (aYV.wrap (cB+1))
  else
   some (.brk ())
def aA9 (N:Nat)(va b:List aC):Option Bool:=
 if(va.length:Int) != (b.length:Int) then
  some false
 else
  (sD N va b N 0).bind fun q=>match q with
   | .ret v=>some v
   | .brk p2=>
    yG N
def vA (N:Nat)(x4:Bool):Option Bool:=
 some x4
def aBV (N:Nat)(va b:aF):Option Bool:=
 if va.Height == b.Height then
  (bH 32 va.Tip).bind fun q=>
  (bH 32 b.Tip).bind fun q_1=>
  if va.Tip == b.Tip then
   (aA9 N va.Coins b.Coins).bind fun bW=>
   vA N bW
  else
   vA N false
 else
  vA N false
def aA7 (N:Nat)(a b:List Int):Option Int:=some (aNL a b)
def aAC (N:Nat)(va b:List Int):Option Int:=
 (aA7 N va b).bind fun x7=>
 some x7
def qT (N:Nat)(x:Int):Option Bool:=
 some (x != x)
def sC (N:Nat)(x y:Int):Option Int:=
 (qT N x).bind fun x8=>
 (qT N y).bind fun bQ=>
 if x8 then
  if bQ then
   some 0
  else
   some (-1)
 else
  if bQ then
   some 1
  else
   if decide (x<y) then
    some (-1)
   else
    if decide (y<x) then
     some 1
    else
     some 0
def aAw (N:Nat):Option Int:=
 some 0
def o4 (N:Nat)(aDi:List Int):Nat→Int→Option (LR (Unit) (Int))
 |0,_=>none
 |m+1,x8=>
  if decide (x8<(aDi.length:Int)) then
   (bM aDi x8).bind fun bQ=>
   if bQ != 0 then
    some (.ret bQ)
   else
    (o4 N aDi m) (aYV.wrap (x8+1))
  else
   some (.brk ())
def aBI (N:Nat)(aDi:List Int):Option Int:=
 (o4 N aDi N 0).bind fun q=>match q with
  | .ret v=>some v
  | .brk p2=>
   aAw N
def zT (N:Nat)(va b:aI):Option Int:=
 (bH 32 va.Tx).bind fun q=>
 (bH 32 b.Tx).bind fun q_1=>
 (aAC N va.Tx b.Tx).bind fun x9=>
 (sC N va.Index b.Index).bind fun bZ=>
 (aBI N [x9,bZ]).bind fun x16=>
 some x16
def aA4 (N:Nat)(sum:Int):Option (Int×Bool):=
 some (sum,true)
def sB (N:Nat)(l:List aC)(eO bQ:Int)(cH:aC)(rec:Int→Int→Option (LR (Int) (Int×Bool)))(dL:Bool):Option (LR (Int) (Int×Bool)):=
 if dL then
  some (.ret (0,false))
 else
  rec (aYV.wrap (eO+cH.Output.Value)) (aYV.wrap (bQ+1))
def jE (N:Nat)(l:List aC):Nat→Int→Int→Option (LR (Int) (Int×Bool))
 |0,_,_=>none
 |m+1,eO,bQ=>
  if decide (bQ<(l.length:Int)) then
   (bM l bQ).bind fun cH=>
   if decide (cH.Output.Value<0) then
    sB N l eO bQ cH (jE N l m) true
   else
    sB N l eO bQ cH (jE N l m) (decide ((aYV.wrap (2100000000000000-eO))<cH.Output.Value))
  else
   some (.brk eO)
def aBJ (N:Nat)(l:List aC):Option (Int×Bool):=
 (jE N l N 0 0).bind fun q=>match q with
  | .ret v=>some v
  | .brk p2=>
   aA4 N p2
def wI (N:Nat)(l:aF):Option Bool:=
 (aBJ N l.Coins).bind fun x65=>
 some x65.2
def lR (N:Nat)(l:aF)(dL:Int)(rec:Int→Option (LR (Unit) (Bool)))(x60:Bool):Option (LR (Unit) (Bool)):=
 if x60 then
  some (.ret false)
 else
  rec (aYV.wrap (dL+1))
def n7 (N:Nat)(l:aF)(dL:Int)(x27:aC)(rec:Int→Option (LR (Unit) (Bool)))(x43:Bool):Option (LR (Unit) (Bool)):=
 if x43 then
  some (.ret false)
 else
  if decide (520<(x27.Output.Script.length:Int)) then
   lR N l dL rec true
  else
   if decide (x27.Height<1) then
    lR N l dL rec true
   else
    lR N l dL rec (decide (l.Height<x27.Height))
def fK (N:Nat)(l:aF):Nat→Int→Option (LR (Unit) (Bool))
 |0,_=>none
 |m+1,dL=>
  if decide (dL<(l.Coins.length:Int)) then
   (bM l.Coins dL).bind fun x27=>
   if decide (0<dL) then
    (bM l.Coins (aYV.wrap (dL-1))).bind fun x36=>
    (zT N x36.Out x27.Out).bind fun x41=>
    n7 N l dL x27 (fK N l m) (decide (0≤x41))
   else
    n7 N l dL x27 (fK N l m) false
  else
   some (.brk ())
def lO (N:Nat)(l:aF)(b6:Bool):Option Bool:=
 if b6 then
  some false
 else
  (fK N l N 0).bind fun q=>match q with
   | .ret v=>some v
   | .brk p3=>
    wI N l
def qN (N:Nat)(l:aF):Option Bool:=
 if decide (l.Height<0) then
  lO N l true
 else
  if decide (16777216<l.Height) then
   lO N l true
  else
   lO N l (decide (100000<(l.Coins.length:Int)))
def uT (N:Nat)(va b:aI):Option Int:=
 if decide (va.Index<b.Index) then
  some (-1)
 else
  if decide (b.Index<va.Index) then
   some 1
  else
   some 0
def mQ (N:Nat)(va b:aI):Nat→Int→Option (LR (Unit) (Int))
 |0,_=>none
 |m+1,x6=>
  if decide (x6<32) then
   (bK 32 va.Tx x6).bind fun b8=>
   (bK 32 b.Tx x6).bind fun x15=>
   if decide (b8<x15) then
    some (.ret (-1))
   else
    if decide (x15<b8) then
     some (.ret 1)
    else
     (mQ N va b m) (aYV.wrap (x6+1))
  else
   some (.brk ())
def rJ (N:Nat)(va b:aI):Option Int:=
 (mQ N va b N 0).bind fun q=>match q with
  | .ret v=>some v
  | .brk p2=>
   uT N va b
def aCg (N:Nat):Option Bool:=
 some true
def mP (N:Nat)(l:aF)(sum eQ:Int)(x26:aC)(rec:Int→Int→Option (LR (Unit) (Bool)))(x71:Bool):Option (LR (Unit) (Bool)):=
 if x71 then
  some (.ret false)
 else
  if decide (2100000000000000<(aYV.wrap (sum+x26.Output.Value))) then
   some (.ret false)
  else
   rec (aYV.wrap (sum+x26.Output.Value)) (aYV.wrap (eQ+1))
def i5 (N:Nat)(l:aF)(sum eQ:Int)(x26:aC)(rec:Int→Int→Option (LR (Unit) (Bool)))(x54:Bool):Option (LR (Unit) (Bool)):=
 if x54 then
  some (.ret false)
 else
  if decide (x26.Output.Value<0) then
   mP N l sum eQ x26 rec true
  else
   if decide (2100000000000000<x26.Output.Value) then
    mP N l sum eQ x26 rec true
   else
    mP N l sum eQ x26 rec (decide (520<(x26.Output.Script.length:Int)))
def eF (N:Nat)(l:aF):Nat→Int→Int→Option (LR (Unit) (Bool))
 |0,_,_=>none
 |m+1,sum,eQ=>
  if decide (eQ<(l.Coins.length:Int)) then
   (bM l.Coins eQ).bind fun x26=>
   if decide (0<eQ) then
    (bM l.Coins (aYV.wrap (eQ-1))).bind fun x35=>
    (rJ N x35.Out x26.Out).bind fun x40=>
    if decide (0≤x40) then
     i5 N l sum eQ x26 (eF N l m) true
    else
     if decide (x26.Height<1) then
      i5 N l sum eQ x26 (eF N l m) true
     else
      i5 N l sum eQ x26 (eF N l m) (decide (l.Height<x26.Height))
   else
    if decide (x26.Height<1) then
     i5 N l sum eQ x26 (eF N l m) true
    else
     i5 N l sum eQ x26 (eF N l m) (decide (l.Height<x26.Height))
  else
   some (.brk ())
def nH (N:Nat)(l:aF)(x19:Bool):Option Bool:=
 if x19 then
  some false
 else
  (eF N l N 0 0).bind fun q=>match q with
   | .ret v=>some v
   | .brk p3=>
    aCg N
def sK (N:Nat)(l:aF):Option Bool:=
 if decide (l.Height<0) then
  nH N l true
 else
  if decide (16777216<l.Height) then
   nH N l true
  else
   nH N l (decide (100000<(l.Coins.length:Int)))
def o7 (N:Nat)(p:aJ)(height:Int)(b8:Bool):Option Int:=
 if b8 then
  some 0
 else
  (quo .i64 height p.Halving).bind fun x17=>
  (shr .i64 p.Subsidy x17).bind fun x18=>
  some x18
def qA (N:Nat)(p:aJ)(height:Int):Option Int:=
 (mK N p).bind fun x6=>
 if !x6 then
  o7 N p height true
 else
  o7 N p height (decide (height<0))
def aAN (N:Nat)(vs:Int):Option Int:=
 some vs
def qU (N:Nat)(eM vn:Int)(rec:Int→Int→Option Int)(x25:Bool):Option Int:=
 if x25 then
  rec (aYV.wrap (aY5 eM 2)) (aYV.wrap (vn-1))
 else
  some eM
def iO (N:Nat):Nat→Int→Int→Option Int
 |0,_,_=>none
 |m+1,eM,vn=>
  if decide (0<vn) then
   qU N eM vn (iO N m) (decide (0<eM))
  else
   qU N eM vn (iO N m) false
def qH (N:Nat)(p:aJ)(height:Int)(cB:Bool):Option Int:=
 if cB then
  some 0
 else
  (quo .i64 height p.Halving).bind fun x19=>
  (iO N N p.Subsidy x19).bind fun p3=>
  aAN N p3
def j9 (N:Nat)(p:aJ)(height:Int):Option Int:=
 (iT N p).bind fun x8=>
 if !x8 then
  qH N p height true
 else
  qH N p height (decide (height<0))
def pR (N:Nat)(c:aC)(o:aI):Option Int:=
 (zT N c.Out o).bind fun x8=>
 some x8
def cF (N:Nat)(vi:Int)(x7:Bool):Option (Int×Bool):=
 some (vi,x7)
def cS (N:Nat)(x:List aC)(nW:aI)(vi:Int):Option (Int×Bool):=
 if decide (vi<(x.length:Int)) then
  (bM x vi).bind fun x43=>
  (pR N x43 nW).bind fun x46=>
  cF N vi (x46 == 0)
 else
  cF N vi false
def bN (N:Nat)(x:List aC)(nW:aI):Nat→Int→Int→Option Int
 |0,_,_=>none
 |m+1,fS,vj=>
  if decide (fS<vj) then
   (shr .u64 (aYY.wrap (aYV.wrap (fS+vj))) 1).bind fun bW=>
   (bM x (aYV.wrap bW)).bind fun x27=>
   (pR N x27 nW).bind fun fA=>
   if decide (fA<0) then
    (bN N x nW m) (aYV.wrap ((aYV.wrap bW)+1)) vj
   else
    (bN N x nW m) fS (aYV.wrap bW)
  else
   some fS
def dD (N:Nat)(x:List aC)(nW:aI):Option (Int×Bool):=
 (bN N x nW N 0 (x.length:Int)).bind fun p3=>
 cS N x nW p3
def xJ (N:Nat)(l:aF)(o:aI):Option Int:=
 (dD N l.Coins o).bind fun b8=>
 if !b8.2 then
  some (-1)
 else
  some b8.1
def vS (N:Nat)(l:aF)(o:aI):Option Int:=
 (qN N l).bind fun x6=>
 if !x6 then
  some (-1)
 else
  (xJ N l o).bind fun bQ=>
  some bQ
def aAr (N:Nat):Option Int:=
 some (-1)
def rF (N:Nat)(l:List aC)(o:aI):Nat→Int→Option (LR (Unit) (Int))
 |0,_=>none
 |m+1,x8=>
  if decide (x8<(l.length:Int)) then
   (bM l x8).bind fun cB=>
   if(sX cB.Out.Tx o.Tx ((cB.Out.Index == o.Index)&&true)) then
    some (.ret x8)
   else
    (rF N l o m) (aYV.wrap (x8+1))
  else
   some (.brk ())
def rZ (N:Nat)(l:List aC)(o:aI):Option Int:=
 (rF N l o N 0).bind fun q=>match q with
  | .ret v=>some v
  | .brk p2=>
   aAr N
def aBb (N:Nat)(l:aF)(o:aI):Option Int:=
 (sK N l).bind fun x6=>
 if !x6 then
  some (-1)
 else
  (rZ N l.Coins o).bind fun b8=>
  some b8
def aEA (N:Nat)(l:List Int)(vn:Int):Option (List Int):=
 (sub l 0 (if vn<(l.length:Int)then vn else(l.length:Int))).bind fun bQ=>
 some bQ
def aEy (N:Nat)(va:List Int):Option (List Int):=
 (bK 4 va 0).bind fun x3=>
 (bK 4 va 1).bind fun x6=>
 (bK 4 va 2).bind fun x9=>
 (bK 4 va 3).bind fun cH=>
 some [bits .xor .u64 (aZa .u64) x3,bits .xor .u64 (aZa .u64) x6,bits .xor .u64 (aZa .u64) x9,bits .xor .u64 (aZa .u64) cH]
def aAi (N:Nat)(v:Int):Option aJ:=
 (aEy N [0,0,0,0]).bind fun x8=>
 (mC N x8 1).bind fun x9=>
 (bH 4 x9).bind fun q=>
 some (aJ.mk (bT.mk 1 (aYX 32 0) (aYX 32 0) (aYZ.wrap (1000+(aYZ.wrap v))) 545259519 0) x9 (aYV.wrap (3+(aYV.wrap (aY4 v 5)))) 5 600 1 [] 1000 (aYV.wrap (4+(aYV.wrap (aY4 v 3)))) (aYV.wrap (aY4 v 3)))
def aCN (N:Nat)(p:aJ):Option (aU×Int):=
 (iT N p).bind fun x6=>
 if !x6 then
  some ((aU.mk 0 (aYX 32 0) 0 0 []),6)
 else
  (nJ N p.Genesis).bind fun cH=>
  (bH 32 cH).bind fun q=>
  some ((aU.mk 0 cH p.Genesis.Bits p.Genesis.Time [p.Genesis.Time]),0)
def aBA (N:Nat)(v:Int):Option aW:=
 (aAi N v).bind fun x9=>
 (sH N x9).bind fun cH=>
 (aCN N x9).bind fun x17=>
 some (aW.mk x9 [] [cH.1] [x17.1] [])
def aIV (N:Nat)(script:List Int):Option (List (List Int)):=
 if(script.length:Int) != 4 then
  some []
 else
  (bM script 2).bind fun x7=>
  some [[x7]]
def vL (N:Nat)(vj:Int):Option (List Int):=
 some [1,1,aY1.wrap (1+(aY4 vj 6)),5]
def rG (N:Nat)(c:aC)(vs:Int)(x29:(List (List Int)))(first:Int)(l3:List bA):Option (Int×(List bL)×(List bA)×Int×Int):=
 (vL N (aY1.wrap (aY5 vs 4))).bind fun x56=>
 (cZ 32 l3 [(bA.mk first x56)]).bind fun x59=>
 some (1,[(bL.mk c.Out (aYZ.wrap vs) x29)],x59,0,if c.Output.Value<(aYV.wrap (aY4 vs 3))then c.Output.Value else(aYV.wrap (aY4 vs 3)))
def aBR (N:Nat)(c:aC)(vs:Int):Option (Int×(List bL)×(List bA)×Int×Int):=
 (aIV N c.Output.Script).bind fun x29=>
 if(aY4 vs 2) == 1 then
  (vL N (aY1.wrap (aY5 vs 2))).bind fun x46=>
  (cZ 32 [] [(bA.mk (aYV.wrap ((aYV.wrap (c.Output.Value-(if c.Output.Value<(aYV.wrap (aY4 vs 3))then c.Output.Value else(aYV.wrap (aY4 vs 3)))))-(aYV.wrap (aY5 (aYV.wrap (c.Output.Value-(if c.Output.Value<(aYV.wrap (aY4 vs 3))then c.Output.Value else(aYV.wrap (aY4 vs 3))))) 3)))) x46)]).bind fun x49=>
  rG N c vs x29 (aYV.wrap (aY5 (aYV.wrap (c.Output.Value-(if c.Output.Value<(aYV.wrap (aY4 vs 3))then c.Output.Value else(aYV.wrap (aY4 vs 3))))) 3)) x49
 else
  rG N c vs x29 (aYV.wrap (c.Output.Value-(if c.Output.Value<(aYV.wrap (aY4 vs 3))then c.Output.Value else(aYV.wrap (aY4 vs 3))))) []
def gQ (N:Nat)(b:List Int)(vn:Int):Option (List Int):=
 if decide (vn<253) then
  (jS N vn 1).bind fun bQ=>
  (eP N b bQ).bind fun b8=>
  some b8
 else
  if decide (vn<65536) then
   (jS N vn 2).bind fun x18=>
   (eP N [253] x18).bind fun x19=>
   (eP N b x19).bind fun b6=>
   some b6
  else
   if decide (vn<4294967296) then
    (jS N vn 4).bind fun x27=>
    (eP N [254] x27).bind fun x28=>
    (eP N b x28).bind fun x29=>
    some x29
   else
    (jS N vn 8).bind fun nY=>
    (eP N [255] nY).bind fun fB=>
    (eP N b fB).bind fun x35=>
    some x35
def vW (N:Nat)(o:aI):Option (List Int):=
 (bH 32 o.Tx).bind fun q=>
 (eZ N [] o.Tx).bind fun x5=>
 (dY N x5 o.Index).bind fun x8=>
 some x8
def rS (N:Nat)(b:List Int)(vn:Int):Option (List Int):=
 (jS N vn 8).bind fun x7=>
 (eP N b x7).bind fun x8=>
 some x8
def lW (N:Nat)(b vs:List Int):Option (List Int):=
 (gQ N b (aYY.wrap (vs.length:Int))).bind fun x9=>
 (eP N x9 vs).bind fun b8=>
 some b8
def yD (N:Nat)(o:bA):Option (List Int):=
 (rS N [] (aYY.wrap o.Value)).bind fun x6=>
 (lW N x6 o.Script).bind fun x9=>
 some x9
def wD (N:Nat)(l0:List Int):Option (List Int):=
 some l0
def w8 (N:Nat)(t:aG)(cE:Bool)(x64:Int)(rec:Int→(List Int)→Option (List Int))(dW:List Int):Option (List Int):=
 rec (aYV.wrap (x64+1)) dW
def jI (N:Nat)(t:aG)(cE:Bool)(x64:Int)(x66:bL):Nat→Int→(List Int)→Option (List Int)
 |0,_,_=>none
 |m+1,x79,nR=>
  if decide (x79<(x66.Witness.length:Int)) then
   (bM x66.Witness x79).bind fun x81=>
   (lW N nR x81).bind fun x85=>
   (jI N t cE x64 x66 m) (aYV.wrap (x79+1)) x85
  else
   some nR
def d8 (N:Nat)(t:aG)(cE:Bool):Nat→Int→(List Int)→Option (List Int)
 |0,_,_=>none
 |m+1,x64,aM=>
  if decide (x64<(t.Inputs.length:Int)) then
   (bM t.Inputs x64).bind fun x66=>
   if !cE then
    some aM
   else
    (gQ N aM (aYY.wrap (x66.Witness.length:Int))).bind fun x75=>
    (jI N t cE x64 x66 N 0 x75).bind fun p6=>
    w8 N t cE x64 (d8 N t cE m) p6
  else
   some aM
def rU (N:Nat)(t:aG)(cE:Bool)(b5:List Int):Option (List Int):=
 (dY N b5 t.Lock).bind fun x60=>
 (d8 N t cE N 0 x60).bind fun p4=>
 wD N p4
def jH (N:Nat)(t:aG)(cE:Bool):Nat→Int→(List Int)→Option (List Int)
 |0,_,_=>none
 |m+1,x48,cN=>
  if decide (x48<(t.Outputs.length:Int)) then
   (bM t.Outputs x48).bind fun x50=>
   (yD N x50).bind fun x54=>
   (cZ 1 cN x54).bind fun x55=>
   (jH N t cE m) (aYV.wrap (x48+1)) x55
  else
   some cN
def rV (N:Nat)(t:aG)(cE:Bool)(l1:List Int):Option (List Int):=
 (gQ N l1 (aYY.wrap (t.Outputs.length:Int))).bind fun x44=>
 (jH N t cE N 0 x44).bind fun p7=>
 rU N t cE p7
def jK (N:Nat)(t:aG)(cE:Bool):Nat→Int→(List Int)→Option (List Int)
 |0,_,_=>none
 |m+1,x26,l1_3=>
  if decide (x26<(t.Inputs.length:Int)) then
   (bM t.Inputs x26).bind fun x28=>
   (vW N x28.Prev).bind fun nY=>
   (cZ 1 l1_3 nY).bind fun fB=>
   (dY N fB x28.Sequence).bind fun x37=>
   (jK N t cE m) (aYV.wrap (x26+1)) x37
  else
   some l1_3
def jN (N:Nat)(t:aG)(cE:Bool):Option (List Int):=
 (dY N [] t.Version).bind fun x16=>
 (gQ N x16 (aYY.wrap (t.Inputs.length:Int))).bind fun bW=>
 (jK N t cE N 0 bW).bind fun p8=>
 rV N t cE p8
def aAE (N:Nat)(t:aG):Option Bool:=
 (jN N t true).bind fun x60=>
 some (decide ((x60.length:Int)≤20000))
def aAp (N:Nat)(t:aG)(x39:Int)(rec:Int→Option (LR (Unit) (Bool))):Option (LR (Unit) (Bool)):=
 rec (aYV.wrap (x39+1))
def mB (N:Nat)(t:aG)(x39:Int)(x41:bL):Nat→Int→Option (LR (Unit) (Bool))
 |0,_=>none
 |m+1,x50=>
  if decide (x50<(x41.Witness.length:Int)) then
   (bM x41.Witness x50).bind fun x52=>
   if decide (520<(x52.length:Int)) then
    some (.ret false)
   else
    (mB N t x39 x41 m) (aYV.wrap (x50+1))
  else
   some (.brk ())
def mA (N:Nat)(t:aG):Nat→Int→Option (LR (Unit) (Bool))
 |0,_=>none
 |m+1,x39=>
  if decide (x39<(t.Inputs.length:Int)) then
   (bM t.Inputs x39).bind fun x41=>
   if decide (32<(x41.Witness.length:Int)) then
    some (.ret false)
   else
    (mB N t x39 x41 N 0).bind fun q=>match q with
     | .ret v=>some (.ret v)
     | .brk p6=>
      aAp N t x39 (mA N t m)
  else
   some (.brk ())
def aAB (N:Nat)(t:aG):Option Bool:=
 (mA N t N 0).bind fun q=>match q with
  | .ret v=>some v
  | .brk p4=>
   aAE N t
def vF (N:Nat)(t:aG)(bW:Int)(rec:Int→Option (LR (Unit) (Bool)))(fB:Bool):Option (LR (Unit) (Bool)):=
 if fB then
  some (.ret false)
 else
  rec (aYV.wrap (bW+1))
def kB (N:Nat)(t:aG):Nat→Int→Option (LR (Unit) (Bool))
 |0,_=>none
 |m+1,bW=>
  if decide (bW<(t.Outputs.length:Int)) then
   (bM t.Outputs bW).bind fun dL=>
   if decide (dL.Value<0) then
    vF N t bW (kB N t m) true
   else
    vF N t bW (kB N t m) (decide (520<(dL.Script.length:Int)))
  else
   some (.brk ())
def u9 (N:Nat)(t:aG)(x18:Bool):Option Bool:=
 if x18 then
  some false
 else
  (kB N t N 0).bind fun q=>match q with
   | .ret v=>some v
   | .brk p7=>
    aAB N t
def k8 (N:Nat)(t:aG):Option Bool:=
 if decide (64<(t.Inputs.length:Int)) then
  u9 N t true
 else
  u9 N t (decide (64<(t.Outputs.length:Int)))
def aAQ (N:Nat)(t:aG):Option (List Int):=
 (k8 N t).bind fun x4=>
 if !x4 then
  some [0,0,0,0,0,0,0,0,0,0,0,0,0,0,0,0,0,0,0,0,0,0,0,0,0,0,0,0,0,0,0,0]
 else
  (jN N t false).bind fun x8=>
  (qR N x8).bind fun x9=>
  (bH 32 x9).bind fun q=>
  some x9
def uI (N:Nat)(fees:Int)(l0:List aG):Option ((List aG)×Int):=
 some (l0,fees)
def pF (N:Nat)(p:aJ)(l:aF)(vs k:Int)(rec:Int→Int→(List aG)→(List aC)→Option (Int×(List aG)))(aE6:Int)(dJ:List aG)(eY:List aC):Option (Int×(List aG)):=
 rec aE6 (aY1.wrap (k+1)) dJ eY
def pC (N:Nat)(p:aJ)(l:aF)(vs dI k:Int)(l2:List aG)(l3:List aC)(vi:Int)(rec:Int→Option (Int×(List aG)×(List aC))):Option (Int×(List aG)×(List aC)):=
 rec (aYV.wrap (vi+1))
def pI (N:Nat)(p:aJ)(l:aF)(vs dI k:Int)(x69:Int×(List bL)×(List bA)×Int×Int)(x75:List aG)(rec:Int→Option (Int×(List aG)×(List aC)))(aID:List aC):Option (Int×(List aG)×(List aC)):=
 some (aYV.wrap (dI+x69.2.2.2.2),x75,aID)
def gR (N:Nat)(p:aJ)(l:aF)(vs dI k:Int)(x69:Int×(List bL)×(List bA)×Int×Int)(x75:List aG)(x89:(List Int)):Nat→Int→(List aC)→Option (List aC)
 |0,_,_=>none
 |m+1,x93,l3_4=>
  if decide (x93<(x69.2.2.1.length:Int)) then
   (bM x69.2.2.1 x93).bind fun x96=>
   (cZ 88 l3_4 [(aC.mk (aI.mk x89 (aYZ.wrap x93)) x96 (aYV.wrap (l.Height+1)) false)]).bind fun aIr=>
   (gR N p l vs dI k x69 x75 x89 m) (aYV.wrap (x93+1)) aIr
  else
   some l3_4
def iX (N:Nat)(p:aJ)(l:aF)(vs dI k:Int)(x69:Int×(List bL)×(List bA)×Int×Int)(x75:List aG)(rec:Int→Option (Int×(List aG)×(List aC)))(j8:List aC):Option (Int×(List aG)×(List aC)):=
 (aAQ N (aG.mk x69.1 x69.2.1 x69.2.2.1 x69.2.2.2.1)).bind fun x89=>
 (bH 32 x89).bind fun q=>
 (gR N p l vs dI k x69 x75 x89 N 0 j8).bind fun p9=>
 pI N p l vs dI k x69 x75 rec p9
def iW (N:Nat)(p:aJ)(l:aF)(vs dI k:Int)(l2:List aG)(l3:List aC)(vi x46:Int)(x49:aC)(rec:Int→Option (Int×(List aG)×(List aC)))(x63:Bool):Option (Int×(List aG)×(List aC)):=
 if x63 then
  pC N p l vs dI k l2 l3 vi rec
 else
  (aBR N x49 (aY1.wrap (vs+k))).bind fun x69=>
  (cZ 64 l2 [(aG.mk x69.1 x69.2.1 x69.2.2.1 x69.2.2.2.1)]).bind fun x75=>
  if decide (aYV.wrap (x46+1)=(l3.length:Int)) then
   (sub l3 0 x46).bind fun x82=>
   (cZ 88 x82 []).bind fun x87=>
   iX N p l vs dI k x69 x75 rec x87
  else
   (sub l3 0 x46).bind fun aUn=>
   (sub l3 (aYV.wrap (x46+1)) (l3.length:Int)).bind fun x86=>
   (cZ 88 aUn x86).bind fun aKg=>
   iX N p l vs dI k x69 x75 rec aKg
def cU (N:Nat)(p:aJ)(l:aF)(vs dI k:Int)(l2:List aG)(l3:List aC):Nat→Int→Option (Int×(List aG)×(List aC))
 |0,_=>none
 |m+1,vi=>
  if decide (vi<(l3.length:Int)) then
   (rem (aYV.wrap ((aYV.wrap ((aYV.wrap (aY1.wrap (aY5 vs 4)))+(aYV.wrap k)))+vi)) (l3.length:Int)).bind fun x46=>
   (bM l3 x46).bind fun x49=>
   if x49.Coinbase then
    iW N p l vs dI k l2 l3 vi x46 x49 (cU N p l vs dI k l2 l3 m) (decide ((aYV.wrap ((aYV.wrap (l.Height+1))-x49.Height))<p.Maturity))
   else
    iW N p l vs dI k l2 l3 vi x46 x49 (cU N p l vs dI k l2 l3 m) false
  else
   some (dI,l2,l3)
def fM (N:Nat)(p:aJ)(l:aF)(vs:Int):Nat→Int→Int→(List aG)→(List aC)→Option (Int×(List aG))
 |0,_,_,_,_=>none
 |m+1,dI,k,l2,l3=>
  if decide (k<(aY4 vs 4)) then
   (cU N p l vs dI k l2 l3 N 0).bind fun p4=>
   pF N p l vs k (fM N p l vs m) p4.1 p4.2.1 p4.2.2
  else
   some (dI,l2)
def o8 (N:Nat)(p:aJ)(l:aF)(vs:Int):Option ((List aG)×Int):=
 (cZ 88 [] l.Coins).bind fun eQ=>
 (fM N p l vs N 0 0 [] eQ).bind fun p2=>
 uI N p2.1 p2.2
def aHC (N:Nat):Option aI:=
 some (aI.mk (aYX 32 0) 4294967295)
def aAx (N:Nat)(height value:Int)(script:List Int):Option aG:=
 (aHC N).bind fun x7=>
 some (aG.mk 1 [(bL.mk x7 (aYZ.wrap height) [])] [(bA.mk value script)] 0)
def aBE (N:Nat)(t:aG):Option (List Int):=
 (k8 N t).bind fun x4=>
 if !x4 then
  some [0,0,0,0,0,0,0,0,0,0,0,0,0,0,0,0,0,0,0,0,0,0,0,0,0,0,0,0,0,0,0,0]
 else
  (jN N t true).bind fun x8=>
  (qR N x8).bind fun x9=>
  (bH 32 x9).bind fun q=>
  some x9
def aDk (N:Nat)(l0:List Int):Option (List Int):=
 some l0
def o5 (N:Nat)(l:List (List Int)):Nat→Int→(List Int)→Option (List Int)
 |0,_,_=>none
 |m+1,x8,aM=>
  if decide (x8<(l.length:Int)) then
   (bM l x8).bind fun bQ=>
   (eP N aM bQ).bind fun bZ=>
   (o5 N l m) (aYV.wrap (x8+1)) bZ
  else
   some aM
def nN (N:Nat)(l:List (List Int)):Option (List Int):=
 (o5 N l N 0 []).bind fun p2=>
 aDk N p2
def aBh (N:Nat)(l vr:List Int):Option (List Int):=
 (bH 32 l).bind fun q=>
 (bH 32 vr).bind fun q_1=>
 (nN N [[1],l,vr]).bind fun x9=>
 (kQ N x9).bind fun bQ=>
 (bH 32 bQ).bind fun q_2=>
 some bQ
def aBH (N:Nat)(l0:List (List (List Int))):Option (List (List (List Int))):=
 some l0
def wH (N:Nat)(aM:List (List (List Int)))(rec:(List (List Int))→(List (List (List Int)))→Option (List (List (List Int))))(l1:List (List Int)):Option (List (List (List Int))):=
 (aHu 32 l1).bind fun q=>
 (cZ 24 aM [l1]).bind fun x45=>
 rec l1 x45
def oD (N:Nat)(l_1:List (List Int))(aM:List (List (List Int)))(vi:Int)(rec:Int→(List (List Int))→Option (List (List Int)))(cN:List (List Int)):Option (List (List Int)):=
 rec (aYV.wrap (vi+2)) cN
def gE (N:Nat)(l_1:List (List Int))(aM:List (List (List Int))):Nat→Int→(List (List Int))→Option (List (List Int))
 |0,_,_=>none
 |m+1,vi,b5=>
  if decide (vi<(l_1.length:Int)) then
   if decide ((aYV.wrap (vi+1))<(l_1.length:Int)) then
    (bM l_1 vi).bind fun x25=>
    (bH 32 x25).bind fun q_1=>
    (bM l_1 (aYV.wrap (vi+1))).bind fun fA=>
    (bH 32 fA).bind fun q_2=>
    (aBh N x25 fA).bind fun g6=>
    (bH 32 g6).bind fun q_3=>
    (cZ 32 b5 [g6]).bind fun fB=>
    oD N l_1 aM vi (gE N l_1 aM m) fB
   else
    (bM l_1 vi).bind fun x38=>
    (bH 32 x38).bind fun q_4=>
    (cZ 32 b5 [x38]).bind fun x41=>
    oD N l_1 aM vi (gE N l_1 aM m) x41
  else
   some b5
def jD (N:Nat):Nat→(List (List Int))→(List (List (List Int)))→Option (List (List (List Int)))
 |0,_,_=>none
 |m+1,l_1,aM=>
  if decide (1<(l_1.length:Int)) then
   (gE N l_1 aM N 0 []).bind fun p4=>
   wH N aM (jD N m) p4
  else
   some aM
def aBs (N:Nat)(l:List (List Int)):Option (List (List (List Int))):=
 (jD N N l [l]).bind fun p2=>
 aBH N p2
def rH (N:Nat)(l:List (List Int))(b8:Bool):Option (List Int):=
 if b8 then
  some [0,0,0,0,0,0,0,0,0,0,0,0,0,0,0,0,0,0,0,0,0,0,0,0,0,0,0,0,0,0,0,0]
 else
  (aBs N l).bind fun bZ=>
  (bM bZ (aYV.wrap ((bZ.length:Int)-1))).bind fun x19=>
  (bM x19 0).bind fun cW=>
  (bH 32 cW).bind fun q=>
  some cW
def aCc (N:Nat)(l:List (List Int)):Option (List Int):=
 if(l.length:Int) == 0 then
  rH N l true
 else
  rH N l (decide (1024<(l.length:Int)))
def aAD (N:Nat)(l1:List (List Int)):Option (List Int):=
 (aHu 32 l1).bind fun q=>
 (aCc N l1).bind fun x19=>
 (bH 32 x19).bind fun q_1=>
 some x19
def oW (N:Nat)(l:List aG):Nat→Int→(List (List Int))→Option (List (List Int))
 |0,_,_=>none
 |m+1,x8,b5=>
  if decide (x8<(l.length:Int)) then
   (bM l x8).bind fun bQ=>
   (aBE N bQ).bind fun bZ=>
   (bH 32 bZ).bind fun q_2=>
   (cZ 32 b5 [bZ]).bind fun x16=>
   (oW N l m) (aYV.wrap (x8+1)) x16
  else
   some b5
def yR (N:Nat)(l:List aG):Option (List Int):=
 (oW N l N 0 []).bind fun p2=>
 aAD N p2
def aA1 (N:Nat)(vs:Int):Option Int:=
 some (aYZ.wrap (20+(aYZ.wrap ((aYZ.wrap (aY4 vs 8))*15))))
def lK (N:Nat)(x y:Int):Option (Int×Int):=
 (shr .u64 x 32).bind fun x17=>
 (shr .u64 y 32).bind fun cW=>
 (shr .u64 (aYY.wrap ((bits .and .u64 x 4294967295)*(bits .and .u64 y 4294967295))) 32).bind fun x29=>
 (shr .u64 (aYY.wrap ((aYY.wrap (x17*(bits .and .u64 y 4294967295)))+x29)) 32).bind fun fB=>
 (shr .u64 (aYY.wrap ((bits .and .u64 (aYY.wrap ((aYY.wrap (x17*(bits .and .u64 y 4294967295)))+x29)) 4294967295)+(aYY.wrap ((bits .and .u64 x 4294967295)*cW)))) 32).bind fun x46=>
 some (aYY.wrap ((aYY.wrap ((aYY.wrap (x17*cW))+fB))+x46),aYY.wrap (x*y))
def xI (N:Nat)(l2:List Int):Option ((List Int)×(List Int)):=
 (bH 8 l2).bind fun q=>
 (aG1 l2 0 4).bind fun x64=>
 (aG1 l2 4 8).bind fun x67=>
 (bH 4 (cpy (aYX 4 0) x67)).bind fun q_1=>
 (bH 4 (cpy (aYX 4 0) x64)).bind fun q_2=>
 some (cpy (aYX 4 0) x67,cpy (aYX 4 0) x64)
def aBo (N:Nat)(va b:List Int)(x15:Int)(rec:Int→(List Int)→Option (List Int))(fR:List Int):Option (List Int):=
 rec (aYV.wrap (x15+1)) fR
def aA2 (N:Nat)(va b:List Int)(x15:Int)(rec:Int→(List Int)→Option (List Int))(sZ:Int)(v8:List Int):Option (List Int):=
 (bK 8 v8 (aYV.wrap (x15+4))).bind fun x61=>
 aBo N va b x15 rec (v8.set (aY0 (aYV.wrap (x15+4))) sZ)
def tE (N:Nat)(va b:List Int)(x15:Int):Nat→Int→Int→(List Int)→Option (Int×(List Int))
 |0,_,_,_=>none
 |m+1,carry_1,x18,l4_3=>
  if decide (x18<4) then
   (bK 4 va x15).bind fun eQ=>
   (bK 4 b x18).bind fun x26=>
   (lK N eQ x26).bind fun x28=>
   (bK 8 l4_3 (aYV.wrap (x15+x18))).bind fun x35=>
   (dX N x35 x28.2 0).bind fun x38=>
   (dX N x38.1 carry_1 0).bind fun x44=>
   (tE N va b x15 m) (aYY.wrap ((aYY.wrap (x28.1+x38.2))+x44.2)) (aYV.wrap (x18+1)) (l4_3.set (aY0 (aYV.wrap (x15+x18))) x44.1)
  else
   some (carry_1,l4_3)
def nP (N:Nat)(va b:List Int):Nat→Int→(List Int)→Option (List Int)
 |0,_,_=>none
 |m+1,x15,l4=>
  if decide (x15<4) then
   (tE N va b x15 N 0 0 l4).bind fun p5=>
   aA2 N va b x15 (nP N va b m) p5.1 p5.2
  else
   some l4
def aAZ (N:Nat)(va b:List Int):Option ((List Int)×(List Int)):=
 (nP N va b N 0 (aYX 8 0)).bind fun p2=>
 xI N p2
def sG (N:Nat)(x y c:Int):Option (Int×Int):=aFQ x y c
def aBS (N:Nat)(borrow:Int)(l1:List Int):Option ((List Int)×Bool):=
 (bH 4 l1).bind fun q=>
 some (l1,borrow == 1)
def tP (N:Nat)(va b:List Int):Nat→Int→Int→(List Int)→Option (Int×(List Int))
 |0,_,_,_=>none
 |m+1,borrow_1,x9,l3=>
  if decide (x9<4) then
   (bK 4 va x9).bind fun x15=>
   (bK 4 b x9).bind fun x18=>
   (sG N x15 x18 borrow_1).bind fun cW=>
   (bK 4 l3 x9).bind fun dL=>
   (tP N va b m) cW.2 (aYV.wrap (x9+1)) (l3.set (aY0 x9) cW.1)
  else
   some (borrow_1,l3)
def aAT (N:Nat)(va b:List Int):Option ((List Int)×Bool):=
 (tP N va b N 0 0 (aYX 4 0)).bind fun p2=>
 aBS N p2.1 p2.2
def aA3 (N:Nat)(l0 l1:List Int):Option ((List Int)×(List Int)×Bool):=
 (bH 4 l0).bind fun q_2=>
 (bH 4 l1).bind fun q_3=>
 some (l0,l1,true)
def yL (N:Nat)(lo b:List Int)(vi:Int)(rec:Int→(List Int)→(List Int)→Option ((List Int)×(List Int)))(dJ eY:List Int):Option ((List Int)×(List Int)):=
 rec (aYV.wrap (vi-1)) dJ eY
def tY (N:Nat)(lo b:List Int)(vi:Int)(l2 j8:List Int)(rec:Int→(List Int)→(List Int)→Option ((List Int)×(List Int)))(x43:Bool):Option ((List Int)×(List Int)):=
 if x43 then
  (bH 4 j8).bind fun q_6=>
  (aAT N j8 b).bind fun x47=>
  (bH 4 x47.1).bind fun q_7=>
  (bK 4 l2 (aYV.wrap (aY5 vi 64))).bind fun x52=>
  (shl .u64 1 (aY4 vi 64)).bind fun x56=>
  yL N lo b vi rec (l2.set (aY0 (aYV.wrap (aY5 vi 64))) (bits .or .u64 x52 x56)) x47.1
 else
  yL N lo b vi rec l2 j8
def tV (N:Nat)(lo b:List Int)(vi:Int)(l2:List Int)(eQ:Bool)(rec:Int→(List Int)→(List Int)→Option ((List Int)×(List Int)))(j8:List Int):Option ((List Int)×(List Int)):=
 if eQ then
  tY N lo b vi l2 j8 rec true
 else
  (bH 4 j8).bind fun q_8=>
  (iJ N j8 b).bind fun x41=>
  tY N lo b vi l2 j8 rec (decide (0≤x41))
def fV (N:Nat)(lo b:List Int):Nat→Int→(List Int)→(List Int)→Option ((List Int)×(List Int))
 |0,_,_,_=>none
 |m+1,vi,l2,l3=>
  if decide (0≤vi) then
   (bH 4 l3).bind fun q_4=>
   (r7 N l3 255).bind fun eQ=>
   (xP N l3 l3).bind fun x27=>
   (bH 4 x27.1).bind fun q_5=>
   (bH 4 lo).bind fun q_9=>
   (r7 N lo vi).bind fun g6=>
   if g6 then
    (bK 4 x27.1 0).bind fun nY=>
    tV N lo b vi l2 eQ (fV N lo b m) (x27.1.set (aY0 0) (bits .or .u64 nY 1))
   else
    tV N lo b vi l2 eQ (fV N lo b m) x27.1
  else
   some (l2,l3)
def aDc (N:Nat)(hi lo b:List Int):Option ((List Int)×(List Int)×Bool):=
 (bH 4 b).bind fun q=>
 (bH 4 hi).bind fun q_1=>
 (iJ N b hi).bind fun cB=>
 if decide (cB≤0) then
  some (aYX 4 0,aYX 4 0,false)
 else
  (fV N lo b N 255 (aYX 4 0) hi).bind fun p2=>
  aA3 N p2.1 p2.2
def nA (N:Nat)(t:List Int)(x:Int)(rec:Int→Option (LR (Unit) (Int))):Option (LR (Unit) (Int)):=
 rec (aYV.wrap (x+1))
def mO (N:Nat)(t:List Int)(x:Int)(rec:Int→Option (LR (Unit) (Int)))(l1:List Int):Option (LR (Unit) (Int)):=
 (bH 4 l1).bind fun q_1=>
 (aC0 N l1).bind fun cO=>
 if decide (cO≤23) then
  (shl .u32 (aYZ.wrap x) 24).bind fun x35=>
  (bK 4 l1 0).bind fun x36=>
  some (.ret (bits .or .u32 x35 (aYZ.wrap x36)))
 else
  nA N t x rec
def dR (N:Nat)(t:List Int):Nat→Int→Option (LR (Unit) (Int))
 |0,_=>none
 |m+1,x=>
  if decide (x≤3) then
   (xK N t (aYV.wrap (8*(aYV.wrap (3-x))))).bind fun x16=>
   (bH 4 x16).bind fun q_2=>
   (mC N x16 (aYV.wrap (8*(aYV.wrap (3-x))))).bind fun cW=>
   (iJ N cW t).bind fun eQ=>
   if eQ != 0 then
    nA N t x (dR N t m)
   else
    mO N t x (dR N t m) x16
  else
   (mC N t (aYV.wrap (8*(aYV.wrap (x-3))))).bind fun x29=>
   (bH 4 x29).bind fun q_3=>
   mO N t x (dR N t m) x29
def u6 (N:Nat)(t:List Int):Option Int:=
 (bH 4 t).bind fun q=>
 (pH N t).bind fun x6=>
 if x6 then
  some 0
 else
  (dR N t N 1).bind fun q=>match q with
   | .ret v=>some v
   | .brk p1=>
    none
def oC (N:Nat)(aM:List Int):Option (Int×Int):=
 (bH 4 aM).bind fun q_5=>
 (u6 N aM).bind fun x82=>
 some (x82,0)
def n4 (N:Nat)(l0:List Int):Option (Int×Int):=
 (bH 4 l0).bind fun q_6=>
 (pH N l0).bind fun x79=>
 if x79 then
  (gZ N 1).bind fun x80=>
  (bH 4 x80).bind fun q_7=>
  oC N x80
 else
  oC N l0
def n8 (N:Nat)(p:aJ)(x63:(List Int)×(List Int)×Bool)(x75:Bool):Option (Int×Int):=
 if x75 then
  (bH 4 p.Limit).bind fun q_8=>
  n4 N p.Limit
 else
  n4 N x63.1
def n6 (N:Nat)(p:aJ)(dL:(List Int)×Int)(vZ:Int):Option (Int×Int):=
 (gZ N (if(aYY.wrap (4*(aYY.wrap ((aYY.wrap p.Window)*(aYY.wrap p.Spacing)))))<(if(aYY.wrap (aY5 (aYY.wrap ((aYY.wrap p.Window)*(aYY.wrap p.Spacing))) 4))>vZ then(aYY.wrap (aY5 (aYY.wrap ((aYY.wrap p.Window)*(aYY.wrap p.Spacing))) 4))else vZ)then(aYY.wrap (4*(aYY.wrap ((aYY.wrap p.Window)*(aYY.wrap p.Spacing)))))else(if(aYY.wrap (aY5 (aYY.wrap ((aYY.wrap p.Window)*(aYY.wrap p.Spacing))) 4))>vZ then(aYY.wrap (aY5 (aYY.wrap ((aYY.wrap p.Window)*(aYY.wrap p.Spacing))) 4))else vZ))).bind fun x54=>
 (aAZ N dL.1 x54).bind fun x55=>
 (bH 4 x55.1).bind fun q_1=>
 (bH 4 x55.2).bind fun q_2=>
 (gZ N (aYY.wrap ((aYY.wrap p.Window)*(aYY.wrap p.Spacing)))).bind fun x62=>
 (aDc N x55.1 x55.2 x62).bind fun x63=>
 (bH 4 x63.1).bind fun q_3=>
 (bH 4 x63.2.1).bind fun q_4=>
 if !x63.2.2 then
  n8 N p x63 true
 else
  (bH 4 p.Limit).bind fun q_9=>
  (iJ N x63.1 p.Limit).bind fun x73=>
  n8 N p x63 (decide (0<x73))
def xM (N:Nat)(p:aJ)(kZ first last:Int):Option (Int×Int):=
 (iT N p).bind fun b6=>
 if !b6 then
  some (0,6)
 else
  (qC N kZ).bind fun dL=>
  (bH 4 dL.1).bind fun q=>
  if dL.2 != 0 then
   some (0,dL.2)
  else
   if decide (first<last) then
    n6 N p dL (aYY.wrap (aYZ.wrap (last-first)))
   else
    n6 N p dL 0
def kA (N:Nat)(p:aJ)(c:aU)(fA:Bool):Option (Int×Int):=
 if fA then
  some (0,6)
 else
  (rem (aYV.wrap (c.Height+1)) p.Window).bind fun x36=>
  if x36 != 0 then
   some (c.Bits,0)
  else
   (bM c.Times (aYV.wrap ((c.Times.length:Int)-1))).bind fun x51=>
   (xM N p c.Bits c.First x51).bind fun x53=>
   some (x53.1,x53.2)
def yY (N:Nat)(p:aJ)(c:aU):Option (Int×Int):=
 (iT N p).bind fun x7=>
 if !x7 then
  kA N p c true
 else
  if decide (c.Height<0) then
   kA N p c true
  else
   if decide (16777216<c.Height) then
    kA N p c true
   else
    if(c.Times.length:Int) == 0 then
     kA N p c true
    else
     kA N p c (decide (11<(c.Times.length:Int)))
def wK (N:Nat)(l0:List Int):Option Int:=
 if(l0.length:Int) == 0 then
  some 0
 else
  (bM l0 (aYV.wrap (aY5 (l0.length:Int) 2))).bind fun x46=>
  some x46
def wQ (N:Nat)(l:List Int)(x9:Int)(rec:Int→(List Int)→Option (List Int))(dW:List Int):Option (List Int):=
 rec (aYV.wrap (x9+1)) dW
def wU (N:Nat)(l:List Int)(x9:Int)(aM:List Int)(b8:Int)(rec:Int→(List Int)→Option (List Int))(vi:Int):Option (List Int):=
 (sub aM 0 vi).bind fun fA=>
 (sub aM vi (aM.length:Int)).bind fun x35=>
 (cZ 4 [b8] x35).bind fun x36=>
 (cZ 4 fA x36).bind fun x37=>
 wQ N l x9 rec x37
def oF (N:Nat)(l:List Int)(x9:Int)(aM:List Int)(b8 fS:Int)(rec:Int→Option Int)(dL:Bool):Option Int:=
 if dL then
  rec (aYV.wrap (fS+1))
 else
  some fS
def iC (N:Nat)(l:List Int)(x9:Int)(aM:List Int)(b8:Int):Nat→Int→Option Int
 |0,_=>none
 |m+1,fS=>
  if decide (fS<(aM.length:Int)) then
   (bM aM fS).bind fun b6=>
   oF N l x9 aM b8 fS (iC N l x9 aM b8 m) (decide (b6≤b8))
  else
   oF N l x9 aM b8 fS (iC N l x9 aM b8 m) false
def iA (N:Nat)(l:List Int):Nat→Int→(List Int)→Option (List Int)
 |0,_,_=>none
 |m+1,x9,aM=>
  if decide (x9<(l.length:Int)) then
   (bM l x9).bind fun b8=>
   (iC N l x9 aM b8 N 0).bind fun p5=>
   wU N l x9 aM b8 (iA N l m) p5
  else
   some aM
def t7 (N:Nat)(l:List Int):Option Int:=
 (iA N l N 0 []).bind fun p2=>
 wK N p2
def r8 (N:Nat)(l1:List Int):Option (List Int):=
 (bH 4 l1).bind fun q=>
 some l1
def iL (N:Nat)(vh:List Int):Nat→Int→(List Int)→Option (List Int)
 |0,_,_=>none
 |m+1,x6,l2=>
  if decide (x6<32) then
   (bK 4 l2 (aYV.wrap (aY5 (aYV.wrap (31-x6)) 8))).bind fun cB=>
   (bK 32 vh x6).bind fun x16=>
   (shl .u64 (aYY.wrap x16) (aYV.wrap (8*(aY4 (aYV.wrap (31-x6)) 8)))).bind fun bW=>
   (iL N vh m) (aYV.wrap (x6+1)) (l2.set (aY0 (aYV.wrap (aY5 (aYV.wrap (31-x6)) 8))) (bits .or .u64 cB bW))
  else
   some l2
def sA (N:Nat)(vh:List Int):Option (List Int):=
 (iL N vh N 0 (aYX 4 0)).bind fun p2=>
 r8 N p2
def yW (N:Nat)(x4:Bool):Option Bool:=
 some x4
def vU (N:Nat)(vh:List Int)(kZ:Int):Option Bool:=
 (qC N kZ).bind fun x9=>
 (bH 4 x9.1).bind fun q=>
 if x9.2 == 0 then
  (bH 32 vh).bind fun q_1=>
  (sA N vh).bind fun x16=>
  (iJ N x16 x9.1).bind fun x18=>
  yW N (decide (x18≤0))
 else
  yW N false
def aD0 (N:Nat)(p:aJ)(c:aU)(oV:List Int)(vby:Int)(x15:Int×Int)(x25 c1:Int):Option bT:=
 some (bT.mk p.Version c.Hash oV (aYZ.wrap ((aYZ.wrap (x25+1))+vby)) x15.1 c1)
def qJ (N:Nat)(p:aJ)(c:aU)(oV:List Int)(vby:Int)(x15:Int×Int)(x25:Int):Nat→Int→Option (LR (Int) (bT))
 |0,_=>none
 |m+1,uJ=>
  if decide (uJ<20000) then
   (nJ N (bT.mk p.Version c.Hash oV (aYZ.wrap ((aYZ.wrap (x25+1))+vby)) x15.1 uJ)).bind fun x40=>
   (vU N x40 x15.1).bind fun x42=>
   if x42 then
    some (.ret (bT.mk p.Version c.Hash oV (aYZ.wrap ((aYZ.wrap (x25+1))+vby)) x15.1 uJ))
   else
    (qJ N p c oV vby x15 x25 m) (aYZ.wrap (uJ+1))
  else
   some (.brk uJ)
def aCY (N:Nat)(p:aJ)(c:aU)(oV:List Int)(vby:Int):Option bT:=
 (yY N p c).bind fun x15=>
 (bH 32 c.Hash).bind fun q=>
 (bH 32 oV).bind fun q_1=>
 (t7 N c.Times).bind fun x25=>
 (qJ N p c oV vby x15 x25 N 0).bind fun q=>match q with
  | .ret v=>some v
  | .brk p2=>
   aD0 N p c oV vby x15 x25 p2
def aBd (N:Nat)(p:aJ)(l:aF)(c:aU)(vs:Int):Option aV:=
 (o8 N p l vs).bind fun x16=>
 (j9 N p (aYV.wrap (l.Height+1))).bind fun x26=>
 (vL N (aY1.wrap (aY5 vs 8))).bind fun cO=>
 (aAx N (aYV.wrap (l.Height+1)) (aYV.wrap (x26+x16.2)) cO).bind fun g6=>
 (cZ 64 [g6] x16.1).bind fun x35=>
 (yR N x35).bind fun x41=>
 (aA1 N vs).bind fun x43=>
 (aCY N p c x41 x43).bind fun x44=>
 some (aV.mk x44 x35)
def xA (N:Nat)(t:aG)(cE:Bool):Option ((List Int)×Int):=
 (k8 N t).bind fun x7=>
 if !x7 then
  some ([],4)
 else
  (jN N t cE).bind fun b8=>
  some (b8,0)
def aB4 (N:Nat)(l0:List Int):Option (List Int):=
 some l0
def lI (N:Nat)(b:aV):Nat→Int→(List Int)→Option (List Int)
 |0,_,_=>none
 |m+1,x19,aM=>
  if decide (x19<(b.Txs.length:Int)) then
   (bM b.Txs x19).bind fun cW=>
   (xA N cW true).bind fun x25=>
   (cZ 1 aM x25.1).bind fun fA=>
   (lI N b m) (aYV.wrap (x19+1)) fA
  else
   some aM
def aBT (N:Nat)(b:aV):Option (List Int):=
 (kP N b.Header).bind fun bQ=>
 (gQ N bQ (aYY.wrap (b.Txs.length:Int))).bind fun x15=>
 (lI N b N 0 x15).bind fun p2=>
 aB4 N p2
def aAy (N:Nat)(b:aV):Option Bool:=
 (aBT N b).bind fun cW=>
 some (decide ((cW.length:Int)≤100000))
def oQ (N:Nat)(b:aV):Nat→Int→Option (LR (Unit) (Bool))
 |0,_=>none
 |m+1,cH=>
  if decide (cH<(b.Txs.length:Int)) then
   (bM b.Txs cH).bind fun bZ=>
   (k8 N bZ).bind fun x17=>
   if !x17 then
    some (.ret false)
   else
    (oQ N b m) (aYV.wrap (cH+1))
  else
   some (.brk ())
def aBN (N:Nat)(b:aV):Option Bool:=
 if decide (256<(b.Txs.length:Int)) then
  some false
 else
  (oQ N b N 0).bind fun q=>match q with
   | .ret v=>some v
   | .brk p2=>
    aAy N b
def zO (N:Nat)(o:aI):Option Bool:=
 some (sX o.Tx (aYX 32 0) ((o.Index == 4294967295)&&true))
def s9 (N:Nat)(x2:Bool):Option Bool:=
 some x2
def kY (N:Nat)(t:aG):Option Bool:=
 if(t.Inputs.length:Int) == 1 then
  (bM t.Inputs 0).bind fun bQ=>
  (zO N bQ.Prev).bind fun cB=>
  s9 N cB
 else
  s9 N false
def aCw (N:Nat):Option Int:=
 some 0
def pV (N:Nat)(t:aG)(x68:Int)(rec:Int→Option (LR (Unit) (Int)))(x79:Bool):Option (LR (Unit) (Int)):=
 if x79 then
  some (.ret 92)
 else
  rec (aYV.wrap (x68+1))
def gY (N:Nat)(t:aG):Nat→Int→Option (LR (Unit) (Int))
 |0,_=>none
 |m+1,x68=>
  if decide (x68<(t.Inputs.length:Int)) then
   (bM t.Inputs x68).bind fun x70=>
   (zO N x70.Prev).bind fun x74=>
   if x74 then
    (kY N t).bind fun x77=>
    pV N t x68 (gY N t m) (!x77)
   else
    pV N t x68 (gY N t m) false
  else
   some (.brk ())
def tO (N:Nat)(t:aG):Option Int:=
 (gY N t N 0).bind fun q=>match q with
  | .ret v=>some v
  | .brk p5=>
   aCw N
def yU (N:Nat)(t:aG)(x43:Int)(rec:Int→Option (LR (Unit) (Int))):Option (LR (Unit) (Int)):=
 rec (aYV.wrap (x43+1))
def nE (N:Nat)(t:aG)(x43:Int):Nat→Int→Option (LR (Unit) (Int))
 |0,_=>none
 |m+1,k=>
  if decide (k<x43) then
   (bM t.Inputs x43).bind fun x54=>
   (bM t.Inputs k).bind fun x60=>
   if(sX x54.Prev.Tx x60.Prev.Tx ((x54.Prev.Index == x60.Prev.Index)&&true)) then
    some (.ret 91)
   else
    (nE N t x43 m) (aYV.wrap (k+1))
  else
   some (.brk ())
def kW (N:Nat)(t:aG):Nat→Int→Option (LR (Unit) (Int))
 |0,_=>none
 |m+1,x43=>
  if decide (x43<(t.Inputs.length:Int)) then
   (nE N t x43 N 0).bind fun q=>match q with
    | .ret v=>some (.ret v)
    | .brk p9=>
     yU N t x43 (kW N t m)
  else
   some (.brk ())
def tI (N:Nat)(t:aG)(sum:Int):Option Int:=
 if decide (2100000000000000<sum) then
  some 90
 else
  (kW N t N 0).bind fun q=>match q with
   | .ret v=>some v
   | .brk p7=>
    tO N t
def lQ (N:Nat)(t:aG):Nat→Int→Int→Option (LR (Int) (Int))
 |0,_,_=>none
 |m+1,eO,x26=>
  if decide (x26<(t.Outputs.length:Int)) then
   (bM t.Outputs x26).bind fun x28=>
   if decide (2100000000000000<x28.Value) then
    some (.ret 90)
   else
    (lQ N t m) (aYV.wrap (eO+x28.Value)) (aYV.wrap (x26+1))
  else
   some (.brk eO)
def pY (N:Nat)(t:aG)(bW:Bool):Option Int:=
 if bW then
  some 93
 else
  (lQ N t N 0 0).bind fun q=>match q with
   | .ret v=>some v
   | .brk p10=>
    tI N t p10
def vX (N:Nat)(t:aG):Option Int:=
 (k8 N t).bind fun b8=>
 if !b8 then
  some 4
 else
  if(t.Inputs.length:Int) == 0 then
   pY N t true
  else
   pY N t ((t.Outputs.length:Int) == 0)
def aCn (N:Nat):Option Int:=
 some (-1)
def mY (N:Nat)(ids:List (List Int))(vid:List Int):Nat→Int→Option (LR (Unit) (Int))
 |0,_=>none
 |m+1,x8=>
  if decide (x8<(ids.length:Int)) then
   (bM ids x8).bind fun cB=>
   (bH 32 cB).bind fun q=>
   (bH 32 vid).bind fun q_1=>
   if cB == vid then
    some (.ret x8)
   else
    (mY N ids vid m) (aYV.wrap (x8+1))
  else
   some (.brk ())
def vP (N:Nat)(ids:List (List Int))(vid:List Int):Option Int:=
 (mY N ids vid N 0).bind fun q=>match q with
  | .ret v=>some v
  | .brk p2=>
   aCn N
def aAK (N:Nat):Option Bool:=
 some false
def uQ (N:Nat)(b:aV)(ids:List (List Int))(cH:Int)(rec:Int→Option (LR (Unit) (Bool))):Option (LR (Unit) (Bool)):=
 rec (aYV.wrap (cH+1))
def kH (N:Nat)(b:aV)(ids:List (List Int))(cH:Int)(x15:aG):Nat→Int→Option (LR (Unit) (Bool))
 |0,_=>none
 |m+1,b6=>
  if decide (b6<(x15.Inputs.length:Int)) then
   (bM x15.Inputs b6).bind fun bW=>
   (bH 32 bW.Prev.Tx).bind fun q=>
   (vP N ids bW.Prev.Tx).bind fun x28=>
   if decide (cH≤x28) then
    some (.ret true)
   else
    (kH N b ids cH x15 m) (aYV.wrap (b6+1))
  else
   some (.brk ())
def iK (N:Nat)(b:aV)(ids:List (List Int)):Nat→Int→Option (LR (Unit) (Bool))
 |0,_=>none
 |m+1,cH=>
  if decide (cH<(b.Txs.length:Int)) then
   (bM b.Txs cH).bind fun x15=>
   (kH N b ids cH x15 N 0).bind fun q=>match q with
    | .ret v=>some (.ret v)
    | .brk p4=>
     uQ N b ids cH (iK N b ids m)
  else
   some (.brk ())
def vC (N:Nat)(b:aV)(ids:List (List Int)):Option Bool:=
 (iK N b ids N 0).bind fun q=>match q with
  | .ret v=>some v
  | .brk p2=>
   aAK N
def aCr (N:Nat):Option Bool:=
 some false
def zK (N:Nat)(b:aV)(cB:Int)(rec:Int→(List aI)→Option (LR (Unit) (Bool)))(aM:List aI):Option (LR (Unit) (Bool)):=
 rec (aYV.wrap (cB+1)) aM
def yT (N:Nat)(b:aV)(cB:Int)(x15:aG)(b6:Int)(rec:Int→(List aI)→Option (LR ((List aI)) (Bool)))(nR:List aI):Option (LR ((List aI)) (Bool)):=
 rec (aYV.wrap (b6+1)) nR
def zD (N:Nat)(b:aV)(cB:Int)(x15:aG)(b6:Int)(dW:List aI)(bW:bL)(rec:Int→(List aI)→Option (LR ((List aI)) (Bool))):Option (LR ((List aI)) (Bool)):=
 (cZ 36 dW [bW.Prev]).bind fun x39=>
 yT N b cB x15 b6 rec x39
def mS (N:Nat)(b:aV)(cB:Int)(x15:aG)(b6:Int)(dW:List aI)(bW:bL):Nat→Int→Option (LR (Unit) (Bool))
 |0,_=>none
 |m+1,x26=>
  if decide (x26<(dW.length:Int)) then
   (bM dW x26).bind fun x28=>
   if(sX x28.Tx bW.Prev.Tx ((x28.Index == bW.Prev.Index)&&true)) then
    some (.ret true)
   else
    (mS N b cB x15 b6 dW bW m) (aYV.wrap (x26+1))
  else
   some (.brk ())
def i6 (N:Nat)(b:aV)(cB:Int)(x15:aG):Nat→Int→(List aI)→Option (LR ((List aI)) (Bool))
 |0,_,_=>none
 |m+1,b6,dW=>
  if decide (b6<(x15.Inputs.length:Int)) then
   (bM x15.Inputs b6).bind fun bW=>
   (mS N b cB x15 b6 dW bW N 0).bind fun q=>match q with
    | .ret v=>some (.ret v)
    | .brk p7=>
     zD N b cB x15 b6 dW bW (i6 N b cB x15 m)
  else
   some (.brk dW)
def kN (N:Nat)(b:aV):Nat→Int→(List aI)→Option (LR (Unit) (Bool))
 |0,_,_=>none
 |m+1,cB,l0=>
  if decide (cB<(b.Txs.length:Int)) then
   (bM b.Txs cB).bind fun x15=>
   (i6 N b cB x15 N 0 l0).bind fun q=>match q with
    | .ret v=>some (.ret v)
    | .brk p4=>
     zK N b cB (kN N b m) p4
  else
   some (.brk ())
def aAf (N:Nat)(b:aV):Option Bool:=
 (kN N b N 0 []).bind fun q=>match q with
  | .ret v=>some v
  | .brk p2=>
   aCr N
def uD (N:Nat)(b:aV)(l1:List (List Int)):Option Int:=
 (aHu 32 l1).bind fun q=>
 (vC N b l1).bind fun x67=>
 if x67 then
  some 101
 else
  (aAf N b).bind fun x70=>
  if x70 then
   some 91
  else
   (yR N b.Txs).bind fun x74=>
   (bH 32 b.Header.Root).bind fun q_1=>
   (bH 32 x74).bind fun q_2=>
   if !(x74 == b.Header.Root) then
    some 110
   else
    some 0
def mJ (N:Nat)(b:aV):Nat→Int→(List (List Int))→Option (LR ((List (List Int))) (Int))
 |0,_,_=>none
 |m+1,x49,b5=>
  if decide (x49<(b.Txs.length:Int)) then
   (bM b.Txs x49).bind fun x51=>
   (aAQ N x51).bind fun x54=>
   (bH 32 x54).bind fun q_3=>
   (aHu 32 b5).bind fun q_4=>
   (vP N b5 x54).bind fun x57=>
   if decide (0≤x57) then
    some (.ret 91)
   else
    (cZ 32 b5 [x54]).bind fun x62=>
    (mJ N b m) (aYV.wrap (x49+1)) x62
  else
   some (.brk b5)
def uC (N:Nat)(b:aV):Option Int:=
 (mJ N b N 0 []).bind fun q=>match q with
  | .ret v=>some v
  | .brk p4=>
   uD N b p4
def mT (N:Nat)(b:aV):Nat→Int→Option (LR (Unit) (Int))
 |0,_=>none
 |m+1,x36=>
  if decide (x36<(b.Txs.length:Int)) then
   (bM b.Txs x36).bind fun x38=>
   (vX N x38).bind fun x41=>
   if x41 != 0 then
    some (.ret x41)
   else
    (mT N b m) (aYV.wrap (x36+1))
  else
   some (.brk ())
def tF (N:Nat)(b:aV):Option Int:=
 (mT N b N 0).bind fun q=>match q with
  | .ret v=>some v
  | .brk p5=>
   uC N b
def mZ (N:Nat)(b:aV):Nat→Int→Option (LR (Unit) (Int))
 |0,_=>none
 |m+1,bW=>
  if decide (bW<(b.Txs.length:Int)) then
   (bM b.Txs bW).bind fun x25=>
   (kY N x25).bind fun x28=>
   if x28 != (bW == 0) then
    some (.ret 111)
   else
    (mZ N b m) (aYV.wrap (bW+1))
  else
   some (.brk ())
def aAb (N:Nat)(b:aV):Option Int:=
 (aBN N b).bind fun cB=>
 if !cB then
  some 4
 else
  if(b.Txs.length:Int) == 0 then
   some 93
  else
   (mZ N b N 0).bind fun q=>match q with
    | .ret v=>some v
    | .brk p6=>
     tF N b
def aCf (N:Nat):Option Bool:=
 some true
def mV (N:Nat)(t:aG):Nat→Int→Option (LR (Unit) (Bool))
 |0,_=>none
 |m+1,x15=>
  if decide (x15<(t.Inputs.length:Int)) then
   (bM t.Inputs x15).bind fun x17=>
   if x17.Sequence != 4294967295 then
    some (.ret false)
   else
    (mV N t m) (aYV.wrap (x15+1))
  else
   some (.brk ())
def vV (N:Nat)(t:aG)(height:Int):Option Bool:=
 if decide ((aYV.wrap t.Lock)≤height) then
  some true
 else
  (mV N t N 0).bind fun q=>match q with
   | .ret v=>some v
   | .brk p2=>
    aCf N
def pX (N:Nat)(l:aF)(b:aV)(x8:Bool):Option Int:=
 if x8 then
  some 6
 else
  if l.Height == 16777216 then
   some 4
  else
   (bH 32 b.Header.Prev).bind fun q=>
   (bH 32 l.Tip).bind fun q_1=>
   if !(b.Header.Prev == l.Tip) then
    some 144
   else
    (aAb N b).bind fun x29=>
    if x29 != 0 then
     some x29
    else
     (bM b.Txs 0).bind fun x35=>
     (bM x35.Inputs 0).bind fun x38=>
     if(aYV.wrap x38.Sequence) != (aYV.wrap (l.Height+1)) then
      some 102
     else
      (vV N x35 (aYV.wrap (l.Height+1))).bind fun x53=>
      if !x53 then
       some 85
      else
       some 0
def z6 (N:Nat)(p:aJ)(l:aF)(b:aV):Option Int:=
 (iT N p).bind fun bQ=>
 if !bQ then
  pX N l b true
 else
  (sK N l).bind fun bZ=>
  pX N l b (!bZ)
def pS (N:Nat)(c:aC):Option aC:=
 (nN N [c.Output.Script]).bind fun x7=>
 some (aC.mk c.Out (bA.mk c.Output.Value x7) c.Height c.Coinbase)
def aCs (N:Nat)(l1:List aC):Option ((List aC)×Int):=
 some (l1,0)
def pW (N:Nat)(p:aJ)(height:Int)(l1:List aC)(x40:Int)(rec:Int→Option (LR (Unit) ((List aC)×Int)))(x54:Bool):Option (LR (Unit) ((List aC)×Int)):=
 if x54 then
  some (.ret ([],230))
 else
  rec (aYV.wrap (x40+1))
def gW (N:Nat)(p:aJ)(height:Int)(l1:List aC):Nat→Int→Option (LR (Unit) ((List aC)×Int))
 |0,_=>none
 |m+1,x40=>
  if decide (x40<(l1.length:Int)) then
   (bM l1 x40).bind fun x42=>
   if x42.Coinbase then
    pW N p height l1 x40 (gW N p height l1 m) (decide ((aYV.wrap (height-x42.Height))<p.Maturity))
   else
    pW N p height l1 x40 (gW N p height l1 m) false
  else
   some (.brk ())
def zM (N:Nat)(p:aJ)(height:Int)(l1:List aC):Option ((List aC)×Int):=
 (gW N p height l1 N 0).bind fun q=>match q with
  | .ret v=>some v
  | .brk p3=>
   aCs N l1
def mU (N:Nat)(p:aJ)(l:List aC)(t:aG)(height:Int):Nat→Int→(List aC)→Option (LR ((List aC)) ((List aC)×Int))
 |0,_,_=>none
 |m+1,x19,b5=>
  if decide (x19<(t.Inputs.length:Int)) then
   (bM t.Inputs x19).bind fun cW=>
   (rZ N l cW.Prev).bind fun x26=>
   if decide (x26<0) then
    some (.ret ([],101))
   else
    (bM l x26).bind fun g6=>
    (pS N g6).bind fun fB=>
    (cZ 88 b5 [fB]).bind fun x36=>
    (mU N p l t height m) (aYV.wrap (x19+1)) x36
  else
   some (.brk b5)
def z9 (N:Nat)(p:aJ)(l:List aC)(t:aG)(height:Int):Option ((List aC)×Int):=
 (mU N p l t height N 0 []).bind fun q=>match q with
  | .ret v=>some v
  | .brk p5=>
   zM N p height p5
def aA5 (N:Nat)(eO:Int):Option (Int×Int):=
 if decide (eO<0) then
  some (0,100)
 else
  some (eO,0)
def qS (N:Nat)(t:aG):Nat→Int→Int→Option Int
 |0,_,_=>none
 |m+1,sum_2,x69=>
  if decide (x69<(t.Outputs.length:Int)) then
   (bM t.Outputs x69).bind fun x71=>
   (qS N t m) (aYV.wrap (sum_2-x71.Value)) (aYV.wrap (x69+1))
  else
   some sum_2
def aB3 (N:Nat)(t:aG)(sum:Int):Option (Int×Int):=
 if decide (2100000000000000<sum) then
  some (0,90)
 else
  (qS N t N sum 0).bind fun p4=>
  aA5 N p4
def tX (N:Nat)(t:aG)(l:List aC)(yQ x44:Int)(x46:aC)(rec:Int→Int→Option (LR (Int) (Int×Int)))(x57:Bool):Option (LR (Int) (Int×Int)):=
 if x57 then
  some (.ret (0,90))
 else
  rec (aYV.wrap (yQ+x46.Output.Value)) (aYV.wrap (x44+1))
def jW (N:Nat)(t:aG)(l:List aC):Nat→Int→Int→Option (LR (Int) (Int×Int))
 |0,_,_=>none
 |m+1,yQ,x44=>
  if decide (x44<(l.length:Int)) then
   (bM l x44).bind fun x46=>
   if decide (x46.Output.Value<0) then
    tX N t l yQ x44 x46 (jW N t l m) true
   else
    tX N t l yQ x44 x46 (jW N t l m) (decide (2100000000000000<x46.Output.Value))
  else
   some (.brk yQ)
def aB2 (N:Nat)(t:aG)(l:List aC):Option (Int×Int):=
 (jW N t l N 0 0).bind fun q=>match q with
  | .ret v=>some v
  | .brk p5=>
   aB3 N t p5
def qG (N:Nat)(t:aG)(l:List aC):Nat→Int→Option (LR (Unit) (Int×Int))
 |0,_=>none
 |m+1,x26=>
  if decide (x26<(l.length:Int)) then
   (bM l x26).bind fun cO=>
   (bM t.Inputs x26).bind fun x37=>
   if !(sX cO.Out.Tx x37.Prev.Tx ((cO.Out.Index == x37.Prev.Index)&&true)) then
    some (.ret (0,101))
   else
    (qG N t l m) (aYV.wrap (x26+1))
  else
   some (.brk ())
def aC2 (N:Nat)(t:aG)(l:List aC):Option (Int×Int):=
 (vX N t).bind fun bZ=>
 if bZ != 0 then
  some (0,bZ)
 else
  if(l.length:Int) != (t.Inputs.length:Int) then
   some (0,8)
  else
   (qG N t l N 0).bind fun q=>match q with
    | .ret v=>some v
    | .brk p7=>
     aB2 N t l
def yE (N:Nat)(tag:ByteArray)(b:List Int):Option (List Int):=
 (stb tag).bind fun x7=>
 (kQ N x7).bind fun x8=>
 (bH 32 x8).bind fun q=>
 (cZ 1 [] x8).bind fun bQ=>
 (cZ 1 bQ x8).bind fun cH=>
 (cZ 1 cH b).bind fun bZ=>
 (kQ N bZ).bind fun x15=>
 (bH 32 x15).bind fun q_1=>
 some x15
def qW (N:Nat)(t:aG)(vi:Int)(o:bA)(l3 l4 l5:List Int):Option ((List Int)×Int):=
 (dY N [] t.Version).bind fun x72=>
 (kQ N l3).bind fun x75=>
 (eZ N x72 x75).bind fun x76=>
 (kQ N l4).bind fun x79=>
 (eZ N x76 x79).bind fun x80=>
 (kQ N l5).bind fun x83=>
 (eZ N x80 x83).bind fun x84=>
 (dY N x84 t.Lock).bind fun x88=>
 (dY N x88 (aYZ.wrap vi)).bind fun x92=>
 (yD N o).bind fun x95=>
 (cZ 1 x92 x95).bind fun x96=>
 (yE N (⟨#[108,105,103,104,116,99,108,105,101,110,116,47,115,112,101,110,100]⟩) x96).bind fun x97=>
 (bH 32 x97).bind fun q=>
 some (x97,0)
def kJ (N:Nat)(t:aG)(vi:Int)(o:bA)(l3 l4:List Int):Nat→Int→(List Int)→Option (List Int)
 |0,_,_=>none
 |m+1,x61,jY=>
  if decide (x61<(t.Outputs.length:Int)) then
   (bM t.Outputs x61).bind fun x63=>
   (yD N x63).bind fun x67=>
   (cZ 1 jY x67).bind fun x68=>
   (kJ N t vi o l3 l4 m) (aYV.wrap (x61+1)) x68
  else
   some jY
def qD (N:Nat)(t:aG)(vi:Int)(o:bA)(l3 l4:List Int):Option ((List Int)×Int):=
 (kJ N t vi o l3 l4 N 0 []).bind fun p5=>
 qW N t vi o l3 l4 p5
def kG (N:Nat)(t:aG)(vi:Int)(o:bA):Nat→Int→(List Int)→(List Int)→Option ((List Int)×(List Int))
 |0,_,_,_=>none
 |m+1,x44,eY,fR=>
  if decide (x44<(t.Inputs.length:Int)) then
   (bM t.Inputs x44).bind fun x46=>
   (vW N x46.Prev).bind fun x51=>
   (cZ 1 eY x51).bind fun x52=>
   (dY N fR x46.Sequence).bind fun x56=>
   (kG N t vi o m) (aYV.wrap (x44+1)) x52 x56
  else
   some (eY,fR)
def nI (N:Nat)(t:aG)(vi:Int)(o:bA)(x39:Bool):Option ((List Int)×Int):=
 if x39 then
  some ([0,0,0,0,0,0,0,0,0,0,0,0,0,0,0,0,0,0,0,0,0,0,0,0,0,0,0,0,0,0,0,0],5)
 else
  (kG N t vi o N 0 [] []).bind fun p6=>
  qD N t vi o p6.1 p6.2
def kE (N:Nat)(t:aG)(vi:Int)(o:bA)(x29:Bool):Option ((List Int)×Int):=
 if x29 then
  some ([0,0,0,0,0,0,0,0,0,0,0,0,0,0,0,0,0,0,0,0,0,0,0,0,0,0,0,0,0,0,0,0],4)
 else
  if decide (vi<0) then
   nI N t vi o true
  else
   nI N t vi o (decide ((t.Inputs.length:Int)≤vi))
def vG (N:Nat)(t:aG)(vi:Int)(o:bA):Option ((List Int)×Int):=
 (k8 N t).bind fun x17=>
 if !x17 then
  kE N t vi o true
 else
  if decide (o.Value<0) then
   kE N t vi o true
  else
   kE N t vi o (decide (520<(o.Script.length:Int)))
def mI (N:Nat)(x40:Bool):Option Int:=
 if x40 then
  some 5
 else
  some 0
def pQ (N:Nat)(o:cM)(cH:Bool):Option Int:=
 if cH then
  some 6
 else
  if decide (255<(o.Data.length:Int)) then
   some 4
  else
   if o.Code == 11 then
    if decide (o.N<1) then
     mI N true
    else
     if decide (15<o.N) then
      mI N true
     else
      if decide (o.M<1) then
       mI N true
      else
       mI N (decide (o.N<o.M))
   else
    mI N false
def yP (N:Nat)(o:cM)(aGv:Bool):Option Int:=
 if aGv then
  pQ N o aGv
 else
  if o.M != 0 then
   pQ N o (o.Code != 11)
  else
   if o.N != 0 then
    pQ N o (o.Code != 11)
   else
    pQ N o false
def zU (N:Nat)(o:cM)(x3:Bool):Option Int:=
 if x3 then
  some 80
 else
  if decide (0<(o.Data.length:Int)) then
   yP N o (o.Code != 1)
  else
   yP N o false
def aE5 (N:Nat)(o:cM):Option Int:=
 if decide (o.Code<1) then
  zU N o true
 else
  zU N o (decide (17<o.Code))
def xB (N:Nat)(x8:Int)(b_1:List Int)(c1 uJ:Int)(l2:List Int):Option (Int×(List Int)×Int×Int×(List Int)×Int):=
 (aE5 N (cM.mk (aYV.wrap x8) l2 c1 uJ)).bind fun x76=>
 some (aYV.wrap x8,l2,c1,uJ,b_1,x76)
def aBe (N:Nat)(x8:Int)(bW:List Int)(x39:Bool):Option (Int×(List Int)×Int×Int×(List Int)×Int):=
 if x39 then
  some (0,[],0,0,[],1)
 else
  (bM bW 0).bind fun x42=>
  (sub bW 1 (aYV.wrap (1+(aYV.wrap x42)))).bind fun x48=>
  (nN N [x48]).bind fun x50=>
  (sub bW (aYV.wrap (1+(aYV.wrap x42))) (bW.length:Int)).bind fun x53=>
  xB N x8 x53 0 0 x50
def aBW (N:Nat)(b:List Int)(x8:Int)(x19:Bool):Option (Int×(List Int)×Int×Int×(List Int)×Int):=
 if x19 then
  some (0,[],0,0,[],80)
 else
  (sub b 1 (b.length:Int)).bind fun bW=>
  if(aYV.wrap x8) == 1 then
   if(bW.length:Int) == 0 then
    aBe N x8 bW true
   else
    (bM bW 0).bind fun x35=>
    aBe N x8 bW (decide ((aYV.wrap ((bW.length:Int)-1))<(aYV.wrap x35)))
  else
   if(aYV.wrap x8) == 11 then
    if decide ((bW.length:Int)<2) then
     some (0,[],0,0,[],1)
    else
     (bM bW 0).bind fun x62=>
     (bM bW 1).bind fun x66=>
     (sub bW 2 (bW.length:Int)).bind fun x70=>
     xB N x8 x70 (aYV.wrap x62) (aYV.wrap x66) []
   else
    xB N x8 bW 0 0 []
def aG5 (N:Nat)(b:List Int):Option (Int×(List Int)×Int×Int×(List Int)×Int):=
 (bM b 0).bind fun x8=>
 if decide ((aYV.wrap x8)<1) then
  aBW N b x8 true
 else
  aBW N b x8 (decide (17<(aYV.wrap x8)))
def aCz (N:Nat)(l0:List cM):Option ((List cM)×Int):=
 some (l0,0)
def zV (N:Nat):Nat→(List Int)→(List cM)→Option (LR ((List cM)) ((List cM)×Int))
 |0,_,_=>none
 |m+1,b_1,aM=>
  if decide (0<(b_1.length:Int)) then
   (aG5 N b_1).bind fun x16=>
   if x16.2.2.2.2.2 != 0 then
    some (.ret ([],x16.2.2.2.2.2))
   else
    (cZ 48 aM [(cM.mk x16.1 x16.2.1 x16.2.2.1 x16.2.2.2.1)]).bind fun x26=>
    (zV N m) x16.2.2.2.2.1 x26
  else
   some (.brk aM)
def aCQ (N:Nat)(b:List Int):Option ((List cM)×Int):=
 if decide (520<(b.length:Int)) then
  some ([],4)
 else
  (zV N N b []).bind fun q=>match q with
   | .ret v=>some v
   | .brk p2=>
    aCz N p2
def aBw (N:Nat)(l0:List Bool):Option Bool:=
 some ((l0.length:Int) == 0)
def oI (N:Nat)(l:List cM)(x8:Int)(rec:Int→(List Bool)→Option (LR ((List Bool)) (Bool)))(dW:List Bool):Option (LR ((List Bool)) (Bool)):=
 rec (aYV.wrap (x8+1)) dW
def wO (N:Nat)(l:List cM)(x8:Int)(aM:List Bool)(rec:Int→(List Bool)→Option (LR ((List Bool)) (Bool)))(cO:Bool):Option (LR ((List Bool)) (Bool)):=
 if cO then
  some (.ret false)
 else
  (bM aM (aYV.wrap ((aM.length:Int)-1))).bind fun x36=>
  oI N l x8 rec (aM.set (aY0 (aYV.wrap ((aM.length:Int)-1))) true)
def gJ (N:Nat)(l:List cM):Nat→Int→(List Bool)→Option (LR ((List Bool)) (Bool))
 |0,_,_=>none
 |m+1,x8,aM=>
  if decide (x8<(l.length:Int)) then
   (bM l x8).bind fun bQ=>
   if bQ.Code == 14 then
    (cZ 1 aM [false]).bind fun x18=>
    oI N l x8 (gJ N l m) x18
   else
    if bQ.Code == 15 then
     if(aM.length:Int) == 0 then
      wO N l x8 aM (gJ N l m) true
     else
      (bM aM (aYV.wrap ((aM.length:Int)-1))).bind fun x29=>
      wO N l x8 aM (gJ N l m) x29
    else
     if bQ.Code == 16 then
      if(aM.length:Int) == 0 then
       some (.ret false)
      else
       (sub aM 0 (aYV.wrap ((aM.length:Int)-1))).bind fun x46=>
       oI N l x8 (gJ N l m) x46
     else
      oI N l x8 (gJ N l m) aM
  else
   some (.brk aM)
def xT (N:Nat)(l:List cM):Option Bool:=
 (gJ N l N 0 []).bind fun q=>match q with
  | .ret v=>some v
  | .brk p2=>
   aBw N p2
def aDu (N:Nat):Option Bool:=
 some false
def aAu (N:Nat)(vs:List (List Int)):Nat→Int→Option (LR (Unit) (Bool))
 |0,_=>none
 |m+1,bQ=>
  if decide (bQ<(vs.length:Int)) then
   (bM vs bQ).bind fun cH=>
   if decide (520<(cH.length:Int)) then
    some (.ret true)
   else
    (aAu N vs m) (aYV.wrap (bQ+1))
  else
   some (.brk ())
def aBi (N:Nat)(vs:List (List Int)):Option Bool:=
 if decide (64<(vs.length:Int)) then
  some true
 else
  (aAu N vs N 0).bind fun q=>match q with
   | .ret v=>some v
   | .brk p2=>
    aDu N
def aBc (N:Nat)(l0:List (List Int)):Option (List (List Int)):=
 some l0
def wE (N:Nat)(l:List (List Int)):Nat→Int→(List (List Int))→Option (List (List Int))
 |0,_,_=>none
 |m+1,b8,aM=>
  if decide (b8<(l.length:Int)) then
   (bM l b8).bind fun cB=>
   (nN N [cB]).bind fun x18=>
   (cZ 24 aM [x18]).bind fun b6=>
   (wE N l m) (aYV.wrap (b8+1)) b6
  else
   some aM
def xO (N:Nat)(l:List (List Int)):Option (List (List Int)):=
 (mks 24 ([]:List Int) (l.length:Int)).bind fun x8=>
 (wE N l N 0 []).bind fun p2=>
 aBc N p2
def rP (N:Nat)(x2:Bool):Option Bool:=
 some x2
def aEn (N:Nat)(l:List bD):Option Bool:=
 if(l.length:Int) == 0 then
  rP N true
 else
  (bM l (aYV.wrap ((l.length:Int)-1))).bind fun b8=>
  if b8.reached then
   rP N b8.done
  else
   rP N false
def aER (N:Nat)(o:cM):Option Int:=
 if o.Code == 8 then
  some 6
 else
  if o.Code == 10 then
   some 21
  else
   if o.Code == 11 then
    some (aYV.wrap (1+(aYV.wrap (20*o.N))))
   else
    some 1
def tR (N:Nat)(o:cM)(x15:Bool):Option Int:=
 if x15 then
  some 2
 else
  if o.Code == 11 then
   some (aYV.wrap (2*o.N))
  else
   some 0
def fY (N:Nat)(o:cM)(x5:Bool):Option Int:=
 if x5 then
  some 1
 else
  if o.Code == 4 then
   tR N o (o.Code == 4)
  else
   if o.Code == 5 then
    tR N o (o.Code == 5)
   else
    tR N o (o.Code == 10)
def aEK (N:Nat)(o:cM):Option Int:=
 if o.Code == 2 then
  fY N o (o.Code == 2)
 else
  if o.Code == 3 then
   fY N o (o.Code == 3)
  else
   if o.Code == 6 then
    fY N o (o.Code == 6)
   else
    if o.Code == 7 then
     fY N o (o.Code == 7)
    else
     if o.Code == 8 then
      fY N o (o.Code == 8)
     else
      if o.Code == 9 then
       fY N o (o.Code == 9)
      else
       if o.Code == 12 then
        fY N o (o.Code == 12)
       else
        if o.Code == 13 then
         fY N o (o.Code == 13)
        else
         fY N o (o.Code == 14)
def aDl (N:Nat):Option Bool:=
 some false
def aAz (N:Nat)(b:List Int):Nat→Int→Option (LR (Unit) (Bool))
 |0,_=>none
 |m+1,x7=>
  if decide (x7<(b.length:Int)) then
   (bM b x7).bind fun x9=>
   if x9 != 0 then
    some (.ret true)
   else
    (aAz N b m) (aYV.wrap (x7+1))
  else
   some (.brk ())
def rX (N:Nat)(b:List Int):Option Bool:=
 (aAz N b N 0).bind fun q=>match q with
  | .ret v=>some v
  | .brk p2=>
   aDl N
def w9 (N:Nat)(vs:List (List Int))(aFY:List Int):Option ((List (List Int))×Int):=
 if decide (64≤(vs.length:Int)) then
  some ([],4)
 else
  (sub vs 0 (vs.length:Int)).bind fun bZ=>
  (cZ 24 bZ [aFY]).bind fun x17=>
  some (x17,0)
def aDy (N:Nat)(l0:List Int):Option (List Int):=
 some l0
def aAq (N:Nat):Nat→Int→(List Int)→Option (List Int)
 |0,_,_=>none
 |m+1,iV,aM=>
  if decide (0<iV) then
   (cZ 1 aM [aY1.wrap iV]).bind fun cH=>
   (aAq N m) (aYZ.wrap (aY5 iV 256)) cH
  else
   some aM
def aBB (N:Nat)(vn:Int):Option (List Int):=
 (aAq N N vn []).bind fun p2=>
 aDy N p2
def sO (N:Nat)(b:Bool):Option (List Int):=
 if b then
  (aBB N 1).bind fun x4=>
  some x4
 else
  (aBB N 0).bind fun x5=>
  some x5
def aEi (N:Nat)(sig key vm:List Int):Option (Bool×Int):=none
def aEG (N:Nat)(o:cM)(aQC:List (List Int))(vm:List Int):Option (Bool×Int):=none
def aBZ (N:Nat)(vn:Int):Option (Int×Int):=
 some (vn,0)
def wW (N:Nat)(b:List Int):Nat→Int→Int→Option Int
 |0,_,_=>none
 |m+1,iV,x25=>
  if decide (x25<(b.length:Int)) then
   (bM b x25).bind fun cO=>
   (shl .u32 (aYZ.wrap cO) (aYV.wrap (8*x25))).bind fun x36=>
   (wW N b m) (bits .or .u32 iV x36) (aYV.wrap (x25+1))
  else
   some iV
def rQ (N:Nat)(b:List Int)(bW:Bool):Option (Int×Int):=
 if bW then
  some (0,82)
 else
  (wW N b N 0 0).bind fun p3=>
  aBZ N p3
def aD4 (N:Nat)(b:List Int):Option (Int×Int):=
 if decide (4<(b.length:Int)) then
  rQ N b true
 else
  if decide (0<(b.length:Int)) then
   (bM b (aYV.wrap ((b.length:Int)-1))).bind fun x18=>
   rQ N b (x18 == 0)
  else
   rQ N b false
def aB6 (N:Nat)(aFY:List Int)(now:Int):Option Int:=
 (aD4 N aFY).bind fun x9=>
 if x9.2 != 0 then
  some x9.2
 else
  if decide (now<(aYV.wrap x9.1)) then
   some 85
  else
   some 0
def aBK (N:Nat)(o:cM)(vs:List (List Int))(v:fD):Option ((List (List Int))×Int):=
 if o.Code == 1 then
  (nN N [o.Data]).bind fun x25=>
  (w9 N vs x25).bind fun x26=>
  some (x26.1,x26.2)
 else
  if o.Code == 2 then
   (bM vs (aYV.wrap ((vs.length:Int)-1))).bind fun x35=>
   (w9 N vs x35).bind fun x37=>
   some (x37.1,x37.2)
  else
   if o.Code == 3 then
    (sub vs 0 (aYV.wrap ((vs.length:Int)-1))).bind fun x45=>
    some (x45,0)
   else
    if o.Code == 4 then
     (sub vs 0 (aYV.wrap ((vs.length:Int)-2))).bind fun x53=>
     (bM vs (aYV.wrap ((vs.length:Int)-1))).bind fun x57=>
     (bM vs (aYV.wrap ((vs.length:Int)-2))).bind fun x62=>
     (cZ 24 x53 [x57,x62]).bind fun x65=>
     some (x65,0)
    else
     if o.Code == 5 then
      (sub vs 0 (aYV.wrap ((vs.length:Int)-2))).bind fun x73=>
      (bM vs (aYV.wrap ((vs.length:Int)-2))).bind fun x77=>
      (bM vs (aYV.wrap ((vs.length:Int)-1))).bind fun x82=>
      (zC N x77 x82).bind fun x84=>
      (sO N x84).bind fun x85=>
      (cZ 24 x73 [x85]).bind fun x87=>
      some (x87,0)
     else
      if o.Code == 6 then
       (sub vs 0 (aYV.wrap ((vs.length:Int)-1))).bind fun x95=>
       (bM vs (aYV.wrap ((vs.length:Int)-1))).bind fun x99=>
       (rX N x99).bind fun aWI=>
       (sO N (!aWI)).bind fun aK8=>
       (cZ 24 x95 [aK8]).bind fun aKQ=>
       some (aKQ,0)
      else
       if o.Code == 7 then
        (bM vs (aYV.wrap ((vs.length:Int)-1))).bind fun aWG=>
        (rX N aWG).bind fun aGT=>
        if !aGT then
         some ([],84)
        else
         (sub vs 0 (aYV.wrap ((vs.length:Int)-1))).bind fun aDn=>
         some (aDn,0)
       else
        if o.Code == 8 then
         (bM vs (aYV.wrap ((vs.length:Int)-1))).bind fun aK0=>
         (kQ N aK0).bind fun aIG=>
         (bH 32 aIG).bind fun q=>
         (sub vs 0 (aYV.wrap ((vs.length:Int)-1))).bind fun aNT=>
         (cZ 24 aNT [aIG]).bind fun aWE=>
         some (aWE,0)
        else
         if o.Code == 9 then
          (bM vs (aYV.wrap ((vs.length:Int)-1))).bind fun aWB=>
          (aBB N (aYZ.wrap (aWB.length:Int))).bind fun aVJ=>
          (w9 N vs aVJ).bind fun aSL=>
          some (aSL.1,aSL.2)
         else
          if o.Code == 10 then
           (bM vs (aYV.wrap ((vs.length:Int)-2))).bind fun aW4=>
           (bM vs (aYV.wrap ((vs.length:Int)-1))).bind fun aWu=>
           (bH 32 v.Message).bind fun q_1=>
           (aEi N aW4 aWu v.Message).bind fun aSn=>
           (sub vs 0 (aYV.wrap ((vs.length:Int)-2))).bind fun aWj=>
           (sO N aSn.1).bind fun aWK=>
           (cZ 24 aWj [aWK]).bind fun aV3=>
           some (aV3,aSn.2)
          else
           if o.Code == 11 then
            (sub vs (aYV.wrap ((vs.length:Int)-(aYV.wrap (2*o.N)))) (vs.length:Int)).bind fun aVK=>
            (bH 32 v.Message).bind fun q_2=>
            (aEG N o aVK v.Message).bind fun aSl=>
            (sub vs 0 (aYV.wrap ((vs.length:Int)-(aYV.wrap (2*o.N))))).bind fun aWl=>
            (sO N aSl.1).bind fun aVY=>
            (cZ 24 aWl [aVY]).bind fun aWd=>
            some (aWd,aSl.2)
           else
            if o.Code == 12 then
             (bM vs (aYV.wrap ((vs.length:Int)-1))).bind fun aWQ=>
             (aB6 N aWQ v.Height).bind fun aW2=>
             some (vs,aW2)
            else
             if o.Code == 13 then
              (bM vs (aYV.wrap ((vs.length:Int)-1))).bind fun aWz=>
              (aB6 N aWz v.Age).bind fun aWq=>
              some (vs,aWq)
             else
              some ([],84)
def aD3 (N:Nat)(vs:List (List Int))(cost:Int):Option ((List (List Int))×Int×Int):=
 some (vs,cost,0)
def jU (N:Nat)(v:fD)(b6:(List cM)×Int)(x35:Int)(rec:(List (List Int))→Int→Int→(List bD)→Option (LR ((List (List Int))×Int) ((List (List Int))×Int×Int)))(aK6:List (List Int))(aE7:Int)(b5:List bD):Option (LR ((List (List Int))×Int) ((List (List Int))×Int×Int)):=
 rec aK6 aE7 (aYV.wrap (x35+1)) b5
def aBt (N:Nat)(v:fD)(b6:(List cM)×Int)(x35:Int)(l1:List bD)(i8:Bool)(k9:Int)(rec:(List (List Int))→Int→Int→(List bD)→Option (LR ((List (List Int))×Int) ((List (List Int))×Int×Int)))(aK4:List (List Int))(c2:Bool):Option (LR ((List (List Int))×Int) ((List (List Int))×Int×Int)):=
 (cZ 2 l1 [(bD.mk i8 c2)]).bind fun x91=>
 jU N v b6 x35 rec aK4 k9 x91
def aA8 (N:Nat)(v:fD)(b6:(List cM)×Int)(eM:List (List Int))(x35:Int)(l1:List bD)(x37:cM)(i8:Bool)(rec:(List (List Int))→Int→Int→(List bD)→Option (LR ((List (List Int))×Int) ((List (List Int))×Int×Int)))(k9:Int):Option (LR ((List (List Int))×Int) ((List (List Int))×Int×Int)):=
 if x37.Code == 14 then
  if i8 then
   (bM eM (aYV.wrap ((eM.length:Int)-1))).bind fun x79=>
   (rX N x79).bind fun x81=>
   (sub eM 0 (aYV.wrap ((eM.length:Int)-1))).bind fun x87=>
   aBt N v b6 x35 l1 i8 k9 rec x87 x81
  else
   aBt N v b6 x35 l1 i8 k9 rec eM false
 else
  if x37.Code == 15 then
   (bM l1 (aYV.wrap ((l1.length:Int)-1))).bind fun yJ=>
   jU N v b6 x35 rec eM k9 (l1.set (aY0 (aYV.wrap ((l1.length:Int)-1))) (bD.mk yJ.reached (!yJ.done)))
  else
   if x37.Code == 16 then
    (sub l1 0 (aYV.wrap ((l1.length:Int)-1))).bind fun aDn=>
    jU N v b6 x35 rec eM k9 aDn
   else
    if i8 then
     (aBK N x37 eM v).bind fun aFE=>
     if aFE.2 != 0 then
      some (.ret ([],0,aFE.2))
     else
      jU N v b6 x35 rec aFE.1 k9 l1
    else
     jU N v b6 x35 rec eM k9 l1
def aBm (N:Nat)(v:fD)(b6:(List cM)×Int)(eM:List (List Int))(jP x35:Int)(l1:List bD)(x37:cM)(rec:(List (List Int))→Int→Int→(List bD)→Option (LR ((List (List Int))×Int) ((List (List Int))×Int×Int)))(i8:Bool):Option (LR ((List (List Int))×Int) ((List (List Int))×Int×Int)):=
 if i8 then
  (aER N x37).bind fun x59=>
  if decide (500<(aYV.wrap (jP+x59))) then
   some (.ret ([],0,83))
  else
   (aEK N x37).bind fun x66=>
   if decide ((eM.length:Int)<x66) then
    some (.ret ([],0,81))
   else
    aA8 N v b6 eM x35 l1 x37 i8 rec (aYV.wrap (jP+x59))
 else
  aA8 N v b6 eM x35 l1 x37 i8 rec jP
def aBF (N:Nat)(v:fD)(b6:(List cM)×Int)(eM:List (List Int))(jP x35:Int)(l1:List bD)(x37:cM)(x40:Bool)(rec:(List (List Int))→Int→Int→(List bD)→Option (LR ((List (List Int))×Int) ((List (List Int))×Int×Int)))(x48:Bool):Option (LR ((List (List Int))×Int) ((List (List Int))×Int×Int)):=
 if x48 then
  (bM l1 (aYV.wrap ((l1.length:Int)-1))).bind fun x53=>
  aBm N v b6 eM jP x35 l1 x37 rec x53.reached
 else
  aBm N v b6 eM jP x35 l1 x37 rec x40
def e7 (N:Nat)(v:fD)(b6:(List cM)×Int):Nat→(List (List Int))→Int→Int→(List bD)→Option (LR ((List (List Int))×Int) ((List (List Int))×Int×Int))
 |0,_,_,_,_=>none
 |m+1,eM,jP,x35,l1=>
  if decide (x35<(b6.1.length:Int)) then
   (bM b6.1 x35).bind fun x37=>
   (aEn N l1).bind fun x40=>
   if x37.Code == 15 then
    aBF N v b6 eM jP x35 l1 x37 x40 (e7 N v b6 m) true
   else
    aBF N v b6 eM jP x35 l1 x37 x40 (e7 N v b6 m) (x37.Code == 16)
  else
   some (.brk (eM,jP))
def aAX (N:Nat)(b:List Int)(stack:List (List Int))(v:fD):Option ((List (List Int))×Int×Int):=
 (aCQ N b).bind fun b6=>
 if b6.2 != 0 then
  some ([],0,b6.2)
 else
  (xT N b6.1).bind fun x27=>
  if !x27 then
   some ([],0,86)
  else
   (aBi N stack).bind fun fA=>
   if fA then
    some ([],0,4)
   else
    (xO N stack).bind fun g6=>
    (e7 N v b6 N g6 0 0 []).bind fun q=>match q with
     | .ret v=>some v
     | .brk p2=>
      aD3 N p2.1 p2.2
def lP (N:Nat)(b:List Int)(cE:List (List Int))(v:fD):Option Int:=
 (aAX N b cE v).bind fun bZ=>
 if bZ.2.2 != 0 then
  some bZ.2.2
 else
  if(bZ.1.length:Int) != 1 then
   some 81
  else
   (bM bZ.1 0).bind fun x28=>
   (rX N x28).bind fun fA=>
   if !fA then
    some 84
   else
    some 0
def mM (N:Nat)(t:aG)(vi:Int)(c:aC)(height:Int)(x16:(List Int)×Int)(x43:Bool):Option Int:=
 if x43 then
  some 102
 else
  (bM t.Inputs vi).bind fun x50=>
  (lP N c.Output.Script x50.Witness (fD.mk x16.1 height (aYV.wrap (height-c.Height)))).bind fun x60=>
  some x60
def aAj (N:Nat)(t:aG)(vi:Int)(c:aC)(height:Int):Option Int:=
 (vG N t vi c.Output).bind fun x16=>
 (bH 32 x16.1).bind fun q=>
 if x16.2 != 0 then
  some x16.2
 else
  (bM t.Inputs vi).bind fun x25=>
  if !(sX x25.Prev.Tx c.Out.Tx ((x25.Prev.Index == c.Out.Index)&&true)) then
   some 101
  else
   if decide (16777216<height) then
    mM N t vi c height x16 true
   else
    if decide (c.Height<0) then
     mM N t vi c height x16 true
    else
     mM N t vi c height x16 (decide (height<c.Height))
def aCo (N:Nat)(x17:Int×Int):Option (Int×Int):=
 some (x17.1,0)
def mN (N:Nat)(t:aG)(l:List aC)(height:Int)(x17:Int×Int):Nat→Int→Option (LR (Unit) (Int×Int))
 |0,_=>none
 |m+1,x29=>
  if decide (x29<(l.length:Int)) then
   (bM l x29).bind fun x36=>
   (aAj N t x29 x36 height).bind fun x39=>
   if x39 != 0 then
    some (.ret (0,x39))
   else
    (mN N t l height x17 m) (aYV.wrap (x29+1))
  else
   some (.brk ())
def aAk (N:Nat)(t:aG)(l:List aC)(height:Int):Option (Int×Int):=
 (kY N t).bind fun cB=>
 if cB then
  some (0,92)
 else
  (aC2 N t l).bind fun x17=>
  if x17.2 != 0 then
   some (0,x17.2)
  else
   (vV N t height).bind fun x25=>
   if !x25 then
    some (0,85)
   else
    (mN N t l height x17 N 0).bind fun q=>match q with
     | .ret v=>some v
     | .brk p2=>
      aCo N x17
def u7 (N:Nat)(l:List aC)(vi:Int):Option (List aC):=
 (sub l 0 vi).bind fun x7=>
 (cZ 88 [] x7).bind fun x8=>
 (sub l (aYV.wrap (vi+1)) (l.length:Int)).bind fun cH=>
 (cZ 88 x8 cH).bind fun cB=>
 some cB
def aAM (N:Nat)(l0:List aC):Option (List aC):=
 some l0
def kI (N:Nat)(t:aG)(height:Int)(bQ:(List Int)):Nat→Int→(List aC)→Option (List aC)
 |0,_,_=>none
 |m+1,bZ,l1=>
  if decide (bZ<(t.Outputs.length:Int)) then
   (bM t.Outputs bZ).bind fun x17=>
   (kY N t).bind fun x27=>
   (cZ 88 l1 [(aC.mk (aI.mk bQ (aYZ.wrap bZ)) x17 height x27)]).bind fun fA=>
   (kI N t height bQ m) (aYV.wrap (bZ+1)) fA
  else
   some l1
def oY (N:Nat)(t:aG)(height:Int):Option (List aC):=
 (aAQ N t).bind fun bQ=>
 (bH 32 bQ).bind fun q=>
 (kI N t height bQ N 0 []).bind fun p2=>
 aAM N p2
def aAF (N:Nat)(l:List aC)(c:aC)(l1:List aC):Option (List aC):=
 (pS N c).bind fun cO=>
 (cZ 88 l1 [cO]).bind fun nY=>
 (sub l (l1.length:Int) (l.length:Int)).bind fun x37=>
 (cZ 88 nY x37).bind fun x38=>
 some x38
def vD (N:Nat)(l:List aC)(c:aC)(x9:Int)(rec:Int→(List aC)→Option (List aC))(cN:List aC):Option (List aC):=
 rec (aYV.wrap (x9+1)) cN
def kC (N:Nat)(l:List aC)(c:aC):Nat→Int→(List aC)→Option (List aC)
 |0,_,_=>none
 |m+1,x9,b5=>
  if decide (x9<(l.length:Int)) then
   (bM l x9).bind fun bZ=>
   (rJ N bZ.Out c.Out).bind fun x19=>
   if decide (x19<0) then
    (cZ 88 b5 [bZ]).bind fun x27=>
    vD N l c x9 (kC N l c m) x27
   else
    vD N l c x9 (kC N l c m) b5
  else
   some b5
def yZ (N:Nat)(l:List aC)(c:aC):Option (List aC):=
 (kC N l c N 0 []).bind fun p2=>
 aAF N l c p2
def aEt (N:Nat)(l_1:List aC):Option ((List aC)×Int):=
 some (l_1,0)
def qI (N:Nat)(x28:(List aC)):Nat→(List aC)→Int→Option (List aC)
 |0,_,_=>none
 |m+1,l_2,fA=>
  if decide (fA<(x28.length:Int)) then
   (bM x28 fA).bind fun g6=>
   (yZ N l_2 g6).bind fun x36=>
   (qI N x28 m) x36 (aYV.wrap (fA+1))
  else
   some l_2
def aBu (N:Nat)(l:List aC)(t:aG)(height:Int):Option ((List aC)×Int):=
 (oY N t height).bind fun x28=>
 (qI N x28 N l 0).bind fun p3=>
 aEt N p3
def qL (N:Nat)(l:List aC)(t:aG)(height:Int)(bZ:(List aC)):Nat→Int→Option (LR (Unit) ((List aC)×Int))
 |0,_=>none
 |m+1,x16=>
  if decide (x16<(bZ.length:Int)) then
   (bM bZ x16).bind fun x18=>
   (rZ N l x18.Out).bind fun eQ=>
   if decide (0≤eQ) then
    some (.ret ([],91))
   else
    (qL N l t height bZ m) (aYV.wrap (x16+1))
  else
   some (.brk ())
def aCX (N:Nat)(l:List aC)(t:aG)(height:Int):Option ((List aC)×Int):=
 (oY N t height).bind fun bZ=>
 (qL N l t height bZ N 0).bind fun q=>match q with
  | .ret v=>some v
  | .brk p4=>
   aBu N l t height
def aCq (N:Nat)(sum:Int):Option Int:=
 some sum
def mL (N:Nat)(l:List aC):Nat→Int→Int→Option Int
 |0,_,_=>none
 |m+1,eO,x8=>
  if decide (x8<(l.length:Int)) then
   (bM l x8).bind fun bQ=>
   (mL N l m) (aYV.wrap (eO+bQ.Output.Value)) (aYV.wrap (x8+1))
  else
   some eO
def vR (N:Nat)(l:List aC):Option Int:=
 (mL N l N 0 0).bind fun p2=>
 aCq N p2
def u4 (N:Nat)(l:aF)(b:aV)(x36:(List Int))(most:Int)(c3 l5:List aC):Option (aF×cD×Int):=
 (bM b.Txs 0).bind fun aWU=>
 (oY N aWU (aYV.wrap (l.Height+1))).bind fun aWx=>
 (vR N aWx).bind fun aNT=>
 if decide (most<aNT) then
  some ((aF.mk 0 (aYX 32 0) []),(cD.mk []),231)
 else
  (vR N c3).bind fun aVQ=>
  if decide (2100000000000000<aVQ) then
   some ((aF.mk 0 (aYX 32 0) []),(cD.mk []),90)
  else
   if decide (100000<(c3.length:Int)) then
    some ((aF.mk 0 (aYX 32 0) []),(cD.mk []),4)
   else
    some ((aF.mk (aYV.wrap (l.Height+1)) x36 c3),(cD.mk l5),0)
def nD (N:Nat)(p:aJ)(l:aF)(b:aV)(x36:(List Int))(x48:Int)(x51:aG)(rec:Int→Int→(List aC)→(List aC)→Option (LR (Int×(List aC)×(List aC)) (aF×cD×Int)))(aFq:Int)(aM5 l7:List aC):Option (LR (Int×(List aC)×(List aC)) (aF×cD×Int)):=
 (aCX N aM5 x51 (aYV.wrap (l.Height+1))).bind fun aGT=>
 if aGT.2 != 0 then
  some (.ret ((aF.mk 0 (aYX 32 0) []),(cD.mk []),aGT.2))
 else
  rec aFq (aYV.wrap (x48+1)) aGT.1 l7
def uY (N:Nat)(p:aJ)(l:aF)(b:aV)(x36:(List Int))(lC x48:Int)(l6:List aC)(x51:aG)(x62:(List aC)×Int)(x75:Int×Int)(rec:Int→Int→(List aC)→(List aC)→Option (LR (Int×(List aC)×(List aC)) (aF×cD×Int)))(aK1:List aC):Option (LR (Int×(List aC)×(List aC)) (aF×cD×Int)):=
 (cZ 88 l6 x62.1).bind fun aKQ=>
 nD N p l b x36 x48 x51 rec (aYV.wrap (lC+x75.1)) aK1 aKQ
def kF (N:Nat)(p:aJ)(l:aF)(b:aV)(x36:(List Int))(lC x48:Int)(l6:List aC)(x51:aG)(x62:(List aC)×Int)(x75:Int×Int):Nat→Int→(List aC)→Option (List aC)
 |0,_,_=>none
 |m+1,x85,c4_3=>
  if decide (x85<(x62.1.length:Int)) then
   (bM x62.1 x85).bind fun x87=>
   (rZ N c4_3 x87.Out).bind fun x95=>
   (u7 N c4_3 x95).bind fun x96=>
   (kF N p l b x36 lC x48 l6 x51 x62 x75 m) (aYV.wrap (x85+1)) x96
  else
   some c4_3
def eH (N:Nat)(p:aJ)(l:aF)(b:aV)(x36:(List Int)):Nat→Int→Int→(List aC)→(List aC)→Option (LR (Int×(List aC)×(List aC)) (aF×cD×Int))
 |0,_,_,_,_=>none
 |m+1,lC,x48,c4,l6=>
  if decide (x48<(b.Txs.length:Int)) then
   (bM b.Txs x48).bind fun x51=>
   if decide (0<x48) then
    (z9 N p c4 x51 (aYV.wrap (l.Height+1))).bind fun x62=>
    if x62.2 != 0 then
     some (.ret ((aF.mk 0 (aYX 32 0) []),(cD.mk []),x62.2))
    else
     (aAk N x51 x62.1 (aYV.wrap (l.Height+1))).bind fun x75=>
     if x75.2 != 0 then
      some (.ret ((aF.mk 0 (aYX 32 0) []),(cD.mk []),x75.2))
     else
      (kF N p l b x36 lC x48 l6 x51 x62 x75 N 0 c4).bind fun p5=>
      uY N p l b x36 lC x48 l6 x51 x62 x75 (eH N p l b x36 m) p5
   else
    nD N p l b x36 x48 x51 (eH N p l b x36 m) lC c4 l6
  else
   some (.brk (lC,c4,l6))
def vB (N:Nat)(p:aJ)(l:aF)(b:aV):Option (aF×cD×Int):=
 (z6 N p l b).bind fun x25=>
 if x25 != 0 then
  some ((aF.mk 0 (aYX 32 0) []),(cD.mk []),x25)
 else
  (nJ N b.Header).bind fun x36=>
  (bH 32 x36).bind fun q=>
  (j9 N p (aYV.wrap (l.Height+1))).bind fun x44=>
  (eH N p l b x36 N x44 0 l.Coins []).bind fun q=>match q with
   | .ret v=>some v
   | .brk p2=>
    u4 N l b x36 p2.1 p2.2.1 p2.2.2
def oU (N:Nat)(x4:Bool):Option Bool:=
 some x4
def aDJ (N:Nat)(p:aJ)(c:aU):Option Bool:=
 (iT N p).bind fun x6=>
 if x6 then
  if decide (0≤c.Height) then
   if decide (c.Height≤16777216) then
    oU N ((c.Times.length:Int) == (if 11<(aYV.wrap (c.Height+1))then 11 else(aYV.wrap (c.Height+1))))
   else
    oU N false
  else
   oU N false
 else
  oU N false
def qE (N:Nat)(c:aU)(vh:bT)(bW:(List Int))(c3:Int)(c1:List Int):Option (aU×Int):=
 some ((aU.mk (aYV.wrap (c.Height+1)) bW vh.Bits c3 c1),0)
def mW (N:Nat)(c:aU)(vh:bT)(bW:(List Int))(c3:Int):Option (aU×Int):=
 (cZ 4 [] c.Times).bind fun x39=>
 (cZ 4 x39 [vh.Time]).bind fun x43=>
 if decide (11<(x43.length:Int)) then
  (sub x43 1 (x43.length:Int)).bind fun x51=>
  qE N c vh bW c3 x51
 else
  qE N c vh bW c3 x43
def rE (N:Nat)(p:aJ)(c:aU)(vh:bT):Option (aU×Int):=
 (aDJ N p c).bind fun b8=>
 if !b8 then
  some ((aU.mk 0 (aYX 32 0) 0 0 []),6)
 else
  if c.Height == 16777216 then
   some ((aU.mk 0 (aYX 32 0) 0 0 []),4)
  else
   (nJ N vh).bind fun bW=>
   (bH 32 bW).bind fun q=>
   (rem (aYV.wrap (c.Height+1)) p.Window).bind fun g6=>
   if g6 == 0 then
    mW N c vh bW vh.Time
   else
    mW N c vh bW c.First
def aCx (N:Nat):Option Int:=
 some 0
def yX (N:Nat)(p:aJ)(x18:aU×Int)(x76:Int)(rec:Int→Option (LR (Unit) (Int)))(x91:Bool):Option (LR (Unit) (Int)):=
 if x91 then
  some (.ret 143)
 else
  rec (aYV.wrap (x76+1))
def kV (N:Nat)(p:aJ)(x18:aU×Int):Nat→Int→Option (LR (Unit) (Int))
 |0,_=>none
 |m+1,x76=>
  if decide (x76<(p.Checkpoints.length:Int)) then
   (bM p.Checkpoints x76).bind fun x78=>
   if x78.Height == x18.1.Height then
    (bH 32 x78.Hash).bind fun q_3=>
    yX N p x18 x76 (kV N p x18 m) (!(x78.Hash == x18.1.Hash))
   else
    yX N p x18 x76 (kV N p x18 m) false
  else
   some (.brk ())
def z5 (N:Nat)(p:aJ)(c:aU)(vh:bT)(now:Int):Option Int:=
 (rE N p c vh).bind fun x18=>
 if x18.2 != 0 then
  some x18.2
 else
  (bH 32 vh.Prev).bind fun q=>
  (bH 32 c.Hash).bind fun q_1=>
  if !(vh.Prev == c.Hash) then
   some 144
  else
   if decide (vh.Version<p.Version) then
    some 142
   else
    (yY N p c).bind fun x37=>
    if x37.2 != 0 then
     some x37.2
    else
     if vh.Bits != x37.1 then
      some 130
     else
      (bH 32 x18.1.Hash).bind fun q_2=>
      (vU N x18.1.Hash vh.Bits).bind fun x53=>
      if !x53 then
       some 121
      else
       (t7 N c.Times).bind fun x60=>
       if decide (vh.Time≤x60) then
        some 140
       else
        if decide ((aYY.wrap ((aYY.wrap now)+(aYY.wrap p.Future)))<(aYY.wrap vh.Time)) then
         some 141
        else
         (kV N p x18 N 0).bind fun q=>match q with
          | .ret v=>some v
          | .brk p2=>
           aCx N
def aEc (N:Nat)(vw:aW)(l2:List aV)(l3:List aF)(l4:List aU)(l5:List cD):Option aW:=
 some (aW.mk vw.Params l2 l3 l4 l5)
def xE (N:Nat)(vw:aW)(l:List Int)(cO:Int)(rec:Int→(List aV)→(List aF)→(List aU)→(List cD)→Option ((List aV)×(List aF)×(List aU)×(List cD)))(yC:List aV)(j8:List aF)(v8:List aU)(aIX:List cD):Option ((List aV)×(List aF)×(List aU)×(List cD)):=
 rec (aYV.wrap (cO+1)) yC j8 v8 aIX
def t8 (N:Nat)(vw:aW)(l:List Int)(cO:Int)(dJ:List aV)(eY:List aF)(fR:List aU)(jY:List cD)(x49:aU)(x56:aV)(x62:aF×cD×Int)(rec:Int→(List aV)→(List aF)→(List aU)→(List cD)→Option ((List aV)×(List aF)×(List aU)×(List cD)))(x76:Bool):Option ((List aV)×(List aF)×(List aU)×(List cD)):=
 if x76 then
  xE N vw l cO rec dJ eY fR jY
 else
  (rE N vw.Params x49 x56.Header).bind fun x83=>
  (cZ 104 dJ [x56]).bind fun x90=>
  (cZ 64 eY [x62.1]).bind fun x95=>
  (cZ 72 fR [x83.1]).bind fun aF0=>
  (cZ 24 jY [x62.2.1]).bind fun aNV=>
  xE N vw l cO rec x90 x95 aF0 aNV
def iH (N:Nat)(vw:aW)(l:List Int):Nat→Int→(List aV)→(List aF)→(List aU)→(List cD)→Option ((List aV)×(List aF)×(List aU)×(List cD))
 |0,_,_,_,_,_=>none
 |m+1,cO,dJ,eY,fR,jY=>
  if decide (cO<(l.length:Int)) then
   (bM l cO).bind fun nY=>
   (bM eY (aYV.wrap ((eY.length:Int)-1))).bind fun x41=>
   (bM fR (aYV.wrap ((fR.length:Int)-1))).bind fun x49=>
   (aBd N vw.Params x41 x49 nY).bind fun x56=>
   (vB N vw.Params x41 x56).bind fun x62=>
   if x62.2.2 != 0 then
    t8 N vw l cO dJ eY fR jY x49 x56 x62 (iH N vw l m) true
   else
    (z5 N vw.Params x49 x56.Header 1073741824).bind fun x74=>
    t8 N vw l cO dJ eY fR jY x49 x56 x62 (iH N vw l m) (x74 != 0)
  else
   some (dJ,eY,fR,jY)
def aCZ (N:Nat)(vw:aW)(l:List Int):Option aW:=
 (cZ 104 [] vw.Blocks).bind fun x15=>
 (cZ 24 [] vw.Undos).bind fun x18=>
 (cZ 64 [] vw.Ledgers).bind fun eQ=>
 (cZ 72 [] vw.Contexts).bind fun x26=>
 (iH N vw l N 0 x15 eQ x26 x18).bind fun p2=>
 aEc N vw p2.1 p2.2.1 p2.2.2.1 p2.2.2.2
def aB5 (N:Nat)(v:Int)(l:List Int):Option aW:=
 (aBA N v).bind fun x6=>
 (aCZ N x6 l).bind fun x8=>
 some x8
def z7 (N:Nat)(v:Int)(eV:List Int):Option aW:=
 (aEA N eV 8).bind fun x7=>
 (aB5 N v x7).bind fun x8=>
 some x8
def kU (N:Nat)(cH:Bool):Option Bool:=
 some cH
def oA (N:Nat)(height:Int)(x78:aW)(x85:aF):Option Bool:=
 (qN N x85).bind fun aK8=>
 if aK8 then
  (qA N x78.Params (aY4 height 100)).bind fun aIr=>
  (j9 N x78.Params (aY4 height 100)).bind fun aIu=>
  kU N (aIr == aIu)
 else
  kU N false
def fX (N:Nat)(height:Int)(x78:aW)(x85:aF):Nat→Int→Option (LR (Unit) (Bool))
 |0,_=>none
 |m+1,x90=>
  if decide (x90<(x85.Coins.length:Int)) then
   (bM x85.Coins x90).bind fun x93=>
   (vS N x85 x93.Out).bind fun x98=>
   if x98 != x90 then
    some (.ret false)
   else
    (fX N height x78 x85 m) (aYV.wrap (x90+1))
  else
   some (.brk ())
def d9 (N:Nat)(height v:Int)(eV:List Int)(x75:Bool):Option Bool:=
 if x75 then
  some false
 else
  (z7 N v eV).bind fun x78=>
  (bM x78.Ledgers (aYV.wrap ((x78.Ledgers.length:Int)-1))).bind fun x85=>
  (fX N height x78 x85 N 0).bind fun q=>match q with
   | .ret v=>some v
   | .brk p5=>
    oA N height x78 x85
def gB (N:Nat)(p:aJ)(l:aF)(height:Int)(o:aI)(v:Int)(eV:List Int)(cO:Bool):Option Bool:=
 if cO then
  some true
 else
  (xQ N p).bind fun fB=>
  (sH N p).bind fun x39=>
  if fB.2 != x39.2 then
   d9 N height v eV true
  else
   (aBV N fB.1 x39.1).bind fun x48=>
   if !x48 then
    d9 N height v eV true
   else
    (qN N l).bind fun x53=>
    (sK N l).bind fun x55=>
    if x53 != x55 then
     d9 N height v eV true
    else
     (qA N p height).bind fun x61=>
     (j9 N p height).bind fun x64=>
     if x61 != x64 then
      d9 N height v eV true
     else
      (vS N l o).bind fun x70=>
      (aBb N l o).bind fun x73=>
      d9 N height v eV (x70 != x73)
def kM (N:Nat)(p:aJ)(l:aF)(height:Int)(o:aI)(v:Int)(eV:List Int):Option Bool:=
 (aFB N).bind fun cW=>
 if !cW then
  some false
 else
  (aCH N p).bind fun dL=>
  if !dL then
   gB N p l height o v eV true
  else
   (aBk N l.Coins 12).bind fun x29=>
   gB N p l height o v eV (!x29)
def aEH (N:Nat)(l2:List Int):Option ((List Int)×(List Int)):=
 (bH 8 l2).bind fun q=>
 (aG1 l2 4 8).bind fun x63=>
 (arp 4 x63).bind fun x64=>
 (aG1 l2 0 4).bind fun x66=>
 (arp 4 x66).bind fun x67=>
 some (x64,x67)
def aEN (N:Nat)(va b:List Int)(bZ:Int)(rec:Int→(List Int)→Option (List Int))(fR:List Int):Option (List Int):=
 rec (aYV.wrap (bZ+1)) fR
def aEM (N:Nat)(va b:List Int)(bZ:Int)(rec:Int→(List Int)→Option (List Int))(sZ:Int)(v8:List Int):Option (List Int):=
 (bK 8 v8 (aYV.wrap (bZ+4))).bind fun x61=>
 aEN N va b bZ rec (v8.set (aY0 (aYV.wrap (bZ+4))) sZ)
def dV (N:Nat)(va b:List Int)(bZ:Int):Nat→Int→Int→(List Int)→Option (Int×(List Int))
 |0,_,_,_=>none
 |m+1,carry_1,x17,l4_3=>
  if decide (x17<4) then
   (bK 4 va bZ).bind fun bW=>
   (bK 4 b x17).bind fun x25=>
   (lK N bW x25).bind fun x27=>
   (bK 8 l4_3 (aYV.wrap (bZ+x17))).bind fun x35=>
   (dX N x27.2 x35 0).bind fun x37=>
   (dX N x37.1 carry_1 0).bind fun x46=>
   (dV N va b bZ m) (aYY.wrap ((aYY.wrap (x27.1+x37.2))+x46.2)) (aYV.wrap (x17+1)) (l4_3.set (aY0 (aYV.wrap (bZ+x17))) x46.1)
  else
   some (carry_1,l4_3)
def vT (N:Nat)(va b:List Int):Nat→Int→(List Int)→Option (List Int)
 |0,_,_=>none
 |m+1,bZ,l4=>
  if decide (bZ<4) then
   (dV N va b bZ N 0 0 l4).bind fun p5=>
   aEM N va b bZ (vT N va b m) p5.1 p5.2
  else
   some l4
def aGg (N:Nat)(va b:List Int):Option ((List Int)×(List Int)):=
 (vT N va b N 0 (aYX 8 0)).bind fun p2=>
 aEH N p2
def aEQ (N:Nat)(borrow:Int)(l1:List Int):Option ((List Int)×Bool):=
 (bH 4 l1).bind fun q=>
 some (l1,borrow != 0)
def pK (N:Nat)(va b:List Int):Nat→Int→Int→(List Int)→Option (Int×(List Int))
 |0,_,_,_=>none
 |m+1,borrow_1,x9,l3=>
  if decide (x9<4) then
   (bK 4 va x9).bind fun x15=>
   (bK 4 b x9).bind fun x18=>
   (sG N x15 x18 borrow_1).bind fun cW=>
   (bK 4 l3 x9).bind fun dL=>
   (pK N va b m) cW.2 (aYV.wrap (x9+1)) (l3.set (aY0 x9) cW.1)
  else
   some (borrow_1,l3)
def aD6 (N:Nat)(va b:List Int):Option ((List Int)×Bool):=
 (pK N va b N 0 0 (aYX 4 0)).bind fun p2=>
 aEQ N p2.1 p2.2
def aEI (N:Nat)(sZ:Int)(l1:List Int):Option ((List Int)×Bool):=
 (bH 4 l1).bind fun q=>
 some (l1,sZ != 0)
def pO (N:Nat)(va b:List Int):Nat→Int→Int→(List Int)→Option (Int×(List Int))
 |0,_,_,_=>none
 |m+1,carry_1,x9,l3=>
  if decide (x9<4) then
   (bK 4 va x9).bind fun x15=>
   (bK 4 b x9).bind fun x18=>
   (dX N x15 x18 carry_1).bind fun cW=>
   (bK 4 l3 x9).bind fun dL=>
   (pO N va b m) cW.2 (aYV.wrap (x9+1)) (l3.set (aY0 x9) cW.1)
  else
   some (carry_1,l3)
def aEs (N:Nat)(va b:List Int):Option ((List Int)×Bool):=
 (pO N va b N 0 0 (aYX 4 0)).bind fun p2=>
 aEI N p2.1 p2.2
end Go.Proofs.YtgfdllellpbmoaaGreatDoor
set_option linter.unusedSectionVars false
namespace Go.Proofs.YtgfdllellpbmoaaGreatDoor
open Go Go.Vm
def w4 (a b c d:Nat):List Int:=[(a:Int),(b:Int),(c:Int),(d:Int)]
def vl (a b c d:Nat):Nat:=a+18446744073709551616*b+340282366920938463463374607431768211456*c+6277101735386680763835789423207666416102355444464034512896*d
def U (n:Nat):List Int:=w4 (n%18446744073709551616) (n/18446744073709551616%18446744073709551616) (n/340282366920938463463374607431768211456%18446744073709551616) (n/6277101735386680763835789423207666416102355444464034512896%18446744073709551616)
theorem aE1 {a b c d:Nat}(ha:a<18446744073709551616)(hb:b<18446744073709551616)(hc:c<18446744073709551616)(hd:d<18446744073709551616):w4 a b c d=U (vl a b c d):=by
 unfold U vl
 have h0:(a+18446744073709551616*b+340282366920938463463374607431768211456*c+6277101735386680763835789423207666416102355444464034512896*d)%18446744073709551616=a:=by omega
 have h1:(a+18446744073709551616*b+340282366920938463463374607431768211456*c+6277101735386680763835789423207666416102355444464034512896*d)/18446744073709551616%18446744073709551616=b:=by omega
 have h2:(a+18446744073709551616*b+340282366920938463463374607431768211456*c+6277101735386680763835789423207666416102355444464034512896*d)/340282366920938463463374607431768211456%18446744073709551616=c:=by omega
 have h3:(a+18446744073709551616*b+340282366920938463463374607431768211456*c+6277101735386680763835789423207666416102355444464034512896*d)/6277101735386680763835789423207666416102355444464034512896%18446744073709551616=d:=by omega
 rw[h0,h1,h2,h3]
theorem aDx {n:Nat}(h:n<115792089237316195423570985008687907853269984665640564039457584007913129639936): ∃a b c d,a<18446744073709551616∧b<18446744073709551616∧c<18446744073709551616∧d<18446744073709551616∧U n=w4 a b c d∧n=vl a b c d:=by
 refine⟨n%18446744073709551616,n/18446744073709551616%18446744073709551616,n/340282366920938463463374607431768211456%18446744073709551616,n/6277101735386680763835789423207666416102355444464034512896%18446744073709551616,by omega,by omega,by omega,by omega,rfl, ?_⟩
 unfold vl
 omega
theorem aMY {a b c d:Nat}(ha:a<18446744073709551616)(hb:b<18446744073709551616)(hc:c<18446744073709551616)(hd:d<18446744073709551616):vl a b c d<115792089237316195423570985008687907853269984665640564039457584007913129639936:=by unfold vl;omega
def Wd (l:List Int):Prop:=l.length=4∧ ∀x∈l,0≤x∧x<18446744073709551616
theorem Wd.ex {l:List Int}(h:Wd l): ∃n,n<115792089237316195423570985008687907853269984665640564039457584007913129639936∧l=U n:=by
 obtain⟨hl,hx⟩:=h
 match l,hl,hx with
 | [a,b,c,d],_,hx=>
  have ha:=hx a (by simp)
  have hb:=hx b (by simp)
  have hc:=hx c (by simp)
  have hd:=hx d (by simp)
  refine⟨vl a.toNat b.toNat c.toNat d.toNat,aMY (by omega) (by omega) (by omega) (by omega), ?_⟩
  rw[←aE1 (by omega) (by omega) (by omega) (by omega)]
  unfold w4
  rw[aZj ha.1,aZj hb.1,aZj hc.1,aZj hd.1]
theorem aGf (n:Nat):Wd (U n):=by
 refine⟨rfl,fun x hx=> ?_⟩
 simp only[U,w4,List.mem_cons,List.not_mem_nil,or_false]at hx
 rcases hx with rfl|rfl|rfl|rfl<;>omega
theorem aXv {a b:Nat}(ha:a<115792089237316195423570985008687907853269984665640564039457584007913129639936)(hb:b<115792089237316195423570985008687907853269984665640564039457584007913129639936)(h:U a=U b):a=b:=by
 simp only[U,w4,aZE,and_true]at h
 omega
theorem aQA {a b:Nat}(ha:a<115792089237316195423570985008687907853269984665640564039457584007913129639936)(hb:b<115792089237316195423570985008687907853269984665640564039457584007913129639936):(U a == U b)=decide (a=b):=by
 by_cases h:a=b
 ·subst h;simp
 rw[decide_eq_false h]
 apply beq_eq_false_iff_ne.2
 exact fun e=>h (aXv ha hb e)
theorem aN0 :U 0=[0,0,0,0]:=rfl
theorem a40 (a b c d:Nat):bK 4 (w4 a b c d) 0=some (a:Int):=rfl
theorem a41 (a b c d:Nat):bK 4 (w4 a b c d) 1=some (b:Int):=rfl
theorem a42 (a b c d:Nat):bK 4 (w4 a b c d) 2=some (c:Int):=rfl
theorem a43 (a b c d:Nat):bK 4 (w4 a b c d) 3=some (d:Int):=rfl
theorem fW (n:Nat):bH 4 (U n)=some (U n):=rfl
theorem q40 (a b c d:Int):bK 4 [a,b,c,d] 0=some a:=rfl
theorem q41 (a b c d:Int):bK 4 [a,b,c,d] 1=some b:=rfl
theorem q42 (a b c d:Int):bK 4 [a,b,c,d] 2=some c:=rfl
theorem q43 (a b c d:Int):bK 4 [a,b,c,d] 3=some d:=rfl
theorem t40 (a b c d x:Int):[a,b,c,d].set (aY0 0) x=[x,b,c,d]:=rfl
theorem t41 (a b c d x:Int):[a,b,c,d].set (aY0 1) x=[a,x,c,d]:=rfl
theorem t42 (a b c d x:Int):[a,b,c,d].set (aY0 2) x=[a,b,x,d]:=rfl
theorem t43 (a b c d x:Int):[a,b,c,d].set (aY0 3) x=[a,b,c,x]:=rfl
theorem r40 :aYX 4 (0:Int)=[0,0,0,0]:=rfl
theorem d04 :decide ((0:Int)<4)=true:=rfl
theorem d14 :decide ((1:Int)<4)=true:=rfl
theorem d24 :decide ((2:Int)<4)=true:=rfl
theorem d34 :decide ((3:Int)<4)=true:=rfl
theorem d44 :decide ((4:Int)<4)=false:=rfl
theorem i01 :aYV.wrap (0+1)=1:=by decide +kernel
theorem i12 :aYV.wrap (1+1)=2:=by decide +kernel
theorem i23 :aYV.wrap (2+1)=3:=by decide +kernel
theorem i34 :aYV.wrap (3+1)=4:=by decide +kernel
theorem i32 :aYV.wrap (3-1)=2:=by decide +kernel
theorem i21 :aYV.wrap (2-1)=1:=by decide +kernel
theorem i10 :aYV.wrap (1-1)=0:=by decide +kernel
theorem i0m :aYV.wrap (0-1)= -1:=by decide +kernel
theorem sS {α:Type}(f:Nat→α){N:Nat}(h:70000≤N): ∃m,f N=f (m+1+1+1+1+1):=⟨N-5,by congr 1;omega⟩
theorem sJ {x y c:Nat}(hx:x<18446744073709551616)(hy:y<18446744073709551616)(hc:c≤1): ∃s k:Nat,sT (x:Int) (y:Int) (c:Int)=some ((s:Int),(k:Int))∧x+y+c=s+18446744073709551616*k∧s<18446744073709551616∧k≤1:=by
 refine⟨(x+y+c)%18446744073709551616,(x+y+c)/18446744073709551616, ?_,by omega,by omega,by omega⟩
 unfold sT
 simp only[aY3]
 rw[if_pos hc]
theorem yM {x y c:Nat}(hx:x<18446744073709551616)(hy:y<18446744073709551616)(hc:c≤1): ∃s k:Nat,aFQ (x:Int) (y:Int) (c:Int)=some ((s:Int),(k:Int))∧x+18446744073709551616*k=y+c+s∧s<18446744073709551616∧k≤1:=by
 refine⟨(x+18446744073709551616-y-c)%18446744073709551616,if x<y+c then 1 else 0, ?_, ?_,by omega, ?_⟩
 ·unfold aFQ
  simp only[aY3]
  rw[if_pos hc]
 ·split<;>omega
 split<;>omega
theorem aWc {N:Nat}(hN:70000≤N){a0 a1 a2 a3 b0 b1 b2 b3:Nat}(ha0:a0<18446744073709551616)(ha1:a1<18446744073709551616)(ha2:a2<18446744073709551616)(ha3:a3<18446744073709551616)(hb0:b0<18446744073709551616)(hb1:b1<18446744073709551616)(hb2:b2<18446744073709551616)(hb3:b3<18446744073709551616):
  ∃s0 s1 s2 s3 k:Nat,aEs N (w4 a0 a1 a2 a3) (w4 b0 b1 b2 b3)=some (w4 s0 s1 s2 s3,((k:Int) != 0))∧vl a0 a1 a2 a3+vl b0 b1 b2 b3=vl s0 s1 s2 s3+115792089237316195423570985008687907853269984665640564039457584007913129639936*k∧s0<18446744073709551616∧s1<18446744073709551616∧s2<18446744073709551616∧s3<18446744073709551616∧k≤1:=by
 obtain⟨s0,k0,e0,f0,g0,l0⟩:=sJ ha0 hb0 (Nat.zero_le 1)
 obtain⟨s1,k1,e1,f1,g1,l1⟩:=sJ ha1 hb1 l0
 obtain⟨s2,k2,e2,f2,g2,l2⟩:=sJ ha2 hb2 l1
 obtain⟨s3,k3,e3,f3,g3,l3⟩:=sJ ha3 hb3 l2
 refine⟨s0,s1,s2,s3,k3, ?_,by unfold vl;omega,g0,g1,g2,g3,l3⟩
 obtain⟨m,hm⟩:=sS (fun q=>pO N (w4 a0 a1 a2 a3) (w4 b0 b1 b2 b3) q 0 0 (aYX 4 0)) hN
 unfold aEs
 rw[hm]
 have e0':sT (a0:Int) (b0:Int) 0=some ((s0:Int),(k0:Int)):=e0
 simp only[pO,dX,a40,a41,a42,a43,q40,q41,q42,q43,t40,t41,t42,t43,r40,i01,i12,i23,i34,d04,d14,d24,d34,d44,if_true,aY7,if_false,aYW,e0',e1,e2,e3,aEI]
 rfl
theorem aXm {N:Nat}(hN:70000≤N){a b:Nat}(ha:a<115792089237316195423570985008687907853269984665640564039457584007913129639936)(hb:b<115792089237316195423570985008687907853269984665640564039457584007913129639936):aEs N (U a) (U b)=some (U ((a+b)%115792089237316195423570985008687907853269984665640564039457584007913129639936),decide (115792089237316195423570985008687907853269984665640564039457584007913129639936≤a+b)):=by
 obtain⟨a0,a1,a2,a3,x0,x1,x2,x3,ea,va⟩:=aDx ha
 obtain⟨b0,b1,b2,b3,y0,y1,y2,y3,eb,vb⟩:=aDx hb
 obtain⟨s0,s1,s2,s3,k,h1,h2,z0,z1,z2,z3,hk⟩:=aWc hN x0 x1 x2 x3 y0 y1 y2 y3
 have hv:=aMY z0 z1 z2 z3
 rw[ea,eb,h1,aE1 z0 z1 z2 z3,show(a+b)%115792089237316195423570985008687907853269984665640564039457584007913129639936=vl s0 s1 s2 s3 by omega]
 congr 2
 by_cases h:115792089237316195423570985008687907853269984665640564039457584007913129639936≤a+b
 ·rw[decide_eq_true h,show k=1 by omega];rfl
 rw[decide_eq_false h,show k=0 by omega];rfl
theorem aVP {N:Nat}(hN:70000≤N){a0 a1 a2 a3 b0 b1 b2 b3:Nat}(ha0:a0<18446744073709551616)(ha1:a1<18446744073709551616)(ha2:a2<18446744073709551616)(ha3:a3<18446744073709551616)(hb0:b0<18446744073709551616)(hb1:b1<18446744073709551616)(hb2:b2<18446744073709551616)(hb3:b3<18446744073709551616):
  ∃s0 s1 s2 s3 k:Nat,aD6 N (w4 a0 a1 a2 a3) (w4 b0 b1 b2 b3)=some (w4 s0 s1 s2 s3,((k:Int) != 0))∧vl a0 a1 a2 a3+115792089237316195423570985008687907853269984665640564039457584007913129639936*k=vl b0 b1 b2 b3+vl s0 s1 s2 s3∧s0<18446744073709551616∧s1<18446744073709551616∧s2<18446744073709551616∧s3<18446744073709551616∧k≤1:=by
 obtain⟨s0,k0,e0,f0,g0,l0⟩:=yM ha0 hb0 (Nat.zero_le 1)
 obtain⟨s1,k1,e1,f1,g1,l1⟩:=yM ha1 hb1 l0
 obtain⟨s2,k2,e2,f2,g2,l2⟩:=yM ha2 hb2 l1
 obtain⟨s3,k3,e3,f3,g3,l3⟩:=yM ha3 hb3 l2
 refine⟨s0,s1,s2,s3,k3, ?_,by unfold vl;omega,g0,g1,g2,g3,l3⟩
 obtain⟨m,hm⟩:=sS (fun q=>pK N (w4 a0 a1 a2 a3) (w4 b0 b1 b2 b3) q 0 0 (aYX 4 0)) hN
 unfold aD6
 rw[hm]
 have e0':aFQ (a0:Int) (b0:Int) 0=some ((s0:Int),(k0:Int)):=e0
 simp only[pK,sG,a40,a41,a42,a43,q40,q41,q42,q43,t40,t41,t42,t43,r40,i01,i12,i23,i34,d04,d14,d24,d34,d44,if_true,aY7,if_false,aYW,e0',e1,e2,e3,aEQ]
 rfl
theorem aXu {N:Nat}(hN:70000≤N){a b:Nat}(ha:a<115792089237316195423570985008687907853269984665640564039457584007913129639936)(hb:b<115792089237316195423570985008687907853269984665640564039457584007913129639936):aD6 N (U a) (U b)=some (U ((a+115792089237316195423570985008687907853269984665640564039457584007913129639936-b)%115792089237316195423570985008687907853269984665640564039457584007913129639936),decide (a<b)):=by
 obtain⟨a0,a1,a2,a3,x0,x1,x2,x3,ea,va⟩:=aDx ha
 obtain⟨b0,b1,b2,b3,y0,y1,y2,y3,eb,vb⟩:=aDx hb
 obtain⟨s0,s1,s2,s3,k,h1,h2,z0,z1,z2,z3,hk⟩:=aVP hN x0 x1 x2 x3 y0 y1 y2 y3
 have hv:=aMY z0 z1 z2 z3
 rw[ea,eb,h1,aE1 z0 z1 z2 z3,show(a+115792089237316195423570985008687907853269984665640564039457584007913129639936-b)%115792089237316195423570985008687907853269984665640564039457584007913129639936=vl s0 s1 s2 s3 by omega]
 congr 2
 by_cases h:a<b
 ·rw[decide_eq_true h,show k=1 by omega];rfl
 rw[decide_eq_false h,show k=0 by omega];rfl
theorem aFV {N:Nat}(hN:70000≤N){a b:Nat}(ha:a<115792089237316195423570985008687907853269984665640564039457584007913129639936)(hb:b<115792089237316195423570985008687907853269984665640564039457584007913129639936):aAL N (U a) (U b)=some (if a<b then -1 else if b<a then 1 else 0):=by
 obtain⟨a0,a1,a2,a3,x0,x1,x2,x3,ea,va⟩:=aDx ha
 obtain⟨b0,b1,b2,b3,y0,y1,y2,y3,eb,vb⟩:=aDx hb
 rw[ea,eb]
 obtain⟨m,hm⟩:=sS (fun q=>pM N (w4 a0 a1 a2 a3) (w4 b0 b1 b2 b3) q 3) hN
 unfold aAL
 rw[hm]
 unfold vl at va vb
 simp only[pM,a40,a41,a42,a43,i32,i21,i10,i0m,show decide ((0:Int)≤3)=true from rfl,show decide ((0:Int)≤2)=true from rfl,show decide ((0:Int)≤1)=true from rfl,show decide ((0:Int)≤0)=true from rfl,show decide ((0:Int)≤ -1)=false from rfl,if_true,aY7,if_false,aYW,aCR,decide_eq_true_eq,Int.ofNat_lt]
 by_cases c3:a3<b3
 ·rw[if_pos c3,if_pos (by omega)];rfl
 rw[if_neg c3]
 by_cases d3:b3<a3
 ·rw[if_pos d3,if_neg (by omega),if_pos (by omega)];rfl
 rw[if_neg d3]
 by_cases c2:a2<b2
 ·rw[if_pos c2,if_pos (by omega)];rfl
 rw[if_neg c2]
 by_cases d2:b2<a2
 ·rw[if_pos d2,if_neg (by omega),if_pos (by omega)];rfl
 rw[if_neg d2]
 by_cases c1:a1<b1
 ·rw[if_pos c1,if_pos (by omega)];rfl
 rw[if_neg c1]
 by_cases d1:b1<a1
 ·rw[if_pos d1,if_neg (by omega),if_pos (by omega)];rfl
 rw[if_neg d1]
 by_cases c0:a0<b0
 ·rw[if_pos c0,if_pos (by omega)];rfl
 rw[if_neg c0]
 by_cases d0:b0<a0
 ·rw[if_pos d0,if_neg (by omega),if_pos (by omega)];rfl
 rw[if_neg d0,if_neg (by omega),if_neg (by omega)];rfl
open Go.ChangeShapes Go.WideShapes Go.ChangeAt Go.RowKit
theorem aPI {W:World}{g:Nat}{xs:List Int}(hne:0<xs.length)(hc: ∀i,i<xs.length→W.cell? ⟨g,i,none⟩=some (.int .u32 (xs.getD i 0))):VR yF [] W (.eptr [.agg (xs.map fun x=> .sc (.int .u32 x))] 0 0) (.pointer (some ⟨g,0,none⟩)):=by
 unfold VR
 refine⟨⟨g,0,none⟩,xs.length,by simp[Addr.add],hne,fun _ hx=>hx,rfl, ?_, ?_⟩
 ·intro e he
  simp only[List.mem_singleton]at he
  subst he
  simp[V.okElem,V.flatOk,V.cells,V.one,List.all_map]
  exact fun _ _=>rfl
 unfold VRow
 refine⟨⟨.agg (xs.map fun x=>Value.int .u32 x).toArray, ?_,by simp[Value.cells], ?_⟩,by unfold VRow;trivial⟩
 ·unfold VR
  refine⟨xs.map fun x=>Value.int .u32 x,rfl, ?_⟩
  generalize xs=ys
  induction ys with
  |nil=>exact rT
  |cons y ys ih=>exact gX (aQr _) ih
 intro j u hu
 simp only[Value.cells,List.getElem?_toArray,List.getElem?_map,Option.map_eq_some_iff]at hu
 obtain⟨x,hx,rfl⟩:=hu
 have hj:=(aZg.1 hx).1
 have:=hc j hj
 simp only[aZu,hx,Option.getD_some]at this
 have e:(⟨g,0,none⟩:Addr).add j=⟨g,j,none⟩:=by simp only[Addr.add];split<;>simp_all
 rw[e];exact this
theorem gK :Tryz.prog.globalNamed "lightclient/sha.k" =some 2:=by kernel_rfl
theorem gKt :(Tryz.prog.globals[2]?).map (·.type)=some 188:=by kernel_rfl
theorem gI :Tryz.prog.globalNamed "lightclient/sha.initial" =some 0:=by kernel_rfl
theorem gIt :(Tryz.prog.globals[0]?).map (·.type)=some 160:=by kernel_rfl
theorem aVp :Tryz.prog.cellsOf 188=64:=by kernel_rfl
theorem aWp :Tryz.prog.cellsOf 160=8:=by kernel_rfl
theorem aRb :Tryz.prog.cellsOf 22=1:=by kernel_rfl
theorem aHb {P:Program}{W:World}{name:String}{k:IntKind}{zs:List Int}{g:Nat}(h:Lib.TabIs P W name k zs)(hg:P.globalNamed name=some g): ∃t,W.shape? g=some (t,zs.length):=by
 unfold Lib.TabIs World.var? at h
 rw[hg,aYW]at h
 unfold World.shape?
 split at h
 ·rename_i cs t f hh
  injection h with h
  subst h
  exact⟨t,by rw[hh];simp⟩
 cases h
theorem aWt {W:World} (h:laidMetH Tryz.prog [("lightclient/sha.k",Rows.laid_lightclient_sha_k),("lightclient/sha.initial",Rows.laid_lightclient_sha_initial)] W):Lib.TabIs Tryz.prog W "lightclient/sha.k" .u32 aEV:=
 Lib.tabIs_of_head (rest:=[("lightclient/sha.initial",Rows.laid_lightclient_sha_initial)]) gK gKt Tryz.underlying188 Tryz.underlying22 aRb aVp h
theorem aWw {W:World} (h:laidMetH Tryz.prog [("lightclient/sha.k",Rows.laid_lightclient_sha_k),("lightclient/sha.initial",Rows.laid_lightclient_sha_initial)] W):Lib.TabIs Tryz.prog W "lightclient/sha.initial" .u32 zX:=by
 have h2:=h.filter (fun x=>x.1 == "lightclient/sha.initial")
 exact Lib.tabIs_of_head (rest:=[]) gI gIt Tryz.underlying160 Tryz.underlying22 aRb aWp h2
theorem aXg {W:World} (h:laidMetH Tryz.prog [("lightclient/sha.k",Rows.laid_lightclient_sha_k),("lightclient/sha.initial",Rows.laid_lightclient_sha_initial)] W):Globs yF W:=by
 intro g e hg
 unfold GT at hg
 split at hg
 ·injection hg with hg
  subst hg
  refine⟨aPI (xs:=zX) (by decide) (fun i hi=>(aWw h).cell gI i hi), ?_⟩
  obtain⟨t,ht⟩:=aHb (aWw h) gI
  exact⟨t,by rw[ht];rfl⟩
 ·injection hg with hg
  subst hg
  refine⟨aPI (xs:=aEV) (by decide) (fun i hi=>(aWt h).cell gK i hi), ?_⟩
  obtain⟨t,ht⟩:=aHb (aWt h) gK
  exact⟨t,by rw[ht];rfl⟩
 cases hg
abbrev NN :Nat:=70000
theorem aC7 {l:List Int}(hl: ∀x∈l,(Lit.int .u8 x).wf=true):Byt l:=by
 intro x hx
 have:=hl x hx
 simp[Lit.wf,aZw,aZa,aZp,aZq]at this;omega
theorem aSc {x:Int}(h:(Lit.int .u8 x).wf=true):0≤x∧x<256:=by
 simp[Lit.wf,aZw,aZa,aZp,aZq]at h;omega
theorem aRR {x:Int}(h:(Lit.int .u32 x).wf=true):0≤x∧x<4294967296:=by
 simp[Lit.wf,aZw,aZa,aZp,aZq]at h;omega
theorem aSN {l:List Int}(h:l.length=4∧ ∀x∈l,(Lit.int .u64 x).wf=true):Wd l:=⟨h.1,fun x hx=>by
 have:=h.2 x hx
 simp[Lit.wf,aZw,aZa,aZp,aZq]at this;omega⟩
theorem aRr {x:Int}(h:(Lit.int .i64 x).wf=true): -9223372036854775808≤x∧x≤9223372036854775807:=by
 simp[Lit.wf,aZw,aZa,aZp,aZq]at h;omega
def lay (i:Nat)(cs:Array Value)(h:Array Obj):Array Obj:=h.modify i fun
 | .cells _ t frozen=> .cells cs t frozen
 |o=>o
noncomputable def aGP (os:Os):World:=
 {World.holding Tryz.prog os ⟨#[],#[],[]⟩with heap:=lay 2 #[.int .u32 1116352408,.int .u32 1899447441,.int .u32 3049323471,.int .u32 3921009573,.int .u32 961987163,.int .u32 1508970993,.int .u32 2453635748,.int .u32 2870763221,.int .u32 3624381080,.int .u32 310598401,.int .u32 607225278,.int .u32 1426881987,.int .u32 1925078388,.int .u32 2162078206,.int .u32 2614888103,.int .u32 3248222580,.int .u32 3835390401,.int .u32 4022224774,.int .u32 264347078,.int .u32 604807628,.int .u32 770255983,.int .u32 1249150122,.int .u32 1555081692,.int .u32 1996064986,.int .u32 2554220882,.int .u32 2821834349,.int .u32 2952996808,.int .u32 3210313671,.int .u32 3336571891,.int .u32 3584528711,.int .u32 113926993,.int .u32 338241895,.int .u32 666307205,.int .u32 773529912,.int .u32 1294757372,.int .u32 1396182291,.int .u32 1695183700,.int .u32 1986661051,.int .u32 2177026350,.int .u32 2456956037,.int .u32 2730485921,.int .u32 2820302411,.int .u32 3259730800,.int .u32 3345764771,.int .u32 3516065817,.int .u32 3600352804,.int .u32 4094571909,.int .u32 275423344,.int .u32 430227734,.int .u32 506948616,.int .u32 659060556,.int .u32 883997877,.int .u32 958139571,.int .u32 1322822218,.int .u32 1537002063,.int .u32 1747873779,.int .u32 1955562222,.int .u32 2024104815,.int .u32 2227730452,.int .u32 2361852424,.int .u32 2428436474,.int .u32 2756734187,.int .u32 3204031479,.int .u32 3329325298] (lay 0 #[.int .u32 1779033703,.int .u32 3144134277,.int .u32 1013904242,.int .u32 2773480762,.int .u32 1359893119,.int .u32 2600822924,.int .u32 528734635,.int .u32 1541459225] (World.holding Tryz.prog os ⟨#[],#[],[]⟩).heap)}
end Go.Proofs.YtgfdllellpbmoaaGreatDoor
namespace Go.Vm
open Go Go.ChangeShapes Go.WideShapes Go.ChangeAt Go.RowKit
section
variable {P:Program}{t e:TypeId}
theorem aJS {α:Type}{w:World}{E:α→V}: ∀(l:List α)(vs:List Value),l.length=vs.length→(∀(i:Nat)(x:α)(v:Value),l[i]? =some x→vs[i]? =some v→VR yF [] w (E x) v)→VCells yF [] w (l.map E) vs
 | [],[],_,_=>rT
 | [],_::_,h,_=>by cases h
 |_::_,[],h,_=>by cases h
 |x::l,v::vs,h,k=>gX (k 0 x v rfl rfl) (aJS l vs (by simpa using h) fun i x' v' h1 h2=>k (i+1) x' v' (by simpa using h1) (by simpa using h2))
theorem aOQ {n:Nat}{k:IntKind}(ht:P.underlying t=some (.array n e))(he:P.underlying e=some (.int k))(h1:P.cellsOf e=1)(hn:P.cellsOf t=n):
  uK P t (fun x:{l:List Int // l.length=n}=> ∀y∈x.1,(Lit.int k y).wf=true) (fun x=>x.1.map (eI k)):=by
 intro H enc w spare held fuel cs x h
 obtain⟨xs,m,_,_,hl,hxs,hf⟩:=DataW.trod_array ht h
 rw[hn]at hl
 have each: ∀i,i<n→ ∃a:Int,(Lit.int k a).wf=true∧ ∀v,cs[i]? =some v→VR yF [] w (eI k a) v:=by
  intro i hi
  have h2:=hf i hi
  rw[h1,Nat.mul_one,aZc (by omega)]at h2
  obtain⟨a,hw,hc⟩:=fE he h2
  refine⟨a,hw,fun v hv=> ?_⟩
  have e2:(cs.drop i).take 1=[v]:=by
   obtain⟨hic,rfl⟩:=aZg.1 hv
   rw[aY9 hic];rfl
  rw[e2]at hc
  exact aEO hc
 obtain⟨l,hll,hr⟩:=aEP n each
 refine⟨⟨l,hll⟩,fun y hy=> ?_,aJS l cs (by omega) fun i x v h1 h2=>(hr i x h1).2 v h2⟩
 obtain⟨i,hi,rfl⟩:=List.mem_iff_getElem.1 hy
 exact(hr i _ (aZc hi)).1
theorem aAY {n:Nat}{k:IntKind}(ht:P.underlying t=some (.array n e))(he:P.underlying e=some (.int k))(h1:P.cellsOf e=1)(hn:P.cellsOf t=n):
  uK P t (fun x:List Int=>x.length=n∧ ∀y∈x,(Lit.int k y).wf=true) (fun x=>x.map (eI k)):=by
 intro H enc w spare held fuel cs x h
 obtain⟨a,hq,hc⟩:=aOQ ht he h1 hn h
 exact⟨a.1,⟨a.2,hq⟩,hc⟩
theorem aJ7 {w:World}: ∀{A B:List V}{us bs:List Value},VCells yF [] w A us→VCells yF [] w B bs→VCells yF [] w (A++B) (us++bs)
 | [],B,us,bs,h,k=>by
  unfold VCells at h
  subst h
  exact k
 |a::A,B,us,bs,h,k=>by
  unfold VCells at h
  obtain⟨v,rest,rfl,h1,h2⟩:=h
  exact gX h1 (aJ7 h2 k)
theorem dE {w:World}{A B:List V}{cs:List Value}{o n:Nat}(h:VCells yF [] w A ((cs.drop o).take n))(k:VCells yF [] w B (cs.drop (o+n))):VCells yF [] w (A++B) (cs.drop o):=by
 have e:cs.drop o=(cs.drop o).take n++cs.drop (o+n):=by rw[←List.drop_drop,List.take_append_drop]
 rw[e]
 exact aJ7 h k
theorem uN {w:World}{cs:List Value}{n:Nat}(h:cs.length=n):VCells yF [] w [] (cs.drop n):=by
 rw[aY8 (by omega)];exact rT
end
end Go.Vm
namespace Go.Proofs.YtgfdllellpbmoaaGreatDoor
open Go Go.Vm
open Go.ChangeShapes Go.WideShapes Go.ChangeAt Go.RowKit
def aHp (x:bT):Prop:=((Lit.int .u32 x.Version).wf=true)∧(x.Prev.length=32∧ ∀z0∈x.Prev,(Lit.int .u8 z0).wf=true)∧(x.Root.length=32∧ ∀z0∈x.Root,(Lit.int .u8 z0).wf=true)∧((Lit.int .u32 x.Time).wf=true)∧((Lit.int .u32 x.Bits).wf=true)∧((Lit.int .u32 x.Nonce).wf=true)
set_option maxRecDepth 100000 in
theorem aIv :uK Tryz.prog 26 aHp nS:=by
 intro H enc w spare held fuel cs x h
 obtain⟨xs,n,_,_,hl,hlen,hf⟩:=DataW.trod_struct Tryz.underlying26 h
 rw[show Tryz.prog.cellsOf 26=68 by kernel_rfl]at hl
 match xs,hlen,hf with
 | [y0,y1,y2,y3,y4,y5],_,hf=>
  have h0:DataW.trod enc Tryz.prog w 0 spare held n 22 ((cs.drop 0).take (Tryz.prog.cellsOf 22))=some y0:=hf 0 _ rfl
  obtain⟨a0,q0,c0⟩:=(fE Tryz.underlying22) h0
  rw[show Tryz.prog.cellsOf 22=1 by kernel_rfl]at c0
  have h1:DataW.trod enc Tryz.prog w 0 spare held n 24 ((cs.drop 1).take (Tryz.prog.cellsOf 24))=some y1:=hf 1 _ rfl
  obtain⟨a1,q1,c1⟩:=(aAY Tryz.underlying24 Tryz.underlying5 (by kernel_rfl) (by kernel_rfl)) h1
  rw[show Tryz.prog.cellsOf 24=32 by kernel_rfl]at c1
  have h2:DataW.trod enc Tryz.prog w 0 spare held n 24 ((cs.drop 33).take (Tryz.prog.cellsOf 24))=some y2:=hf 2 _ rfl
  obtain⟨a2,q2,c2⟩:=(aAY Tryz.underlying24 Tryz.underlying5 (by kernel_rfl) (by kernel_rfl)) h2
  rw[show Tryz.prog.cellsOf 24=32 by kernel_rfl]at c2
  have h3:DataW.trod enc Tryz.prog w 0 spare held n 22 ((cs.drop 65).take (Tryz.prog.cellsOf 22))=some y3:=hf 3 _ rfl
  obtain⟨a3,q3,c3⟩:=(fE Tryz.underlying22) h3
  rw[show Tryz.prog.cellsOf 22=1 by kernel_rfl]at c3
  have h4:DataW.trod enc Tryz.prog w 0 spare held n 22 ((cs.drop 66).take (Tryz.prog.cellsOf 22))=some y4:=hf 4 _ rfl
  obtain⟨a4,q4,c4⟩:=(fE Tryz.underlying22) h4
  rw[show Tryz.prog.cellsOf 22=1 by kernel_rfl]at c4
  have h5:DataW.trod enc Tryz.prog w 0 spare held n 22 ((cs.drop 67).take (Tryz.prog.cellsOf 22))=some y5:=hf 5 _ rfl
  obtain⟨a5,q5,c5⟩:=(fE Tryz.underlying22) h5
  rw[show Tryz.prog.cellsOf 22=1 by kernel_rfl]at c5
  refine⟨⟨a0,a1,a2,a3,a4,a5⟩,⟨q0,q1,q2,q3,q4,q5⟩, ?_⟩
  have c:=(dE (o:=0) c0 (dE (o:=1) c1 (dE (o:=33) c2 (dE (o:=65) c3 (dE (o:=66) c4 (dE (o:=67) c5 (uN hl)))))))
  simp only[nS,aAP q1.1,aAP q2.1]
  exact c
def aDV (x:e9):Prop:=((Lit.int .i64 x.Height).wf=true)∧(x.Hash.length=32∧ ∀z0∈x.Hash,(Lit.int .u8 z0).wf=true)
set_option maxRecDepth 100000 in
theorem aF2 :uK Tryz.prog 86 aDV gT:=by
 intro H enc w spare held fuel cs x h
 obtain⟨xs,n,_,_,hl,hlen,hf⟩:=DataW.trod_struct Tryz.underlying86 h
 rw[show Tryz.prog.cellsOf 86=33 by kernel_rfl]at hl
 match xs,hlen,hf with
 | [y0,y1],_,hf=>
  have h0:DataW.trod enc Tryz.prog w 0 spare held n 3 ((cs.drop 0).take (Tryz.prog.cellsOf 3))=some y0:=hf 0 _ rfl
  obtain⟨a0,q0,c0⟩:=(fE Tryz.underlying3) h0
  rw[show Tryz.prog.cellsOf 3=1 by kernel_rfl]at c0
  have h1:DataW.trod enc Tryz.prog w 0 spare held n 24 ((cs.drop 1).take (Tryz.prog.cellsOf 24))=some y1:=hf 1 _ rfl
  obtain⟨a1,q1,c1⟩:=(aAY Tryz.underlying24 Tryz.underlying5 (by kernel_rfl) (by kernel_rfl)) h1
  rw[show Tryz.prog.cellsOf 24=32 by kernel_rfl]at c1
  refine⟨⟨a0,a1⟩,⟨q0,q1⟩, ?_⟩
  have c:=(dE (o:=0) c0 (dE (o:=1) c1 (uN hl)))
  simp only[gT,aAP q1.1]
  exact c
def aNq (x:aJ):Prop:=(aHp x.Genesis)∧(x.Limit.length=4∧ ∀z0∈x.Limit,(Lit.int .u64 z0).wf=true)∧((Lit.int .i64 x.Window).wf=true)∧((Lit.int .u32 x.Spacing).wf=true)∧((Lit.int .u32 x.Future).wf=true)∧((Lit.int .u32 x.Version).wf=true)∧(∀z0∈x.Checkpoints,aDV z0)∧((Lit.int .i64 x.Subsidy).wf=true)∧((Lit.int .i64 x.Halving).wf=true)∧((Lit.int .i64 x.Maturity).wf=true)
set_option maxRecDepth 100000 in
theorem aIC :uK Tryz.prog 32 aNq aT:=by
 intro H enc w spare held fuel cs x h
 obtain⟨xs,n,_,_,hl,hlen,hf⟩:=DataW.trod_struct Tryz.underlying32 h
 rw[show Tryz.prog.cellsOf 32=80 by kernel_rfl]at hl
 match xs,hlen,hf with
 | [y0,y1,y2,y3,y4,y5,y6,y7,y8,y9],_,hf=>
  have h0:DataW.trod enc Tryz.prog w 0 spare held n 26 ((cs.drop 0).take (Tryz.prog.cellsOf 26))=some y0:=hf 0 _ rfl
  obtain⟨a0,q0,c0⟩:=aIv h0
  rw[show Tryz.prog.cellsOf 26=68 by kernel_rfl]at c0
  have h1:DataW.trod enc Tryz.prog w 0 spare held n 29 ((cs.drop 68).take (Tryz.prog.cellsOf 29))=some y1:=hf 1 _ rfl
  obtain⟨a1,q1,c1⟩:=(aAY Tryz.underlying29 Tryz.underlying27 (by kernel_rfl) (by kernel_rfl)) h1
  rw[show Tryz.prog.cellsOf 29=4 by kernel_rfl]at c1
  have h2:DataW.trod enc Tryz.prog w 0 spare held n 3 ((cs.drop 72).take (Tryz.prog.cellsOf 3))=some y2:=hf 2 _ rfl
  obtain⟨a2,q2,c2⟩:=(fE Tryz.underlying3) h2
  rw[show Tryz.prog.cellsOf 3=1 by kernel_rfl]at c2
  have h3:DataW.trod enc Tryz.prog w 0 spare held n 22 ((cs.drop 73).take (Tryz.prog.cellsOf 22))=some y3:=hf 3 _ rfl
  obtain⟨a3,q3,c3⟩:=(fE Tryz.underlying22) h3
  rw[show Tryz.prog.cellsOf 22=1 by kernel_rfl]at c3
  have h4:DataW.trod enc Tryz.prog w 0 spare held n 22 ((cs.drop 74).take (Tryz.prog.cellsOf 22))=some y4:=hf 4 _ rfl
  obtain⟨a4,q4,c4⟩:=(fE Tryz.underlying22) h4
  rw[show Tryz.prog.cellsOf 22=1 by kernel_rfl]at c4
  have h5:DataW.trod enc Tryz.prog w 0 spare held n 22 ((cs.drop 75).take (Tryz.prog.cellsOf 22))=some y5:=hf 5 _ rfl
  obtain⟨a5,q5,c5⟩:=(fE Tryz.underlying22) h5
  rw[show Tryz.prog.cellsOf 22=1 by kernel_rfl]at c5
  have h6:DataW.trod enc Tryz.prog w 0 spare held n 30 ((cs.drop 76).take (Tryz.prog.cellsOf 30))=some y6:=hf 6 _ rfl
  obtain⟨a6,q6,c6⟩:=(aCO Tryz.underlying30 aF2 (by kernel_rfl) (by decide) (aNC (K:=33) (C:=gT) (fun _=>rfl) (fun _=>rfl))) h6
  rw[show Tryz.prog.cellsOf 30=1 by kernel_rfl]at c6
  have h7:DataW.trod enc Tryz.prog w 0 spare held n 2 ((cs.drop 77).take (Tryz.prog.cellsOf 2))=some y7:=hf 7 _ rfl
  obtain⟨a7,q7,c7⟩:=(fE Tryz.underlying2) h7
  rw[show Tryz.prog.cellsOf 2=1 by kernel_rfl]at c7
  have h8:DataW.trod enc Tryz.prog w 0 spare held n 3 ((cs.drop 78).take (Tryz.prog.cellsOf 3))=some y8:=hf 8 _ rfl
  obtain⟨a8,q8,c8⟩:=(fE Tryz.underlying3) h8
  rw[show Tryz.prog.cellsOf 3=1 by kernel_rfl]at c8
  have h9:DataW.trod enc Tryz.prog w 0 spare held n 3 ((cs.drop 79).take (Tryz.prog.cellsOf 3))=some y9:=hf 9 _ rfl
  obtain⟨a9,q9,c9⟩:=(fE Tryz.underlying3) h9
  rw[show Tryz.prog.cellsOf 3=1 by kernel_rfl]at c9
  refine⟨⟨a0,a1,a2,a3,a4,a5,a6,a7,a8,a9⟩,⟨q0,q1,q2,q3,q4,q5,q6,q7,q8,q9⟩, ?_⟩
  have c:=(dE (o:=0) c0 (dE (o:=68) c1 (dE (o:=72) c2 (dE (o:=73) c3 (dE (o:=74) c4 (dE (o:=75) c5 (dE (o:=76) c6 (dE (o:=77) c7 (dE (o:=78) c8 (dE (o:=79) c9 (uN hl)))))))))))
  simp only[aT,aPy q1.1]
  exact c
def aFu (x:aI):Prop:=(x.Tx.length=32∧ ∀z0∈x.Tx,(Lit.int .u8 z0).wf=true)∧((Lit.int .u32 x.Index).wf=true)
set_option maxRecDepth 100000 in
theorem aDe :uK Tryz.prog 37 aFu cC:=by
 intro H enc w spare held fuel cs x h
 obtain⟨xs,n,_,_,hl,hlen,hf⟩:=DataW.trod_struct Tryz.underlying37 h
 rw[show Tryz.prog.cellsOf 37=33 by kernel_rfl]at hl
 match xs,hlen,hf with
 | [y0,y1],_,hf=>
  have h0:DataW.trod enc Tryz.prog w 0 spare held n 24 ((cs.drop 0).take (Tryz.prog.cellsOf 24))=some y0:=hf 0 _ rfl
  obtain⟨a0,q0,c0⟩:=(aAY Tryz.underlying24 Tryz.underlying5 (by kernel_rfl) (by kernel_rfl)) h0
  rw[show Tryz.prog.cellsOf 24=32 by kernel_rfl]at c0
  have h1:DataW.trod enc Tryz.prog w 0 spare held n 22 ((cs.drop 32).take (Tryz.prog.cellsOf 22))=some y1:=hf 1 _ rfl
  obtain⟨a1,q1,c1⟩:=(fE Tryz.underlying22) h1
  rw[show Tryz.prog.cellsOf 22=1 by kernel_rfl]at c1
  refine⟨⟨a0,a1⟩,⟨q0,q1⟩, ?_⟩
  have c:=(dE (o:=0) c0 (dE (o:=32) c1 (uN hl)))
  simp only[cC,aAP q0.1]
  exact c
def aHe (x:bA):Prop:=((Lit.int .i64 x.Value).wf=true)∧(∀z0∈x.Script,(Lit.int .u8 z0).wf=true)
set_option maxRecDepth 100000 in
theorem aIL :uK Tryz.prog 57 aHe dM:=by
 intro H enc w spare held fuel cs x h
 obtain⟨xs,n,_,_,hl,hlen,hf⟩:=DataW.trod_struct Tryz.underlying57 h
 rw[show Tryz.prog.cellsOf 57=2 by kernel_rfl]at hl
 match xs,hlen,hf with
 | [y0,y1],_,hf=>
  have h0:DataW.trod enc Tryz.prog w 0 spare held n 2 ((cs.drop 0).take (Tryz.prog.cellsOf 2))=some y0:=hf 0 _ rfl
  obtain⟨a0,q0,c0⟩:=(fE Tryz.underlying2) h0
  rw[show Tryz.prog.cellsOf 2=1 by kernel_rfl]at c0
  have h1:DataW.trod enc Tryz.prog w 0 spare held n 38 ((cs.drop 1).take (Tryz.prog.cellsOf 38))=some y1:=hf 1 _ rfl
  obtain⟨a1,q1,c1⟩:=(aCO Tryz.underlying38 (fE Tryz.underlying5) (by kernel_rfl) (by decide) (aOb (E:=(eI .u8)) fun _=>rfl)) h1
  rw[show Tryz.prog.cellsOf 38=1 by kernel_rfl]at c1
  refine⟨⟨a0,a1⟩,⟨q0,q1⟩, ?_⟩
  have c:=(dE (o:=0) c0 (dE (o:=1) c1 (uN hl)))
  exact c
def aJz (x:aC):Prop:=(aFu x.Out)∧(aHe x.Output)∧((Lit.int .i64 x.Height).wf=true)∧(True)
set_option maxRecDepth 100000 in
theorem aKS :uK Tryz.prog 59 aJz aQ:=by
 intro H enc w spare held fuel cs x h
 obtain⟨xs,n,_,_,hl,hlen,hf⟩:=DataW.trod_struct Tryz.underlying59 h
 rw[show Tryz.prog.cellsOf 59=37 by kernel_rfl]at hl
 match xs,hlen,hf with
 | [y0,y1,y2,y3],_,hf=>
  have h0:DataW.trod enc Tryz.prog w 0 spare held n 37 ((cs.drop 0).take (Tryz.prog.cellsOf 37))=some y0:=hf 0 _ rfl
  obtain⟨a0,q0,c0⟩:=aDe h0
  rw[show Tryz.prog.cellsOf 37=33 by kernel_rfl]at c0
  have h1:DataW.trod enc Tryz.prog w 0 spare held n 57 ((cs.drop 33).take (Tryz.prog.cellsOf 57))=some y1:=hf 1 _ rfl
  obtain⟨a1,q1,c1⟩:=aIL h1
  rw[show Tryz.prog.cellsOf 57=2 by kernel_rfl]at c1
  have h2:DataW.trod enc Tryz.prog w 0 spare held n 3 ((cs.drop 35).take (Tryz.prog.cellsOf 3))=some y2:=hf 2 _ rfl
  obtain⟨a2,q2,c2⟩:=(fE Tryz.underlying3) h2
  rw[show Tryz.prog.cellsOf 3=1 by kernel_rfl]at c2
  have h3:DataW.trod enc Tryz.prog w 0 spare held n 4 ((cs.drop 36).take (Tryz.prog.cellsOf 4))=some y3:=hf 3 _ rfl
  obtain⟨a3,q3,c3⟩:=(aQE Tryz.underlying4) h3
  rw[show Tryz.prog.cellsOf 4=1 by kernel_rfl]at c3
  refine⟨⟨a0,a1,a2,a3⟩,⟨q0,q1,q2,q3⟩, ?_⟩
  have c:=(dE (o:=0) c0 (dE (o:=33) c1 (dE (o:=35) c2 (dE (o:=36) c3 (uN hl)))))
  exact c
def aOG (x:aF):Prop:=((Lit.int .i64 x.Height).wf=true)∧(x.Tip.length=32∧ ∀z0∈x.Tip,(Lit.int .u8 z0).wf=true)∧(∀z0∈x.Coins,aJz z0)
set_option maxRecDepth 100000 in
theorem aIp :uK Tryz.prog 35 aOG aN:=by
 intro H enc w spare held fuel cs x h
 obtain⟨xs,n,_,_,hl,hlen,hf⟩:=DataW.trod_struct Tryz.underlying35 h
 rw[show Tryz.prog.cellsOf 35=34 by kernel_rfl]at hl
 match xs,hlen,hf with
 | [y0,y1,y2],_,hf=>
  have h0:DataW.trod enc Tryz.prog w 0 spare held n 3 ((cs.drop 0).take (Tryz.prog.cellsOf 3))=some y0:=hf 0 _ rfl
  obtain⟨a0,q0,c0⟩:=(fE Tryz.underlying3) h0
  rw[show Tryz.prog.cellsOf 3=1 by kernel_rfl]at c0
  have h1:DataW.trod enc Tryz.prog w 0 spare held n 24 ((cs.drop 1).take (Tryz.prog.cellsOf 24))=some y1:=hf 1 _ rfl
  obtain⟨a1,q1,c1⟩:=(aAY Tryz.underlying24 Tryz.underlying5 (by kernel_rfl) (by kernel_rfl)) h1
  rw[show Tryz.prog.cellsOf 24=32 by kernel_rfl]at c1
  have h2:DataW.trod enc Tryz.prog w 0 spare held n 33 ((cs.drop 33).take (Tryz.prog.cellsOf 33))=some y2:=hf 2 _ rfl
  obtain⟨a2,q2,c2⟩:=(aCO Tryz.underlying33 aKS (by kernel_rfl) (by decide) (aNC (K:=37) (C:=aQ) (fun _=>rfl) (fun _=>rfl))) h2
  rw[show Tryz.prog.cellsOf 33=1 by kernel_rfl]at c2
  refine⟨⟨a0,a1,a2⟩,⟨q0,q1,q2⟩, ?_⟩
  have c:=(dE (o:=0) c0 (dE (o:=1) c1 (dE (o:=33) c2 (uN hl))))
  simp only[aN,aAP q1.1]
  exact c
end Go.Proofs.YtgfdllellpbmoaaGreatDoor
namespace Go.Proofs.YtgfdllellpbmoaaGreatDoor
open Go Go.Vm
theorem eE {α:Type}{n:Nat}{l:List α}{i:Nat}(h:i<n)(hl:i<l.length):bK n l (i:Int)=some l[i]:=by
 unfold bK;rw[if_pos (by omega),bF l hl]
theorem bS {α:Type}{n:Nat}{l:List α}(h:l.length=n):bH n l=some l:=by unfold bH;rw[if_pos h]
theorem aAl (N:Nat)(x n s:Int)(hs:bits .and .u64 (aYY.wrap (aYV.wrap (0-n))) 31=s)(h0:0≤s)(h1:s≤32): ∃y,dU N x n=some y:=by
 unfold dU jX
 rw[hs,aCm (a:=32-s) (by omega) (by omega)]
 unfold shl shr
 rw[if_neg (by omega),if_neg (by omega)]
 exact⟨_,rfl⟩
def rv (N:Nat)(x n:Int):Int:=(dU N x n).getD 0
theorem aCP {N:Nat}{x n:Int}(h: ∃y,dU N x n=some y):dU N x n=some (rv N x n):=by obtain⟨y,h⟩:=h;simp[rv,h]
theorem rv2 (N:Nat)(x:Int):dU N x 2=some (rv N x 2):=aCP (aAl N x 2 30 (by decide +kernel) (by omega) (by omega))
theorem rv6 (N:Nat)(x:Int):dU N x 6=some (rv N x 6):=aCP (aAl N x 6 26 (by decide +kernel) (by omega) (by omega))
theorem rv7 (N:Nat)(x:Int):dU N x 7=some (rv N x 7):=aCP (aAl N x 7 25 (by decide +kernel) (by omega) (by omega))
theorem aYs (N:Nat)(x:Int):dU N x 11=some (rv N x 11):=aCP (aAl N x 11 21 (by decide +kernel) (by omega) (by omega))
theorem aYN (N:Nat)(x:Int):dU N x 13=some (rv N x 13):=aCP (aAl N x 13 19 (by decide +kernel) (by omega) (by omega))
theorem aYQ (N:Nat)(x:Int):dU N x 17=some (rv N x 17):=aCP (aAl N x 17 15 (by decide +kernel) (by omega) (by omega))
theorem aXU (N:Nat)(x:Int):dU N x 18=some (rv N x 18):=aCP (aAl N x 18 14 (by decide +kernel) (by omega) (by omega))
theorem aYl (N:Nat)(x:Int):dU N x 19=some (rv N x 19):=aCP (aAl N x 19 13 (by decide +kernel) (by omega) (by omega))
theorem aX0 (N:Nat)(x:Int):dU N x 22=some (rv N x 22):=aCP (aAl N x 22 10 (by decide +kernel) (by omega) (by omega))
theorem aX7 (N:Nat)(x:Int):dU N x 25=some (rv N x 25):=aCP (aAl N x 25 7 (by decide +kernel) (by omega) (by omega))
theorem aX1 (x:Int):shr .u32 x 3=some (x.fdiv (2^(min (3:Int).toNat 32))):=by unfold shr;rw[if_neg (by omega)];rfl
theorem aXs (x:Int):shr .u32 x 10=some (x.fdiv (2^(min (10:Int).toNat 32))):=by unfold shr;rw[if_neg (by omega)];rfl
theorem sL3 (N:Nat): ∀(m j:Nat)(l:List Int),l.length=64→16≤j→j≤64→64-j<m→ ∃r,jJ N m (j:Int) l=some r∧r.length=64
 |0,j,l,_,_,_,hm=>by omega
 |m+1,j,l,hl,h1,h2,hm=>by
  rw[jJ]
  by_cases h:j<64
  ·rw[show decide ((j:Int)<64)=true from decide_eq_true (by omega),if_pos rfl]
   rw[cL (a:=(j:Int)-15) (by omega) (by omega),show(j:Int)-15=((j-15:Nat):Int) by omega,eE (show j-15<64 by omega) (by omega)]
   rw[cL (a:=(j:Int)-2) (by omega) (by omega),show(j:Int)-2=((j-2:Nat):Int) by omega,eE (show j-2<64 by omega) (by omega)]
   rw[cL (a:=(j:Int)-16) (by omega) (by omega),show(j:Int)-16=((j-16:Nat):Int) by omega,eE (show j-16<64 by omega) (by omega)]
   rw[cL (a:=(j:Int)-7) (by omega) (by omega),show(j:Int)-7=((j-7:Nat):Int) by omega,eE (show j-7<64 by omega) (by omega)]
   rw[eE h (by omega)]
   simp only[aYW,rv7,aXU,aYQ,aYl,aX1,aXs,i1 (show j≤100000 by omega)]
   exact sL3 N m (j+1) _ (by rw[aZe];exact hl) (by omega) (by omega) (by omega)
  rw[show decide ((j:Int)<64)=false from decide_eq_false (by omega)]
  exact⟨l,rfl,hl⟩
theorem cL2 (N:Nat)(st w:List Int)(hw:w.length=64): ∀(m j:Nat)(a b c d e f g h:Int),j≤64→64-j<m→ ∃r,jL N st w m a b c d e f g h (j:Int)=some r
 |0,j,_,_,_,_,_,_,_,_,_,hm=>by omega
 |m+1,j,a,b,c,d,e,f,g,h,hj,hm=>by
  rw[jL]
  by_cases h1:j<64
  ·rw[show decide ((j:Int)<64)=true from decide_eq_true (by omega),if_pos rfl,eE h1 (show j<aEV.length from h1),eE h1 (by omega)]
   simp only[aYW,rv2,rv6,aYs,aYN,aX0,aX7,i1 (show j≤100000 by omega)]
   exact cL2 N st w hw m (j+1) _ _ _ _ _ _ _ _ (by omega) (by omega)
  rw[show decide ((j:Int)<64)=false from decide_eq_false (by omega)]
  exact⟨_,rfl⟩
def wd (b:List Nat)(i:Nat):Nat:=((b.getD (4*i) 0*256+b.getD (4*i+1) 0)*256+b.getD (4*i+2) 0)*256+b.getD (4*i+3) 0
theorem aAS {b:List Nat}(h: ∀x∈b,x<256)(i:Nat):b.getD i 0<256:=by
 rw[aZu]
 rcases Nat.lt_or_ge i b.length with hi|hi
 ·rw[aZc hi];exact h _ (aZi hi)
 rw[List.getElem?_eq_none hi];simp
theorem aJZ (a b k:Nat)(h:b<2^k):a*2^k ||| b=a*2^k+b:=by
 rw[Nat.mul_comm,←Nat.two_pow_add_eq_or_of_lt h]
theorem orU (a b:Nat)(ha:a<4294967296)(hb:b<4294967296):bits .or .u32 (a:Int) (b:Int)=((a ||| b:Nat):Int):=aCK rfl a b ha hb
theorem aWV (a b:Nat):shl .u32 (a:Int) (b:Int)=some ((a*2^b%4294967296:Nat):Int):=aCt rfl a b
theorem aHs {b:List Nat}{i:Nat}(hl:b.length=64)(hi:i<64):bK 64 (iN b) (i:Int)=some ((b.getD i 0:Nat):Int):=by
 rw[eE hi (by rw[aJ4];omega)]
 have h1:i<b.length:=by omega
 simp[iN,h1]
theorem aHO (n:Nat)(h:n<4294967296):aYZ.wrap (n:Int)=n:=aWX (by omega) (by omega)
def aFX (b:List Nat)(j:Nat)(l:List Int):List Int:=(aZo j (16-j)).foldl (fun l i=>l.set i ((wd b i:Nat):Int)) l
theorem aRk (b:List Nat)(j:Nat)(l:List Int):(aFX b j l).length=l.length:=by
 unfold aFX
 generalize aZo j (16-j)=r
 induction r generalizing l with
 |nil=>rfl
 |cons x r ih=>rw[aZs,ih,aZe]
section
variable (N:Nat)(b:List Nat)(hl:b.length=64)(hb: ∀x∈b,x<256)
include hl hb
theorem sL6 (i:Nat)(hi:i<16)(m j:Nat)(hj:j<4)(l:List Int)(hll:l.length=64)(v:Nat)(hv:v<16777216)(hli:l[i]? =some (v:Int)):
  eX N (iN b) (i:Int) (m+1) (j:Int) l=eX N (iN b) (i:Int) m ((j+1:Nat):Int) (l.set i ((v*256+b.getD (4*i+j) 0:Nat):Int)):=by
 have hil:i<l.length:=by omega
 have hbl:=aAS hb (4*i+j)
 rw[eX,show decide ((j:Int)<4)=true from decide_eq_true (by omega),if_pos rfl,eE (show i<64 by omega) hil]
 rw[aZc hil]at hli
 rw[Option.some.inj hli,cL (a:=4*(i:Int)) (by omega) (by omega),cL (a:=4*(i:Int)+(j:Int)) (by omega) (by omega),show 4*(i:Int)+(j:Int)=((4*i+j:Nat):Int) by omega,aHs hl (by omega)]
 rw[show(8:Int)=((8:Nat):Int)from rfl]
 simp only[aYW,aWV,aY3,i1 (show j≤100000 by omega)]
 rw[aHO _ (by omega),orU _ _ (aZv _ (by omega)) (by omega),aZr (by omega),aJZ _ _ 8 (by omega)]
theorem aUK (i:Nat)(hi:i<16)(l:List Int)(hll:l.length=64)(hli:l[i]? =some 0)(hN:10≤N):eX N (iN b) (i:Int) N 0 l=some (l.set i ((wd b i:Nat):Int)):=by
 have g0:=aAS hb (4*i)
 have g1:=aAS hb (4*i+1)
 have g2:=aAS hb (4*i+2)
 have hil:i<l.length:=by omega
 obtain⟨m,hm⟩: ∃m,N=m+5:=⟨N-5,by omega⟩
 have hfu: ∀k,eX N (iN b) (i:Int) N k l=eX N (iN b) (i:Int) (m+1+1+1+1+1) k l:=fun k=>by
  have:N=m+1+1+1+1+1:=by omega
  exact congrArg (fun q=>eX N (iN b) (i:Int) q k l) this
 rw[hfu,show(0:Int)=((0:Nat):Int)from rfl,sL6 N b hl hb i hi _ 0 (by omega) l hll 0 (by omega) hli]
 rw[sL6 N b hl hb i hi _ 1 (by omega) _ (by rw[aZe];exact hll) (0*256+b.getD (4*i+0) 0) (by simp only[aZy];omega) (aZn hil),aZC]
 rw[sL6 N b hl hb i hi _ 2 (by omega) _ (by rw[aZe];exact hll) _ (by simp only[aZy];omega) (aZn hil),aZC]
 rw[sL6 N b hl hb i hi _ 3 (by omega) _ (by rw[aZe];exact hll) _ (by simp only[aZy];omega) (aZn hil),aZC]
 rw[eX]
 simp only[Nat.reduceAdd,show decide (((4:Nat):Int)<4)=false from rfl,aY7,if_false,wd,Nat.zero_mul,Nat.zero_add,aZy]
omit hl hb in
theorem aKv {f:Nat→Int→List Int→Option (List Int)}(hs: ∀(m j:Nat) (l:List Int),j<16→l.length=64→l[j]? =some 0→f (m+1) (j:Int) l=f m ((j+1:Nat):Int) (l.set j ((wd b j:Nat):Int)))(he: ∀m l,f (m+1) 16 l=some l):
  ∀(m j:Nat)(l:List Int),16-j<m→j≤16→l.length=64→(∀i,j≤i→i<64→l[i]? =some 0)→f m (j:Int) l=some (aFX b j l)
 |0,j,l,hm,_,_,_=>by omega
 |m+1,j,l,hm,hj,hll,hz=>by
  by_cases h:j<16
  ·rw[hs m j l h hll (hz j (aZF _) (by omega)),aKv hs he m (j+1) _ (by omega) (by omega) (by rw[aZe];exact hll) (fun i h1 h2=>by rw[List.getElem?_set_ne (by omega)];exact hz i (by omega) h2)]
   unfold aFX
   rw[show 16-j=(16-(j+1))+1 by omega,aZd,aZs]
  obtain rfl:j=16:=by omega
  exact he m l
theorem sL4 (hN:70000≤N):iB N (iN b) N 0 (aYX 64 0)=some (aFX b 0 (aYX 64 0)):=by
 refine aKv b (f:=iB N (iN b)) (fun m j l hj hll hz=> ?_) (fun m l=>by rw[iB];rfl) N 0 _ (by omega) (by omega) (by simp) (fun i _ hi=>by rw[aZm,if_pos hi])
 rw[iB,show decide ((j:Int)<16)=true from decide_eq_true (by omega),if_pos rfl,aUK N b hl hb j hj l hll hz (by omega)]
 simp only[aYW,wL,i1 (show j≤100000 by omega)]
end
section
variable (N:Nat)(hN:70000≤N)(b:List Nat)(hl:b.length=64)(hb: ∀x∈b,x<256)
include hN hl hb
theorem aUp : ∃w,qQ N (iN b)=some w∧w.length=64:=by
 obtain⟨w,h1,h2⟩:=sL3 N N 16 (aFX b 0 (aYX 64 0)) (by rw[aRk];simp) (by omega) (by omega) (by omega)
 rw[show((16:Nat):Int)=16 from rfl]at h1
 refine⟨w, ?_,h2⟩
 simp only[qQ,sL4 N b hl hb hN,aYW,rW,h1,rM,bS h2]
theorem aTj (st:List Int)(hst:st.length=8): ∃r,lG N st (iN b)=some r∧r.length=8:=by
 obtain⟨w,h1,h2⟩:=aUp N hN b hl hb
 have hbl:(iN b).length=64:=by rw[aJ4];exact hl
 have a0:bK 8 st 0=some st[0]:=eE (i:=0) (by omega) (by omega)
 have a1:bK 8 st 1=some st[1]:=eE (i:=1) (by omega) (by omega)
 have a2:bK 8 st 2=some st[2]:=eE (i:=2) (by omega) (by omega)
 have a3:bK 8 st 3=some st[3]:=eE (i:=3) (by omega) (by omega)
 have a4:bK 8 st 4=some st[4]:=eE (i:=4) (by omega) (by omega)
 have a5:bK 8 st 5=some st[5]:=eE (i:=5) (by omega) (by omega)
 have a6:bK 8 st 6=some st[6]:=eE (i:=6) (by omega) (by omega)
 have a7:bK 8 st 7=some st[7]:=eE (i:=7) (by omega) (by omega)
 obtain⟨r,hr⟩:=cL2 N st w h2 N 0 st[0] st[1] st[2] st[3] st[4] st[5] st[6] st[7] (by omega) (by omega)
 rw[show((0:Nat):Int)=0 from rfl]at hr
 refine⟨[aYZ.wrap (st[0]+r.1),aYZ.wrap (st[1]+r.2.1),aYZ.wrap (st[2]+r.2.2.1),aYZ.wrap (st[3]+r.2.2.2.1),aYZ.wrap (st[4]+r.2.2.2.2.1),aYZ.wrap (st[5]+r.2.2.2.2.2.1),aYZ.wrap (st[6]+r.2.2.2.2.2.2.1),aYZ.wrap (st[7]+r.2.2.2.2.2.2.2)], ?_,rfl⟩
 simp only[lG,bS hbl,h1,bS h2,a0,a1,a2,a3,a4,a5,a6,a7,aYW,hr,rO]
end
def beG (n i:Nat):Int:=aY1.wrap ((aYY.wrap (8*(n:Int))).fdiv (2^(56-8*i)))
def zer (n:Nat):Nat:=(64-(n+9)%64)%64
def yI (n:Nat):List Int:=(128::aYX (zer n) 0)++(aZo 0 8).map (beG n)
theorem aNf (n:Nat):(yI n).length=9+zer n:=by simp[yI];omega
theorem aDg (x:Int):0≤aY1.wrap x∧aY1.wrap x<256:=by rw[IntKind.wrap_u8];omega
theorem aNv (n:Nat):Byt (yI n):=by
 intro x hx
 simp only[yI,List.mem_append,List.mem_cons,List.mem_replicate,aZz]at hx
 rcases hx with(rfl|⟨_,rfl⟩)|⟨i,_,rfl⟩
 ·omega
 ·omega
 exact aDg _
theorem aT3 (a:Int)(s:Nat)(h:s≤64):shr .u64 a (s:Int)=some (a.fdiv (2^s)):=by
 unfold shr
 rw[if_neg (by omega),aY3,show min s aYY.bits=s from Nat.min_eq_left h]
theorem aNh (N n:Nat): ∀(k m:Nat)(acc:List Int),k≤8→k<m→acc.length+k≤1000→uS N (n:Int) m ((8-k:Nat):Int) acc=some (acc++(aZo (8-k) k).map (beG n))
 |0,m,acc,_,hm,_=>by
  obtain⟨m,rfl⟩: ∃q,m=q+1:=⟨m-1,by omega⟩
  rw[uS,show decide (((8-0:Nat):Int)<8)=false from rfl];simp
 |k+1,m,acc,hk,hm,ha=>by
  obtain⟨m,rfl⟩: ∃q,m=q+1:=⟨m-1,by omega⟩
  rw[uS,show decide (((8-(k+1):Nat):Int)<8)=true from decide_eq_true (by omega),if_pos rfl]
  rw[cL (a:=8*((8-(k+1):Nat):Int)) (by omega) (by omega),cL (a:=56-8*((8-(k+1):Nat):Int)) (by omega) (by omega),show 56-8*((8-(k+1):Nat):Int)=((56-8*(8-(k+1)):Nat):Int) by omega,aT3 _ _ (by omega)]
  simp only[aYW]
  rw[v9 (by simp;omega)]
  simp only[aYW,i1 (show 8-(k+1)≤100000 by omega)]
  rw[show 8-(k+1)+1=8-k by omega,aNh N n k m _ (by omega) (by omega) (by simp;omega),aZd,List.map_cons,show 8-(k+1)+1=8-k by omega,aZb]
  rfl
theorem aXY (z:Nat):(aYX (1+z) (0:Int)).set 0 128=128::aYX z 0:=by rw[Nat.add_comm,aZk];rfl
theorem aYn (N:Nat)(hN:70000≤N)(n:Nat)(hn:n≤1000000000):aFd N (n:Int)=some (yI n):=by
 have hz:zer n<64:=aZv _ (by omega)
 have hlim:=aAJ
 unfold aFd
 rw[aCm (a:=(n:Int)+9) (by omega) (by omega),show(n:Int)+9=((n+9:Nat):Int) by omega,show(64:Int)=((64:Nat):Int)from rfl,gP]
 have h1:(n+9)%64<64:=aZv _ (by omega)
 rw[aCm (a:=((64:Nat):Int)-(((n+9)%64:Nat):Int)) (by omega) (by omega),show((64:Nat):Int)-(((n+9)%64:Nat):Int)=((64-(n+9)%64:Nat):Int) by omega,gP]
 rw[show((64-(n+9)%64)%64:Nat)=zer n from rfl,aCm (a:=1+((zer n:Nat):Int)) (by omega) (by omega),aCm (a:=9+((zer n:Nat):Int)) (by omega) (by omega)]
 have hm:mkl 1 (0:Int) (1+((zer n:Nat):Int)) (9+((zer n:Nat):Int))=some (aYX (1+zer n) 0):=by
  unfold mkl
  rw[if_pos ⟨by omega,by omega,by omega⟩,show(1+((zer n:Nat):Int)).toNat=1+zer n by omega]
 have h0:bM (aYX (1+zer n) (0:Int)) 0=some 0:=by
  rw[show(0:Int)=((0:Nat):Int)from rfl,aPj,aZm,if_pos (by omega)]
 simp only[hm,aYW,h0,Int.toNat_zero,aXY]
 have:=aNh N n 8 N (128::aYX (zer n) 0) (by omega) (by omega) (by simp;omega)
 rw[show((8-8:Nat):Int)=0 from rfl]at this
 rw[this];rfl
theorem aS9 {f:Nat→Int→List Int→Option (List Int)}(l:List (List Int))(hn:l.length≤1000)(ht:l.flatten.length≤50000000)
  (hs: ∀m j acc (hj:j<l.length),acc.length+l[j].length≤50000000→f (m+1) (j:Int) acc=f m ((j+1:Nat):Int) (acc++l[j])) (he: ∀m j acc,l.length≤j→f (m+1) (j:Int) acc=some acc) (N:Nat) (hN:70000≤N):
  f N 0 []=some l.flatten:=by
 have hfl:l.flatMap id=l.flatten:=by simp
 have:=aAU (f:=f) (xs:=l) (g:=id) (B:=50000000) (by omega) hs he N 0 [] (by omega) (by omega) (by rw[aZh,hfl];simpa using ht)
 rw[aZh,hfl]at this
 simpa using this
theorem aYe (N:Nat)(hN:70000≤N)(l:List (List Int))(hn:l.length≤1000)(ht:l.flatten.length≤50000000):aFf N l=some l.flatten:=by
 have:=aS9 (f:=uU N l) l hn ht (fun m j acc hj hB=>by
  rw[uU,dT hj,if_pos rfl,bF l hj,aYW,v9 (by omega)]
  simp only[aYW,i1 (show j≤100000 by omega)]) (fun m j acc hj=>by rw[uU,dF (by omega)];rfl) N hN
 unfold aFf
 rw[this];rfl
def cmp (N:Nat)(st blk:List Int):List Int:=(lG N st blk).getD []
def wV (msg:List Int)(i:Nat):List Int:=(msg.drop (64*i)).take 64
theorem aIo {l:List Int}(h:Byt l)(k:Nat):Byt (l.take k):=fun x hx=>h x (List.mem_of_mem_take hx)
theorem aI5 {l:List Int}(h:Byt l)(k:Nat):Byt (l.drop k):=fun x hx=>h x (List.mem_of_mem_drop hx)
theorem aQX (N:Nat)(hN:70000≤N)(st blk:List Int)(hst:st.length=8)(hb:Byt blk)(hl:blk.length=64):lG N st blk=some (cmp N st blk)∧(cmp N st blk).length=8:=by
 obtain⟨b,rfl,h2⟩:=aPf hb
 obtain⟨r,h3,h4⟩:=aTj N hN b (by rw[aJ4]at hl;exact hl) h2 st hst
 have:cmp N st (iN b)=r:=by simp[cmp,h3]
 rw[this];exact⟨h3,h4⟩
def rounds (N:Nat)(msg st:List Int)(j k:Nat):List Int:=(aZo j k).foldl (fun s i=>cmp N s (wV msg i)) st
section
variable (N:Nat)(hN:70000≤N)(msg:List Int)(hb:Byt msg)(hl:msg.length≤2000000)
include hN hb hl
theorem aIs : ∀(m j:Nat)(st:List Int),msg.length/64-j<m→j≤msg.length/64→st.length=8→zJ N msg m (j:Int) st=some (rounds N msg st j (msg.length/64-j))∧(rounds N msg st j (msg.length/64-j)).length=8
 |0,j,st,hm,_,_=>by omega
 |m+1,j,st,hm,hj,hst=>by
  rw[zJ,show(64:Int)=((64:Nat):Int)from rfl,iG,cL (a:=((msg.length/64:Nat):Int)) (by omega) (by omega)]
  by_cases h:j<msg.length/64
  ·have hlen:(wV msg j).length=64:=by simp[wV];omega
   obtain⟨c1,c2⟩:=aQX N hN st (wV msg j) hst (aIo (aI5 hb _) _) hlen
   rw[dT h,if_pos rfl,bS hst,cL (a:=((64:Nat):Int)*(j:Int)) (by omega) (by omega)]
   have e1:sub msg (((64:Nat):Int)*(j:Int)) (msg.length:Int)=some (msg.drop (64*j)):=by
    unfold sub
    rw[if_pos ⟨by omega,by omega,by omega⟩,show(((64:Nat):Int)*(j:Int)).toNat=64*j by omega,aY3,aZx (aZF _)]
   have e2:arp 64 (msg.drop (64*j))=some (wV msg j):=by unfold arp;rw[if_pos (by simp;omega)];rfl
   simp only[e1,e2,c1,bS c2,aYW,i1 (show j≤100000 by omega)]
   obtain⟨i1',i2'⟩:=aIs m (j+1) _ (by omega) (by omega) c2
   have er:rounds N msg st j (msg.length/64-j)=rounds N msg (cmp N st (wV msg j)) (j+1) (msg.length/64-(j+1)):=by
    unfold rounds
    rw[show msg.length/64-j=(msg.length/64-(j+1))+1 by omega,aZd,aZs]
   rw[er]
   exact⟨i1',i2'⟩
  rw[dF h,show msg.length/64-j=0 by omega]
  exact⟨rfl,hst⟩
end
def yB (st:List Int)(i:Nat):Int:=aY1.wrap ((st.getD (i/4) 0).fdiv (2^(24-8*(i%4))))
def aGr (st:List Int):List Int:=(aZl 32).map (yB st)
theorem aIQ (st:List Int):(aGr st).length=32:=by simp[aGr]
theorem aRZ (st:List Int):Byt (aGr st):=by
 intro x hx
 simp only[aGr,aZz]at hx
 obtain⟨i,_,rfl⟩:=hx
 exact aDg _
theorem aDf (g:Nat→Int)(w j:Nat)(hj:j<w):((aZl j).map g++aYX (w-j) 0).set j (g j)=(aZl (j+1)).map g++aYX (w-(j+1)) 0:=by
 rw[aZA _ _ (by simp),show w-j=(w-(j+1))+1 by omega,aZk,aZG,aZH,aZb]
 simp
theorem aMI (a:Int)(s:Nat)(h:s≤32):shr .u32 a (s:Int)=some (a.fdiv (2^s)):=by
 unfold shr
 rw[if_neg (by omega),aY3,show min s aYZ.bits=s from Nat.min_eq_left h]
theorem aVO {st:List Int}(hst:st.length=8){i:Nat}(h:i<8):bK 8 st (i:Int)=some (st.getD i 0):=by
 have:i<st.length:=by omega
 rw[eE h this];simp[this]
section
variable (N:Nat)(hN:70000≤N)(st:List Int)(hst:st.length=8)
include hN hst
theorem aOE : ∀(m j:Nat),32-j<m→j≤32→zE N st m (j:Int) ((aZl j).map (yB st)++aYX (32-j) 0)=some (aGr st)
 |0,j,hm,_=>by omega
 |m+1,j,hm,hj=>by
  rw[zE]
  by_cases h:j<32
  ·rw[show decide ((j:Int)<32)=true from decide_eq_true (by omega),if_pos rfl,show(4:Int)=((4:Nat):Int)from rfl,iG,gP,cL (a:=((j/4:Nat):Int)) (by omega) (by omega),aVO hst (by omega)]
   rw[cL (a:=((j%4:Nat):Int)*8) (by omega) (by omega),cL (a:=24-((j%4:Nat):Int)*8) (by omega) (by omega),show 24-((j%4:Nat):Int)*8=((24-8*(j%4):Nat):Int) by omega]
   simp only[aYW]
   rw[aMI _ _ (by omega),eE h (by simp;omega)]
   simp only[aYW,aY3,i1 (show j≤100000 by omega)]
   have:=aDf (yB st) 32 j h
   rw[show aY1.wrap ((st.getD (j/4) 0).fdiv (2^(24-8*(j%4))))=yB st j from rfl,this]
   exact aOE m (j+1) (by omega) (by omega)
  obtain rfl:j=32:=by omega
  rw[show decide (((32:Nat):Int)<32)=false from rfl]
  simp[aGr]
end
def sha256 (N:Nat)(b:List Int):List Int:=aGr (rounds N (b++yI b.length) zX 0 ((b++yI b.length).length/64))
theorem eT (N:Nat)(b:List Int):(sha256 N b).length=32:=aIQ _
theorem pE (N:Nat)(b:List Int):Byt (sha256 N b):=aRZ _
theorem aRi (N:Nat)(hN:70000≤N)(b:List Int)(hb:Byt b)(hl:b.length≤1000000):aDR N b=some (sha256 N b):=by
 have hz:zer b.length<64:=aZv _ (by omega)
 have hpl:=aNf b.length
 have hmb:Byt (b++yI b.length):=hb.append (aNv _)
 have hml:(b++yI b.length).length≤2000000:=by rw[aY2];omega
 obtain⟨s1,s2⟩:=aIs N hN _ hmb hml N 0 zX (by omega) (by omega) rfl
 rw[show((0:Nat):Int)=0 from rfl,aZf]at s1
 rw[aZf]at s2
 have hw:aYY.wrap (b.length:Int)=(b.length:Int):=aCm (by omega) (by omega)
 have o:=aOE N hN (rounds N (b++yI b.length) zX 0 ((b++yI b.length).length/64)) s2 N 0 (by omega) (by omega)
 simp only[aZt,aZB,aY6,aZf]at o
 rw[show((0:Nat):Int)=0 from rfl]at o
 simp only[aDR,hw,aYn N hN b.length (by omega),aYW]
 rw[aYe N hN [b,yI b.length] (by simp) (by simp;omega)]
 simp only[aYW,List.flatten_cons,List.flatten_nil,aZI,s1,aDG,o,aDE,bS (aIQ _)]
 rfl
theorem aOU (s:ByteArray):Byt (bytesOf s):=by
 intro x hx
 unfold bytesOf at hx
 simp only[aZz]at hx
 obtain⟨b,_,rfl⟩:=hx
 have:=b.toNat_lt
 omega
def aRM (N:Nat)(tag:ByteArray)(b:List Int):List Int:=sha256 N (sha256 N (bytesOf tag)++(sha256 N (bytesOf tag)++b))
theorem aJ9 (N:Nat)(tag:ByteArray)(b:List Int):(aRM N tag b).length=32:=eT _ _
section
variable (N:Nat)(b:List Nat)(hl:b.length=64)(hb: ∀x∈b,x<256)
include hl hb
theorem aYI (hN:70000≤N):g9 N (iN b) N 0 (aYX 64 0)=some (aFX b 0 (aYX 64 0)):=by
 refine aKv b (f:=g9 N (iN b)) (fun m j l hj hll hz=> ?_) (fun m l=>by rw[g9];rfl) N 0 _ (by omega) (by omega) (by simp) (fun i _ hi=>by rw[aZm,if_pos hi])
 have g0:=aAS hb (4*j)
 have g1:=aAS hb (4*j+1)
 have g2:=aAS hb (4*j+2)
 have g3:=aAS hb (4*j+3)
 rw[g9,show decide ((j:Int)<16)=true from decide_eq_true (by omega),if_pos rfl]
 rw[cL (a:=4*(j:Int)) (by omega) (by omega),cL (a:=4*(j:Int)+1) (by omega) (by omega),cL (a:=4*(j:Int)+2) (by omega) (by omega),cL (a:=4*(j:Int)+3) (by omega) (by omega)]
 rw[show 4*(j:Int)=((4*j:Nat):Int) by omega,show((4*j:Nat):Int)+1=((4*j+1:Nat):Int) by omega,show((4*j:Nat):Int)+2=((4*j+2:Nat):Int) by omega,show((4*j:Nat):Int)+3=((4*j+3:Nat):Int) by omega]
 rw[aHs hl (by omega),aHs hl (by omega),aHs hl (by omega),aHs hl (by omega),eE (show j<64 by omega) (by omega)]
 rw[show(24:Int)=((24:Nat):Int)from rfl,show(16:Int)=((16:Nat):Int)from rfl,show(8:Int)=((8:Nat):Int)from rfl]
 simp only[aYW,aY3,i1 (show j≤100000 by omega),aHO _ (show b.getD (4*j) 0<4294967296 by omega),aHO _ (show b.getD (4*j+1) 0<4294967296 by omega),aHO _ (show b.getD (4*j+2) 0<4294967296 by omega),aHO _ (show b.getD (4*j+3) 0<4294967296 by omega),aWV]
 congr 2
 unfold wd
 generalize b.getD (4*j) 0=a0 at *
 generalize b.getD (4*j+1) 0=a1 at *
 generalize b.getD (4*j+2) 0=a2 at *
 generalize b.getD (4*j+3) 0=a3 at *
 rw[aZr (show a0*2^24<4294967296 by omega),aZr (show a1*2^16<4294967296 by omega),aZr (show a2*2^8<4294967296 by omega)]
 rw[orU _ _ (by omega) (by omega),aJZ a0 _ 24 (by omega)]
 rw[show a0*2^24+a1*2^16=(a0*2^8+a1)*2^16 by omega,orU _ _ (by omega) (by omega),aJZ _ (a2*2^8) 16 (by omega)]
 rw[show(a0*2^8+a1)*2^16+a2*2^8=((a0*2^8+a1)*2^8+a2)*2^8 by omega,orU _ _ (by omega) (by omega),aJZ _ a3 8 (by omega)]
end
theorem aLN (N:Nat)(x n:Int):i0 N x n=dU N x n:=rfl
theorem aPG (N:Nat): ∀(m:Nat)(i:Int)(l:List Int),lX N m i l=jJ N m i l
 |0,_,_=>rfl
 |m+1,i,l=>by simp only[lX,jJ,aLN,aPG N m]
theorem aOq (N:Nat)(st w:List Int): ∀(m:Nat)(a b c d e f g h i:Int),lY N st w aEV m a b c d e f g h i=jL N st w m a b c d e f g h i
 |0,_,_,_,_,_,_,_,_,_=>rfl
 |m+1,a,b,c,d,e,f,g,h,i=>by simp only[lY,jL,aLN,aOq N st w m]
section
variable (N:Nat)(hN:70000≤N)(b:List Nat)(hl:b.length=64)(hb: ∀x∈b,x<256)
include hN hl hb
theorem aP7 :t5 N (iN b)=qQ N (iN b):=by
 simp only[t5,qQ,aYI N b hl hb hN,sL4 N b hl hb hN,aYW,tA,rW,aPG,sW,rM]
theorem aMm (st:List Int):qB N st (iN b)=lG N st (iN b):=by
 obtain⟨w,h1,h2⟩:=aUp N hN b hl hb
 have hK:wF N=some aEV:=rfl
 have hKl:bH 64 aEV=some aEV:=rfl
 simp only[qB,lG,aP7 N hN b hl hb,h1,hK,hKl,aYW,aOq,tC,rO]
end
theorem aLl (N n:Nat): ∀(k m:Nat)(acc:List Int),k≤8→k<m→acc.length+k≤1000→qO N (n:Int) m ((k:Int)-1) acc=some (acc++(aZo (8-k) k).map (beG n))
 |0,m,acc,_,hm,_=>by
  obtain⟨m,rfl⟩: ∃q,m=q+1:=⟨m-1,by omega⟩
  rw[qO,show decide ((0:Int)≤((0:Nat):Int)-1)=false from rfl];simp
 |k+1,m,acc,hk,hm,ha=>by
  obtain⟨m,rfl⟩: ∃q,m=q+1:=⟨m-1,by omega⟩
  rw[qO,show decide ((0:Int)≤((k+1:Nat):Int)-1)=true from decide_eq_true (by omega),if_pos rfl]
  rw[cL (a:=8*(((k+1:Nat):Int)-1)) (by omega) (by omega),show 8*(((k+1:Nat):Int)-1)=((56-8*(8-(k+1)):Nat):Int) by omega,aT3 _ _ (by omega)]
  simp only[aYW]
  rw[v9 (by simp;omega)]
  simp only[aYW]
  rw[cL (a:=((k+1:Nat):Int)-1-1) (by omega) (by omega),show((k+1:Nat):Int)-1-1=(k:Int)-1 by omega,aLl N n k m _ (by omega) (by omega) (by simp;omega),aZd,List.map_cons,show 8-(k+1)+1=8-k by omega,aZb]
  rfl
theorem aLp (N n:Nat)(hn:n≤1000000000): ∀(z m:Nat)(l:List Int),z<64→z<m→l.length+z≤1000→(n+l.length+8+z)%64=0→tW N (n:Int) m l=some (l++aYX z 0)
 |z,0,l,_,hm,_,_=>by omega
 |z,m+1,l,hz,hm,hl,he=>by
  rw[tW,aCm (a:=(l.length:Int)) (by omega) (by omega),aCm (a:=(n:Int)+(l.length:Int)) (by omega) (by omega),aCm (a:=(n:Int)+(l.length:Int)+8) (by omega) (by omega)]
  rw[show(n:Int)+(l.length:Int)+8=((n+l.length+8:Nat):Int) by omega,show(64:Int)=((64:Nat):Int)from rfl,gP]
  match z with
  |0=>
   rw[show(n+l.length+8)%64=0 by simpa using he]
   simp
  |z+1=>
   have hne:(n+l.length+8)%64≠0:=by omega
   rw[show((((n+l.length+8)%64:Nat):Int) != 0)=true by simp;omega,if_pos rfl,v9 (by simp;omega)]
   simp only[aYW]
   rw[aLp N n hn z m _ (by omega) (by omega) (by simp;omega) (by simp;omega),aZk,aZb]
   rfl
theorem aX8 (N:Nat)(hN:70000≤N)(n:Nat)(hn:n≤1000000000):aC4 N (n:Int)=some (yI n):=by
 have hz:zer n<64:=aZv _ (by omega)
 have h2:(n+1+8+zer n)%64=0:=by unfold zer;omega
 unfold aC4
 rw[aLp N n hn (zer n) N [128] hz (by omega) (by simp;omega) (by simpa using h2)]
 simp only[aYW,aB9]
 have:=aLl N n 8 N ([128]++aYX (zer n) 0) (by omega) (by omega) (by simp;omega)
 rw[show((8:Nat):Int)-1=7 from rfl]at this
 rw[this];rfl
section
variable (N:Nat)(hN:70000≤N)(msg:List Int)(hb:Byt msg)(hl:msg.length≤2000000)
include hN hb hl
theorem aLy : ∀(m j:Nat)(st:List Int),msg.length/64-j<m→j≤msg.length/64→st.length=8→tL N msg m ((64*j:Nat):Int) st=some (rounds N msg st j (msg.length/64-j))
 |0,j,st,hm,_,_=>by omega
 |m+1,j,st,hm,hj,hst=>by
  rw[tL,cL (a:=((64*j:Nat):Int)+64) (by omega) (by omega)]
  by_cases h:j<msg.length/64
  ·have hlen:(wV msg j).length=64:=by simp[wV];omega
   obtain⟨c1,c2⟩:=aQX N hN st (wV msg j) hst (aIo (aI5 hb _) _) hlen
   have c3:qB N st (wV msg j)=some (cmp N st (wV msg j)):=by
    obtain⟨bn,e1,e2⟩:=aPf (aIo (aI5 hb (64*j)) 64)
    have e3:wV msg j=iN bn:=e1
    rw[e3]at c1 hlen⊢
    rw[aMm N hN bn (by rw[aJ4]at hlen;exact hlen) e2]
    exact c1
   rw[show decide (((64*j:Nat):Int)+64≤(msg.length:Int))=true from decide_eq_true (by omega),if_pos rfl]
   have e1:sub msg ((64*j:Nat):Int) (msg.length:Int)=some (msg.drop (64*j)):=by
    unfold sub
    rw[if_pos ⟨by omega,by omega,by omega⟩,aY3,aY3,aZx (aZF _)]
   have e2:cpy (aYX 64 (0:Int)) (msg.drop (64*j))=wV msg j:=by
    unfold cpy wV
    rw[List.length_replicate,show List.drop (msg.drop (64*j)).length (aYX 64 (0:Int))=[]from aY8 (by simp;omega),aZI]
   simp only[e1,e2,aYW,bS hst,bS hlen,c3,bS c2]
   rw[show((64*j:Nat):Int)+64=((64*(j+1):Nat):Int) by omega,aLy m (j+1) _ (by omega) (by omega) c2]
   unfold rounds
   rw[show msg.length/64-j=(msg.length/64-(j+1))+1 by omega,aZd,aZs]
  rw[show decide (((64*j:Nat):Int)+64≤(msg.length:Int))=false from decide_eq_false (by omega),show msg.length/64-j=0 by omega]
  rfl
end
section
variable (N:Nat)(hN:70000≤N)(st:List Int)(hst:st.length=8)
include hN hst
theorem aLR : ∀(m j:Nat),8-j<m→j≤8→tQ N st m (j:Int) ((aZl (4*j)).map (yB st)++aYX (32-4*j) 0)=some (aGr st)
 |0,j,hm,_=>by omega
 |m+1,j,hm,hj=>by
  rw[tQ]
  by_cases h:j<8
  ·rw[show decide ((j:Int)<8)=true from decide_eq_true (by omega),if_pos rfl,aVO hst h]
   rw[cL (a:=4*(j:Int)) (by omega) (by omega),cL (a:=4*(j:Int)+1) (by omega) (by omega),cL (a:=4*(j:Int)+2) (by omega) (by omega),cL (a:=4*(j:Int)+3) (by omega) (by omega)]
   rw[show 4*(j:Int)=((4*j:Nat):Int) by omega,show((4*j:Nat):Int)+1=((4*j+1:Nat):Int) by omega,show((4*j:Nat):Int)+2=((4*j+2:Nat):Int) by omega,show((4*j:Nat):Int)+3=((4*j+3:Nat):Int) by omega]
   rw[show(24:Int)=((24:Nat):Int)from rfl,show(16:Int)=((16:Nat):Int)from rfl]
   simp only[aYW,aY3,i1 (show j≤100000 by omega)]
   rw[show(8:Int)=((8:Nat):Int)from rfl,aMI _ 24 (by omega),aMI _ 16 (by omega),aMI _ 8 (by omega)]
   simp only[aYW]
   have o0:aY1.wrap ((st.getD j 0).fdiv (2^24))=yB st (4*j):=by unfold yB;rw[show 4*j/4=j by omega,show 4*j%4=0 by omega]
   have o1:aY1.wrap ((st.getD j 0).fdiv (2^16))=yB st (4*j+1):=by unfold yB;rw[show(4*j+1)/4=j by omega,show(4*j+1)%4=1 by omega]
   have o2:aY1.wrap ((st.getD j 0).fdiv (2^8))=yB st (4*j+2):=by unfold yB;rw[show(4*j+2)/4=j by omega,show(4*j+2)%4=2 by omega]
   have o3:aY1.wrap (st.getD j 0)=yB st (4*j+3):=by
    unfold yB;rw[show(4*j+3)/4=j by omega,show(4*j+3)%4=3 by omega]
    congr 1
    generalize st.getD j 0=x
    simp
   rw[o0,o1,o2,o3,aDf (yB st) 32 (4*j) (by omega),aDf (yB st) 32 (4*j+1) (by omega),aDf (yB st) 32 (4*j+2) (by omega),aDf (yB st) 32 (4*j+3) (by omega)]
   rw[eE (show 4*j<32 by omega) (by simp;omega),eE (show 4*j+1<32 by omega) (by simp;omega),eE (show 4*j+2<32 by omega) (by simp;omega),eE (show 4*j+3<32 by omega) (by simp;omega)]
   simp only[aYW]
   exact aLR m (j+1) (by omega) (by omega)
  obtain rfl:j=8:=by omega
  rw[show decide (((8:Nat):Int)<8)=false from rfl]
  simp[aGr]
end
theorem aAV (N:Nat)(hN:70000≤N)(b:List Int)(hb:Byt b)(hl:b.length≤1000000):kQ N b=some (sha256 N b):=by
 have hz:zer b.length<64:=aZv _ (by omega)
 have hpl:=aNf b.length
 have hmb:Byt (b++yI b.length):=hb.append (aNv _)
 have hml:(b++yI b.length).length≤2000000:=by rw[aY2];omega
 obtain⟨s1,s2⟩:=aIs N hN _ hmb hml N 0 zX (by omega) (by omega) rfl
 have s3:=aLy N hN _ hmb hml N 0 zX (by omega) (by omega) rfl
 rw[aZf]at s2
 rw[show((64*0:Nat):Int)=0 from rfl,aZf]at s3
 have hw:aYY.wrap (b.length:Int)=(b.length:Int):=aCm (by omega) (by omega)
 have o:=aLR N hN (rounds N (b++yI b.length) zX 0 ((b++yI b.length).length/64)) s2 N 0 (by omega) (by omega)
 simp only[Nat.mul_zero,aZt,aZB,aY6,aZf]at o
 rw[show((0:Nat):Int)=0 from rfl]at o
 have hI:aAn N=some zX:=rfl
 have hIa:bH 8 zX=some zX:=rfl
 simp only[kQ]
 rw[v9 (by simp;omega)]
 simp only[aYW,aY6,hw,aX8 N hN b.length (by omega)]
 rw[v9 (by omega)]
 simp only[aYW,hI,hIa,s3,aBl,bS s2,o,aBD,bS (aIQ _)]
 rfl
theorem aQI (N:Nat)(hN:70000≤N)(tag:ByteArray)(ht:tag.size≤1000)(b:List Int)(hb:Byt b)(hl:b.length≤900000):yE N tag b=some (aRM N tag b):=by
 have hlim:=aAJ
 have hs:stb tag=some (bytesOf tag):=by unfold stb;rw[if_pos (by omega)]
 have s2:=aAV N hN (bytesOf tag) (aOU tag) (by rw[aCL];omega)
 have l1:=eT N (bytesOf tag)
 have t2:=aAV N hN (sha256 N (bytesOf tag)++(sha256 N (bytesOf tag)++b)) ((pE _ _).append ((pE _ _).append hb)) (by simp only[aY2,l1];omega)
 simp only[yE,hs,s2,aYW,bS l1]
 rw[v9 (by simp[l1])]
 simp only[aYW,aY6]
 rw[v9 (by simp[l1])]
 simp only[aYW]
 rw[v9 (by simp[l1];omega)]
 simp only[aYW,aZb,t2,bS (eT N _)]
 rfl
end Go.Proofs.YtgfdllellpbmoaaGreatDoor
set_option maxRecDepth 4000
namespace Go.Proofs.YtgfdllellpbmoaaGreatDoor
open Go Go.Vm
def shV (v:Int)(i:Nat):Int:=aY1.wrap (v.fdiv (2^(min (8*i) 64)))
def aBr (w:Nat)(v:Int):List Int:=(aZl w).map (shV v)
theorem oP (w:Nat)(v:Int):(aBr w v).length=w:=by simp[aBr]
theorem aWi (v:Int)(i:Nat)(hi:i≤100): ∃y,shr .u64 v (aYV.wrap (8*(i:Int)))=some y∧aY1.wrap y=shV v i:=by
 refine⟨_, ?_,rfl⟩
 rw[cL (by omega) (by omega)]
 unfold shr
 rw[if_neg (by omega)]
 congr 3
theorem aRX (w:Nat)(v:Int)(j:Nat)(hj:j<w):(((aZl j).map (shV v))++aYX (w-j) 0).set j (shV v j)=((aZl (j+1)).map (shV v))++aYX (w-(j+1)) 0:=by
 rw[aZA _ _ (by simp),show w-j=(w-(j+1))+1 by omega,aZk,aZG,aZH,aZb]
 simp
theorem aIB {f:Nat→Int→List Int→Option (List Int)}(w:Nat)(v:Int)(hw:w≤100)
  (hs: ∀m j acc,j<w→acc.length=w→f (m+1) (j:Int) acc=f m ((j+1:Nat):Int) (acc.set j (shV v j))) (he: ∀m acc,acc.length=w→f (m+1) (w:Int) acc=some acc):
  ∀(m j:Nat),w-j<m→j≤w→f m (j:Int) (((aZl j).map (shV v))++aYX (w-j) 0)=some (aBr w v)
 |0,j,hm,_=>by omega
 |m+1,j,hm,hj=>by
  by_cases h:j<w
  ·rw[hs m j _ h (by simp;omega),aRX w v j h]
   exact aIB w v hw hs he m (j+1) (by omega) (by omega)
  have:j=w:=by omega
  subst this
  rw[he m _ (by simp),Nat.sub_self]
  simp[aBr]
theorem aRj (N:Nat)(hN:70000≤N)(v:Int)(w:Nat)(hw:w≤100):xR N v (w:Int)=some (aBr w v):=by
 have hmk:mks 1 (0:Int) (w:Int)=some (aYX w 0):=aJs (by have:=aAJ;omega)
 have:=aIB (f:=lA N v (w:Int)) w v hw (fun m j acc hj hl=>by
   obtain⟨y,h1,h2⟩:=aWi v j (by omega)
   rw[lA,dT hj,if_pos rfl,h1,bF acc (by omega:j<acc.length)]
   simp only[aYW,aY3,h2,i1 (show j≤100000 by omega)])
  (fun m acc hl=>by rw[lA,dF (Nat.lt_irrefl w)];rfl) N 0 (by omega) (by omega)
 simp only[xR,hmk,aYW,wG]
 simp only[aZt,aZB,aY6,aZf]at this
 rw[show((0:Nat):Int)=0 from rfl]at this
 rw[this];rfl
theorem aLQ (N:Nat)(b v:List Int)(h:b.length+v.length≤50000000):tM N b v=some (b++v):=by
 have hmk:mks 1 (0:Int) (aYV.wrap ((b.length:Int)+(v.length:Int)))=some (aYX (b.length+v.length) 0):=by
  rw[cL (by omega) (by omega),show(b.length:Int)+(v.length:Int)=((b.length+v.length:Nat):Int) by omega]
  exact aJs (by have:=aAJ;omega)
 simp only[tM,hmk,aYW,List.take_zero]
 rw[v9 (by simp;omega)]
 simp only[aYW,aY6]
 rw[v9 (by omega)];rfl
def sM (v:Int):List Int:=aBr 4 (aYY.wrap v)
def aSt (v:Int):List Int:=aBr 8 v
theorem cQ (v:Int):(sM v).length=4:=oP _ _
theorem aNc (v:Int):(aSt v).length=8:=oP _ _
section
variable (N:Nat)(hN:70000≤N)
include hN
theorem aQJ (b:List Int)(v:Int)(h:b.length≤40000000):jG N b v=some (b++sM v):=by
 simp only[jG,show(4:Int)=((4:Nat):Int)from rfl,aRj N hN _ 4 (by omega),aYW]
 rw[aLQ N _ _ (by rw[oP];omega)];rfl
end
theorem wu (k:IntKind)(n:Nat)(hk:k.signed=false)(h:(n:Int)<2^k.bits):k.wrap (n:Int)=n:=by
 rw[aJH hk];exact Int.emod_eq_of_lt (by omega) h
def szB (n:Nat):List Int:=if n<253 then aBr 1 n else if n<65536 then 253::aBr 2 n else 254::aBr 4 n
theorem vN (n:Nat):1≤(szB n).length∧(szB n).length≤5:=by
 unfold szB
 split
 ·simp[oP]
 split<;>simp[oP]
theorem aC5 (N:Nat)(hN:70000≤N)(v:Int)(w:Nat)(hw:w≤100):jS N v (w:Int)=some (aBr w v):=by
 have hmk:mks 1 (0:Int) (w:Int)=some (aYX w 0):=aJs (by have:=aAJ;omega)
 have hl0:(aYX w (0:Int)).length=w:=by simp
 have:=aIB (f:=lJ N v (aYX w 0)) w v hw (fun m j acc hj hl=>by
   obtain⟨y,h1,h2⟩:=aWi v j (by omega)
   rw[lJ,hl0,dT hj,if_pos rfl,h1,bF acc (by omega:j<acc.length)]
   simp only[aYW,aY3,h2,i1 (show j≤100000 by omega)])
  (fun m acc hl=>by rw[lJ,hl0,dF (Nat.lt_irrefl w)];rfl) N 0 (by omega) (by omega)
 simp only[jS,hmk,aYW,wM]
 simp only[aZt,aZB,aY6,aZf]at this
 rw[show((0:Nat):Int)=0 from rfl]at this
 rw[this];rfl
theorem nZ (N:Nat)(b v:List Int)(h:b.length+v.length≤50000000):eP N b v=some (b++v):=by
 have hmk:mks 1 (0:Int) (aYV.wrap ((b.length:Int)+(v.length:Int)))=some (aYX (b.length+v.length) 0):=by
  rw[cL (by omega) (by omega),show(b.length:Int)+(v.length:Int)=((b.length+v.length:Nat):Int) by omega]
  exact aJs (by have:=aAJ;omega)
 simp only[eP,hmk,aYW,List.take_zero]
 rw[v9 (by simp;omega)]
 simp only[aYW,aY6]
 rw[v9 (by omega)];rfl
section
variable (N:Nat)(hN:70000≤N)
include hN
theorem aBU (b:List Int)(v:Int)(h:b.length≤40000000):dY N b v=some (b++sM v):=by
 simp only[dY,show(4:Int)=((4:Nat):Int)from rfl,aC5 N hN _ 4 (by omega),aYW]
 rw[nZ N _ _ (by rw[oP];omega)];rfl
theorem aYD (b:List Int)(v:Int)(h:b.length≤40000000):rS N b v=some (b++aSt v):=by
 simp only[rS,show(8:Int)=((8:Nat):Int)from rfl,aC5 N hN _ 8 (by omega),aYW]
 rw[nZ N _ _ (by rw[oP];omega)];rfl
theorem aF4 (b:List Int)(n:Nat)(hn:n≤1000000)(h:b.length≤30000000):gQ N b (aYY.wrap (n:Int))=some (b++szB n):=by
 rw[wu .u64 n rfl (by simp[aZq];omega)]
 unfold gQ szB
 by_cases h1:n<253
 ·have e1:decide ((n:Int)<253)=true:=decide_eq_true (by omega)
  rw[e1,if_pos rfl,if_pos h1]
  simp only[show(1:Int)=((1:Nat):Int)from rfl,aC5 N hN _ 1 (by omega),aYW]
  rw[nZ N _ _ (by rw[oP];omega)];rfl
 have e1:decide ((n:Int)<253)=false:=decide_eq_false (by omega)
 rw[e1,if_neg h1]
 by_cases h2:n<65536
 ·have e2:decide ((n:Int)<65536)=true:=decide_eq_true (by omega)
  simp only[e2,aY7,if_false,if_true,if_pos h2,show(2:Int)=((2:Nat):Int)from rfl,aC5 N hN _ 2 (by omega),aYW]
  rw[nZ N _ _ (by simp[oP])]
  simp only[aYW]
  rw[nZ N _ _ (by simp[oP];omega)];rfl
 have e2:decide ((n:Int)<65536)=false:=decide_eq_false (by omega)
 have e3:decide ((n:Int)<4294967296)=true:=decide_eq_true (by omega)
 simp only[e2,e3,aY7,if_false,if_true,if_neg h2,show(4:Int)=((4:Nat):Int)from rfl,aC5 N hN _ 4 (by omega),aYW]
 rw[nZ N _ _ (by simp[oP])]
 simp only[aYW]
 rw[nZ N _ _ (by simp[oP];omega)];rfl
theorem aQ2 (b s:List Int)(hs:s.length≤1000000)(h:b.length≤30000000):lW N b s=some (b++(szB s.length++s)):=by
 have:=vN s.length
 simp only[lW,aF4 N hN b _ hs (by omega),aYW]
 rw[nZ N _ _ (by rw[aY2];omega),aYW,aZb]
theorem aQ5 (o:aI)(ht:o.Tx.length=32):vW N o=some (o.Tx++sM o.Index):=by
 simp only[vW,eZ,bH,if_pos ht,aYW]
 rw[nZ N _ _ (by simp;omega)]
 simp only[aYW,aY6]
 rw[aBU N hN _ _ (by omega)];rfl
def aDj (o:bA):List Int:=aSt (aYY.wrap o.Value)++(szB o.Script.length++o.Script)
theorem aSC (o:bA)(h:o.Script.length≤600):yD N o=some (aDj o):=by
 simp only[yD,aYD N hN _ _ (show([]:List Int).length≤40000000 by simp),aYW,aY6]
 rw[aQ2 N hN _ _ (by omega) (by rw[aNc];omega)];rfl
def hdB (h:bT):List Int:=((((sM h.Version++h.Prev)++h.Root)++sM h.Time)++sM h.Bits)++sM h.Nonce
theorem aTT (b h:List Int)(ht:h.length=32)(hb:b.length≤40000000):nC N b h=some (b++h):=by
 simp only[nC,bH,if_pos ht,aYW]
 rw[aLQ N _ _ (by omega)];rfl
theorem aJm (b h:List Int)(ht:h.length=32)(hb:b.length≤40000000):eZ N b h=some (b++h):=by
 simp only[eZ,bH,if_pos ht,aYW]
 rw[nZ N _ _ (by omega)];rfl
theorem aUz (h:bT)(h1:h.Prev.length=32)(h2:h.Root.length=32):nQ N h=some (hdB h):=by
 simp only[nQ,aQJ N hN [] _ (by simp),aYW,aY6,bS h1,bS h2]
 rw[aTT N hN _ _ h1 (by rw[cQ];omega)]
 simp only[aYW]
 rw[aTT N hN _ _ h2 (by rw[aY2,cQ];omega)]
 simp only[aYW]
 rw[aQJ N hN _ _ (by simp only[aY2,cQ];omega)]
 simp only[aYW]
 rw[aQJ N hN _ _ (by simp only[aY2,cQ];omega)]
 simp only[aYW]
 rw[aQJ N hN _ _ (by simp only[aY2,cQ];omega)]
 rfl
theorem aPC (h:bT)(h1:h.Prev.length=32)(h2:h.Root.length=32):kP N h=some (hdB h):=by
 simp only[kP,aBU N hN [] _ (by simp),aYW,aY6,bS h1,bS h2]
 rw[aJm N hN _ _ h1 (by rw[cQ];omega)]
 simp only[aYW]
 rw[aJm N hN _ _ h2 (by rw[aY2,cQ];omega)]
 simp only[aYW]
 obtain⟨m,hm⟩: ∃m,N=m+1+1+1+1:=⟨N-4,by omega⟩
 have j0:decide ((0:Int)<3)=true:=rfl
 have j1:decide ((1:Int)<3)=true:=rfl
 have j2:decide ((2:Int)<3)=true:=rfl
 have j3:decide ((3:Int)<3)=false:=rfl
 have i01:aYV.wrap (0+1)=1:=by decide +kernel
 have i12:aYV.wrap (1+1)=2:=by decide +kernel
 have i23:aYV.wrap (2+1)=3:=by decide +kernel
 have L: ∀(m:Nat)(b:List Int),b.length≤1000→iE N h (m+1+1+1+1) 0 b=some (((b++sM h.Time)++sM h.Bits)++sM h.Nonce):=fun m b hb=>by
  simp only[iE,j0,j1,j2,j3,i01,i12,i23,if_true,aY7,if_false]
  rw[show bM [h.Time,h.Bits,h.Nonce] 0=some h.Time from rfl,show bM [h.Time,h.Bits,h.Nonce] 1=some h.Bits from rfl,show bM [h.Time,h.Bits,h.Nonce] 2=some h.Nonce from rfl]
  simp only[aYW]
  rw[aBU N hN _ _ (by omega)]
  simp only[aYW]
  rw[aBU N hN _ _ (by simp only[aY2,cQ];omega)]
  simp only[aYW]
  rw[aBU N hN _ _ (by simp only[aY2,cQ];omega)]
  rfl
 have:=L m (sM h.Version++h.Prev++h.Root) (by simp only[aY2,cQ];omega)
 rw[←hm]at this
 rw[this]
 rfl
omit hN in
theorem mH (v:Int):Byt (sM v):=by
 intro x hx
 simp only[sM,aBr,aZz]at hx
 obtain⟨i,_,rfl⟩:=hx
 exact aDg _
omit hN in
theorem aPE {h:bT}(b1:Byt h.Prev)(b2:Byt h.Root):Byt (hdB h):=
 (((((mH _).append b1).append b2).append (mH _)).append (mH _)).append (mH _)
omit hN in
theorem aHQ {h:bT}(h1:h.Prev.length=32)(h2:h.Root.length=32):(hdB h).length=80:=by simp only[hdB,aY2,cQ,h1,h2]
def dbl (N:Nat)(b:List Int):List Int:=sha256 N (sha256 N b)
omit hN in
theorem aE9 (N:Nat)(b:List Int):(dbl N b).length=32:=eT _ _
omit hN in
theorem aUV (N:Nat)(b:List Int):Byt (dbl N b):=pE _ _
theorem aUZ (b:List Int)(hb:Byt b)(hl:b.length≤1000000):zP N b=some (dbl N b):=by
 have h1:=eT N b
 unfold zP
 rw[aRi N hN b hb hl]
 simp only[aYW,bS h1]
 rw[aRi N hN _ (pE N b) (by omega)]
 simp only[aYW,bS (eT N _)]
 rfl
theorem aKr (b:List Int)(hb:Byt b)(hl:b.length≤1000000):qR N b=some (dbl N b):=by
 have h1:=eT N b
 unfold qR
 rw[aAV N hN b hb hl]
 simp only[aYW,bS h1]
 rw[aAV N hN _ (pE N b) (by omega)]
 simp only[aYW,bS (eT N _)]
 rfl
theorem aWJ (h:bT)(h1:h.Prev.length=32)(h2:h.Root.length=32)(b1:Byt h.Prev)(b2:Byt h.Root):aBC N h=some (dbl N (hdB h)):=by
 unfold aBC
 rw[aUz N hN h h1 h2]
 simp only[aYW]
 rw[aUZ N hN _ (aPE b1 b2) (by rw[aHQ h1 h2];omega)]
 simp only[aYW,bS (aE9 N _)]
theorem aQQ (h:bT)(h1:h.Prev.length=32)(h2:h.Root.length=32)(b1:Byt h.Prev)(b2:Byt h.Root):nJ N h=some (dbl N (hdB h)):=by
 unfold nJ
 rw[aPC N hN h h1 h2]
 simp only[aYW]
 rw[aKr N hN _ (aPE b1 b2) (by rw[aHQ h1 h2];omega)]
 simp only[aYW,bS (aE9 N _)]
end
def iY :List Int→List Int→Int
 |a::l,b::m=>if a<b then -1 else if b<a then 1 else iY l m
 |_,_=>0
theorem aLT : ∀l:List Int,iY l l=0
 | []=>rfl
 |a::l=>by unfold iY;rw[if_neg (by omega),if_neg (by omega)];exact aLT l
theorem aL0 : ∀{l m:List Int},l.length=m.length→iY l m=0→l=m
 | [],[],_,_=>rfl
 |a::l,b::m,h,hc=>by
  unfold iY at hc
  split at hc
  ·omega
  split at hc
  ·omega
  rw[aL0 (by simpa using h) hc,show a=b by omega]
 | [],_::_,h,_=>by simp at h
 |_::_,[],h,_=>by simp at h
theorem aJn : ∀{l m n:List Int},l.length=m.length→m.length=n.length→iY l m<0→iY m n<0→iY l n<0
 |a::l,b::m,c::n,h1,h2,k1,k2=>by
  unfold iY at k1 k2⊢
  by_cases ab:a<b
  ·by_cases bc:b<c
   ·rw[if_pos (by omega)];omega
   rw[if_neg bc]at k2
   by_cases cb:c<b
   ·rw[if_pos cb]at k2;omega
   rw[if_pos (by omega)];omega
  rw[if_neg ab]at k1
  by_cases ba:b<a
  ·rw[if_pos ba]at k1;omega
  rw[if_neg ba]at k1
  obtain rfl:a=b:=by omega
  by_cases bc:a<c
  ·rw[if_pos bc];omega
  rw[if_neg bc]at k2⊢
  by_cases cb:c<a
  ·rw[if_pos cb]at k2;omega
  rw[if_neg cb]at k2⊢
  exact aJn (by simpa using h1) (by simpa using h2) k1 k2
 | [],[],_,_,_,k1,_=>by unfold iY at k1;omega
 | [],_::_,_,h1,_,_,_=>by simp at h1
 |_::_,[],_,h1,_,_,_=>by simp at h1
 |_::_,_::_,[],_,h2,_,_=>by simp at h2
def aKI (o:aI):List Int:=o.Tx++[o.Index]
def d7 (a b:aI):Int:=iY (aKI a) (aKI b)
theorem aNs : ∀{l m:List Int}(x y:List Int),l.length=m.length→iY (l++x) (m++y)=if iY l m=0 then iY x y else iY l m
 | [],[],x,y,_=>by simp[iY]
 |a::l,b::m,x,y,h=>by
  show(if a<b then -1 else if b<a then 1 else iY (l++x) (m++y))=if(if a<b then -1 else if b<a then 1 else iY l m)=0 then iY x y else(if a<b then -1 else if b<a then 1 else iY l m)
  by_cases ab:a<b
  ·rw[if_pos ab,if_pos ab,if_neg (by omega)]
  rw[if_neg ab,if_neg ab]
  by_cases ba:b<a
  ·rw[if_pos ba,if_pos ba,if_neg (by omega)]
  rw[if_neg ba,if_neg ba]
  exact aNs x y (by simpa using h)
 | [],_::_,_,_,h=>by simp at h
 |_::_,[],_,_,h=>by simp at h
theorem aSp (x y:Int):iY [x] [y]=if x<y then -1 else if y<x then 1 else 0:=by
 unfold iY
 rfl
theorem aPx {a b:aI}(ha:a.Tx.length=32)(hb:b.Tx.length=32):d7 a b=if iY a.Tx b.Tx=0 then(if a.Index<b.Index then -1 else if b.Index<a.Index then 1 else 0)else iY a.Tx b.Tx:=by
 unfold d7 aKI
 rw[aNs _ _ (by rw[ha,hb]),aSp]
theorem aCk {a:aI}(ha:a.Tx.length=32):(aKI a).length=33:=by simp[aKI,ha]
theorem aBz {a b c:aI}(ha:a.Tx.length=32)(hb:b.Tx.length=32)(hc:c.Tx.length=32)(h1:d7 a b<0)(h2:d7 b c<0):d7 a c<0:=
 aJn (by rw[aCk ha,aCk hb]) (by rw[aCk hb,aCk hc]) h1 h2
theorem aHf {a b:aI}(ha:a.Tx.length=32)(hb:b.Tx.length=32)(h:d7 a b=0):a=b:=by
 have:=aL0 (by rw[aCk ha,aCk hb]) h
 unfold aKI at this
 obtain⟨h1,h2⟩:=List.append_inj this (by rw[ha,hb])
 obtain⟨t,i⟩:=a
 obtain⟨t',i'⟩:=b
 simp only[aZE,and_true]at h2
 simp only at h1
 subst h1 h2
 rfl
theorem aGW (a:aI):d7 a a=0:=aLT _
theorem aLA {N:Nat}{a b:aI}(ha:a.Tx.length=32)(hb:b.Tx.length=32): ∀(m j:Nat),32-j<m→j≤32→mQ N a b m (j:Int)=some (if iY (a.Tx.drop j) (b.Tx.drop j)=0 then .brk ()else .ret (iY (a.Tx.drop j) (b.Tx.drop j)))
 |m+1,j,hm,hj=>by
  unfold mQ
  by_cases hl:j<32
  ·rw[if_pos (decide_eq_true (by omega)),eE hl (by omega),eE hl (by omega),aY9 (show j<a.Tx.length by omega),aY9 (show j<b.Tx.length by omega)]
   simp only[aYW]
   unfold iY
   by_cases h1:a.Tx[j]<b.Tx[j]
   ·rw[if_pos (decide_eq_true h1),if_pos h1];rfl
   rw[if_neg (by simpa using h1),if_neg h1]
   by_cases h2:b.Tx[j]<a.Tx[j]
   ·rw[if_pos (decide_eq_true h2),if_pos h2];rfl
   rw[if_neg (by simpa using h2),if_neg h2,i1 (by omega)]
   exact aLA ha hb m (j+1) (by omega) (by omega)
  rw[if_neg (by simp;omega),aY8 (by omega),aY8 (by omega)]
  rfl
theorem aM1 {N:Nat}(hN:70000≤N){a b:aI}(ha:a.Tx.length=32)(hb:b.Tx.length=32):rJ N a b=some (d7 a b):=by
 unfold rJ
 have:=aLA (N:=N) ha hb N 0 (by omega) (by omega)
 rw[show((0:Nat):Int)=0 from rfl,aZh,aZh]at this
 rw[this,aPx ha hb]
 by_cases h:iY a.Tx b.Tx=0
 ·rw[if_pos h,if_pos h]
  simp only[aYW,uT]
  by_cases h1:a.Index<b.Index
  ·rw[if_pos (decide_eq_true h1),if_pos h1]
  rw[if_neg (by simpa using h1),if_neg h1]
  by_cases h2:b.Index<a.Index
  ·rw[if_pos (decide_eq_true h2),if_pos h2]
  rw[if_neg (by simpa using h2),if_neg h2]
 rw[if_neg h,if_neg h]
 rfl
theorem aTN {x y:Int}(hx:0≤x∧x<256)(hy:0≤y∧y<256):(x.toNat.toUInt8<y.toNat.toUInt8)=(x<y):=by
 apply propext
 rw[UInt8.lt_iff_toNat_lt]
 simp only[Nat.toUInt8,UInt8.toNat_ofNat']
 omega
theorem aXb {x y:Int}(hx:0≤x∧x<256)(hy:0≤y∧y<256):(x.toNat.toUInt8=y.toNat.toUInt8)=(x=y):=by
 apply propext
 rw[←UInt8.toNat_inj]
 simp only[Nat.toUInt8,UInt8.toNat_ofNat']
 omega
theorem aRD {A B:ByteArray}: ∀(l m:List Int)(k:Nat),l.length=m.length→Byt l→Byt m→(∀i x,l[i]? =some x→A[k+i]! =x.toNat.toUInt8)→(∀i x,m[i]? =some x→B[k+i]! =x.toNat.toUInt8)→
  (match(aZo k l.length).find? (fun i=>A[i]! != B[i]!)with|some i=>if A[i]! < B[i]! then -1 else 1|none=>(0:Int))=iY l m
 | [],[],k,_,_,_,_,_=>rfl
 |a::l,b::m,k,h,hl,hm,hA,hB=>by
  have ea:A[k]! =a.toNat.toUInt8:=hA 0 a rfl
  have eb:B[k]! =b.toNat.toUInt8:=hB 0 b rfl
  have ba:=hl a (by simp)
  have bb:=hm b (by simp)
  rw[aZD,aZd,List.find?_cons,ea,eb]
  unfold iY
  by_cases hab:a=b
  ·subst hab
   rw[show(a.toNat.toUInt8 != a.toNat.toUInt8)=false by simp,if_neg (by omega),if_neg (by omega)]
   simp only
   exact aRD l m (k+1) (by simpa using h) (fun x hx=>hl x (by simp[hx])) (fun x hx=>hm x (by simp[hx])) (fun i x hx=>by rw[show k+1+i=k+(i+1) by omega];exact hA (i+1) x (by simpa using hx)) (fun i x hx=>by rw[show k+1+i=k+(i+1) by omega];exact hB (i+1) x (by simpa using hx))
  have hne:(a.toNat.toUInt8 != b.toNat.toUInt8)=true:=by
   rw[bne_iff_ne]
   exact fun e=>hab ((aXb ba bb).mp e)
  rw[hne]
  simp only
  rw[ea,eb]
  by_cases h1:a<b
  ·rw[if_pos ((aTN ba bb).mpr h1),if_pos h1]
  rw[if_neg (fun e=>h1 ((aTN ba bb).mp e)),if_neg h1,if_pos (by omega)]
 | [],_::_,_,h,_,_,_,_=>by simp at h
 |_::_,[],_,h,_,_,_,_=>by simp at h
theorem aQ6 {l:List Int}{i:Nat}{x:Int}(h:l[i]? =some x):(u8s l)[0+i]! =x.toNat.toUInt8:=by
 obtain⟨hi,hx⟩:=aZg.1 h
 rw[Nat.zero_add]
 have hs:i<(u8s l).size:=by show i<(l.map fun x=>x.toNat.toUInt8).toArray.size;simpa using hi
 rw[getElem!_pos (u8s l) i hs]
 show(l.map fun x=>x.toNat.toUInt8).toArray[i]=_
 simp[hx]
theorem aSW {a b:List Int}(h:a.length=b.length)(ha:Byt a)(hb:Byt b):aNL a b=iY a b:=by
 have sa:(u8s a).size=a.length:=by show(a.map fun x=>x.toNat.toUInt8).toArray.size=_;simp
 have sb:(u8s b).size=b.length:=by show(b.map fun x=>x.toNat.toUInt8).toArray.size=_;simp
 have:=aRD (A:=u8s a) (B:=u8s b) a b 0 h ha hb (fun i x hx=>aQ6 hx) (fun i x hx=>aQ6 hx)
 rw[←this]
 unfold aNL Extern.BytealgCompare.cmp
 rw[sa,sb,←h,Nat.min_self,List.range_eq_range',if_neg (by omega),if_neg (by omega)]
 generalize List.find? _ _=q
 cases q<;>rfl
theorem aIt {N:Nat}(hN:70000≤N){a b:aI}(ha:a.Tx.length=32)(hb:b.Tx.length=32)(ba:Byt a.Tx)(bb:Byt b.Tx):zT N a b=some (d7 a b):=by
 have hself: ∀x:Int,(x != x)=false:=fun x=>by simp
 obtain⟨m,hm⟩: ∃m,N=m+1+1+1:=⟨N-3,by omega⟩
 unfold zT aAC aA7 sC qT
 rw[bS ha,bS hb,aSW (by rw[ha,hb]) ba bb,aPx ha hb]
 simp only[aYW,hself,aY7,if_false]
 have key: ∀x y:Int,aBI N [x,y]=some (if x=0 then y else x):=fun x y=>by
  unfold aBI
  rw[show o4 N [x,y] N 0=o4 N [x,y] (m+1+1+1) 0 by rw[←hm]]
  simp only[o4,aZD,List.length_nil,show decide ((0:Int)<((0+1+1:Nat):Int))=true from rfl,show decide ((1:Int)<((0+1+1:Nat):Int))=true from rfl,show decide ((2:Int)<((0+1+1:Nat):Int))=false from rfl,show aYV.wrap (0+1)=1 by decide +kernel,show aYV.wrap (1+1)=2 by decide +kernel,show bM [x,y] 0=some x from rfl,show bM [x,y] 1=some y from rfl,if_true,aYW,aY7,if_false,aAw]
  by_cases h0:x=0
  ·subst h0
   rw[if_pos rfl,if_neg (by simp)]
   by_cases h1:y=0
   ·subst h1;rfl
   rw[if_pos (by simpa using h1)];rfl
  rw[if_neg h0,if_pos (by simpa using h0)];rfl
 by_cases h1:a.Index<b.Index
 ·rw[if_pos (decide_eq_true h1),if_pos h1]
  simp only[aYW,key]
 rw[if_neg (by simpa using h1),if_neg h1]
 by_cases h2:b.Index<a.Index
 ·rw[if_pos (decide_eq_true h2),if_pos h2]
  simp only[aYW,key]
 rw[if_neg (by simpa using h2),if_neg h2]
 simp only[aYW,key]
def OkO (o:aI):Prop:=o.Tx.length=32∧Byt o.Tx
def aEC (h:Int)(c:aC):Bool:=decide (c.Output.Script.length≤520)&&(decide (1≤c.Height)&&decide (c.Height≤h))
def mE (h:Int):Option aI→List aC→Bool
 |_,[]=>true
 |none,c::cs=>aEC h c&&mE h (some c.Out) cs
 |some q,c::cs=>decide (d7 q c.Out<0)&&(aEC h c&&mE h (some c.Out) cs)
def v7 :Int→List aC→Bool
 |_,[]=>true
 |s,c::cs=>decide (0≤c.Output.Value)&&(decide (c.Output.Value≤2100000000000000-s)&&v7 (s+c.Output.Value) cs)
def aOw :List aC→Int
 | []=>0
 |c::cs=>c.Output.Value+aOw cs
def tD (l:List aC)(j:Nat):Option aI:=match j with
 |0=>none
 |k+1=>(l[k]?).map (·.Out)
theorem aGp {l:List aC}{j:Nat}(h:j<l.length):tD l (j+1)=some (l[j]).Out:=by
 simp[tD,h]
theorem aLo {h:Int}{l:List aC}{j:Nat}(hj:j<l.length):mE h (tD l j) (l.drop j)=((match tD l j with|none=>true|some q=>decide (d7 q (l[j]).Out<0))&&(aEC h l[j]&&mE h (tD l (j+1)) (l.drop (j+1)))):=by
 rw[aY9 hj,aGp hj]
 cases tD l j<;>simp[mE]
theorem aRz {s:Int}{l:List aC}{j:Nat}(hj:j<l.length):v7 s (l.drop j)=(decide (0≤l[j].Output.Value)&&(decide (l[j].Output.Value≤2100000000000000-s)&&v7 (s+l[j].Output.Value) (l.drop (j+1)))):=by
 rw[aY9 hj];rfl
section
variable {N:Nat}(hN:70000≤N){l:aF}(hn:l.Coins.length≤1000)(hok: ∀c∈l.Coins,OkO c.Out)
include hN hn hok
theorem aLC : ∀(m j:Nat),l.Coins.length-j<m→j≤l.Coins.length→fK N l m (j:Int)=some (if mE l.Height (tD l.Coins j) (l.Coins.drop j)=true then .brk ()else .ret false)
 |m+1,j,hm,hj=>by
  unfold fK
  by_cases hl:j<l.Coins.length
  ·have tail: ∀b:Bool,lR N l (j:Int) (fK N l m) b=some (if(!b&&mE l.Height (tD l.Coins (j+1)) (l.Coins.drop (j+1)))=true then .brk ()else .ret false):=fun b=>by
    unfold lR
    cases b
    ·rw[if_neg (by simp),i1 (by omega),aLC m (j+1) (by omega) (by omega)]
     simp
    rfl
   have tail2: ∀b:Bool,n7 N l (j:Int) l.Coins[j] (fK N l m) b=some (if(!b&&(aEC l.Height l.Coins[j]&&mE l.Height (tD l.Coins (j+1)) (l.Coins.drop (j+1))))=true then .brk ()else .ret false):=fun b=>by
    unfold n7
    cases b
    ·rw[if_neg (by simp)]
     simp only[tail]
     unfold aEC
     by_cases h1:l.Coins[j].Output.Script.length≤520
     ·rw[if_neg (by simp;omega),decide_eq_true h1]
      by_cases h2:1≤l.Coins[j].Height
      ·rw[if_neg (by simp;omega),decide_eq_true h2]
       by_cases h3:l.Coins[j].Height≤l.Height
       ·rw[decide_eq_false (show¬l.Height<l.Coins[j].Height by omega),decide_eq_true h3];simp
       rw[decide_eq_true (show l.Height<l.Coins[j].Height by omega),decide_eq_false h3];simp
      rw[if_pos (decide_eq_true (by omega)),decide_eq_false h2];simp
     rw[if_pos (decide_eq_true (by omega)),decide_eq_false h1];simp
    rfl
   rw[if_pos (dT hl),bF _ hl,aLo hl]
   simp only[aYW]
   cases j with
   |zero=>
    rw[if_neg (by simp)]
    have:=tail2 false
    simpa[tD]using this
   |succ k=>
    rw[if_pos (decide_eq_true (by omega)),cL (by omega) (by omega),show((k+1:Nat):Int)-1=(k:Int) by omega,bF _ (show k<l.Coins.length by omega)]
    simp only[aYW]
    have o1:=hok _ (aZi (show k<l.Coins.length by omega))
    have o2:=hok _ (aZi hl)
    rw[aIt hN o1.1 o2.1 o1.2 o2.2]
    simp only[aYW]
    rw[tail2]
    simp only[aGp (show k<l.Coins.length by omega)]
    by_cases hc:d7 l.Coins[k].Out l.Coins[k+1].Out<0
    ·rw[decide_eq_false (show¬0≤d7 l.Coins[k].Out l.Coins[k+1].Out by omega),decide_eq_true hc];simp
    rw[decide_eq_true (show 0≤d7 l.Coins[k].Out l.Coins[k+1].Out by omega),decide_eq_false hc];simp
  rw[if_neg (by simp;omega),aY8 (by omega)]
  cases tD l.Coins j<;>rfl
omit hok in
theorem aLs {cs:List aC}(hcs:cs.length≤1000): ∀(m j:Nat)(s:Int),cs.length-j<m→j≤cs.length→0≤s→s≤2100000000000000→jE N cs m s (j:Int)=some (if v7 s (cs.drop j)=true then .brk (s+aOw (cs.drop j))else .ret (0,false))
 |m+1,j,s,hm,hj,h0,h1=>by
  unfold jE
  by_cases hl:j<cs.length
  ·rw[if_pos (dT hl),bF _ hl,aY9 hl]
   rw[show v7 s (cs[j]::cs.drop (j+1))=(decide (0≤cs[j].Output.Value)&&(decide (cs[j].Output.Value≤2100000000000000-s)&&v7 (s+cs[j].Output.Value) (cs.drop (j+1))))from rfl,show aOw (cs[j]::cs.drop (j+1))=cs[j].Output.Value+aOw (cs.drop (j+1))from rfl]
   simp only[aYW]
   rw[cL (a:=2100000000000000-s) (by omega) (by omega)]
   by_cases hv:0≤cs[j].Output.Value
   ·rw[if_neg (by simp;omega),decide_eq_true hv]
    unfold sB
    by_cases hb:cs[j].Output.Value≤2100000000000000-s
    ·rw[if_neg (by simp;omega),decide_eq_true hb,i1 (by omega),cL (by omega) (by omega),aLs hcs m (j+1) _ (by omega) (by omega) (by omega) (by omega)]
     simp only[Bool.true_and]
     split
     ·congr 2;omega
     rfl
    rw[if_pos (decide_eq_true (by omega)),decide_eq_false hb];rfl
   rw[if_pos (decide_eq_true (by omega)),decide_eq_false hv];rfl
  rw[if_neg (by simp;omega),aY8 (by omega)]
  simp[v7,aOw]
def yN (l:aF):Bool:=decide (0≤l.Height)&&(decide (l.Height≤16777216)&&(mE l.Height none l.Coins&&v7 0 l.Coins))
theorem aNK :qN N l=some (yN l):=by
 have L:=aLC hN hn hok N 0 (by omega) (by omega)
 have T:=aLs hN hn hn N 0 0 (by omega) (by omega) (by omega) (by omega)
 rw[show((0:Nat):Int)=0 from rfl,aZh]at L T
 have body:lO N l false=some (mE l.Height none l.Coins&&v7 0 l.Coins):=by
  unfold lO
  rw[if_neg (by simp),L]
  show(some (if mE l.Height none l.Coins=true then LR.brk ()else LR.ret false)).bind _=_
  cases mE l.Height none l.Coins
  ·rfl
  simp only[if_true,aYW,wI]
  unfold aBJ
  rw[T]
  cases v7 0 l.Coins<;>rfl
 unfold qN yN
 by_cases h1:0≤l.Height
 ·rw[if_neg (by simp;omega),decide_eq_true h1]
  by_cases h2:l.Height≤16777216
  ·rw[if_neg (by simp;omega),decide_eq_true h2,decide_eq_false (show¬(100000:Int)<(l.Coins.length:Int) by omega),body]
   rfl
  rw[if_pos (decide_eq_true (by omega)),decide_eq_false h2];rfl
 rw[if_pos (decide_eq_true (by omega)),decide_eq_false h1];rfl
theorem aLO : ∀(m j:Nat)(s:Int),l.Coins.length-j<m→j≤l.Coins.length→0≤s→s≤2100000000000000→eF N l m s (j:Int)=some (if(mE l.Height (tD l.Coins j) (l.Coins.drop j)&&v7 s (l.Coins.drop j))=true then .brk ()else .ret false)
 |m+1,j,s,hm,hj,h0,h1=>by
  unfold eF
  by_cases hl:j<l.Coins.length
  ·have tail: ∀b:Bool,(b=false→0≤l.Coins[j].Output.Value∧l.Coins[j].Output.Value≤2100000000000000)→mP N l s (j:Int) l.Coins[j] (eF N l m) b=some (if(!b&&(decide (l.Coins[j].Output.Value≤2100000000000000-s)&&(mE l.Height (tD l.Coins (j+1)) (l.Coins.drop (j+1))&&v7 (s+l.Coins[j].Output.Value) (l.Coins.drop (j+1)))))=true then .brk ()else .ret false):=fun b hb=>by
    unfold mP
    cases b
    ·obtain⟨v0,v1⟩:=hb rfl
     rw[if_neg (by simp),cL (by omega) (by omega)]
     by_cases hv:l.Coins[j].Output.Value≤2100000000000000-s
     ·rw[if_neg (by simp;omega),i1 (by omega),aLO m (j+1) _ (by omega) (by omega) (by omega) (by omega),decide_eq_true hv]
      simp
     rw[if_pos (decide_eq_true (by omega)),decide_eq_false hv];rfl
    rfl
   have tail2: ∀b:Bool,i5 N l s (j:Int) l.Coins[j] (eF N l m) b=some (if(!b&&(decide (l.Coins[j].Output.Script.length≤520)&&(decide (0≤l.Coins[j].Output.Value)&&(decide (l.Coins[j].Output.Value≤2100000000000000-s)&&(mE l.Height (tD l.Coins (j+1)) (l.Coins.drop (j+1))&&v7 (s+l.Coins[j].Output.Value) (l.Coins.drop (j+1)))))))=true then .brk ()else .ret false):=fun b=>by
    unfold i5
    cases b
    ·rw[if_neg (by simp)]
     by_cases v0:0≤l.Coins[j].Output.Value
     ·rw[if_neg (by simp;omega),decide_eq_true v0]
      by_cases v1:l.Coins[j].Output.Value≤2100000000000000
      ·rw[if_neg (by simp;omega),tail _ (fun _=>⟨v0,v1⟩)]
       by_cases hs:l.Coins[j].Output.Script.length≤520
       ·rw[decide_eq_true hs,decide_eq_false (show¬(520:Int)<(l.Coins[j].Output.Script.length:Int) by omega)];simp
       rw[decide_eq_false hs,decide_eq_true (show(520:Int)<(l.Coins[j].Output.Script.length:Int) by omega)];simp
      rw[if_pos (decide_eq_true (by omega)),tail _ (fun h=>by cases h),decide_eq_false (show¬l.Coins[j].Output.Value≤2100000000000000-s by omega)];simp
     rw[if_pos (decide_eq_true (by omega)),tail _ (fun h=>by cases h),decide_eq_false v0];simp
    rfl
   have fin: ∀(a b c d e f g:Bool),(a&&(b&&(c&&d)&&e))=(a&&(c&&(d&&(b&&e)))):=by intro a b c d e f g;cases a<;>cases b<;>cases c<;>cases d<;>cases e<;>rfl
   rw[if_pos (dT hl),bF _ hl,aLo hl,aRz hl]
   simp only[aYW]
   rw[show aEC l.Height l.Coins[j]=(decide (l.Coins[j].Output.Script.length≤520)&&(decide (1≤l.Coins[j].Height)&&decide (l.Coins[j].Height≤l.Height)))from rfl]
   have hh:(decide (1≤l.Coins[j].Height)= !decide (l.Coins[j].Height<1))∧(decide (l.Coins[j].Height≤l.Height)= !decide (l.Height<l.Coins[j].Height)):=by
    constructor
    ·by_cases h:l.Coins[j].Height<1
     ·rw[decide_eq_true h,decide_eq_false (by omega)];rfl
     rw[decide_eq_false h,decide_eq_true (by omega)];rfl
    by_cases h:l.Height<l.Coins[j].Height
    ·rw[decide_eq_true h,decide_eq_false (by omega)];rfl
    rw[decide_eq_false h,decide_eq_true (by omega)];rfl
   rw[hh.1,hh.2]
   cases j with
   |zero=>
    rw[if_neg (by simp)]
    simp only[tail2,tD,Bool.true_and]
    cases decide (l.Coins[0].Height<1)<;>cases decide (l.Height<l.Coins[0].Height)<;>cases decide (l.Coins[0].Output.Script.length≤520)<;>cases decide (0≤l.Coins[0].Output.Value)<;>cases decide (l.Coins[0].Output.Value≤2100000000000000-s)<;>simp
   |succ k=>
    rw[if_pos (decide_eq_true (by omega)),cL (by omega) (by omega),show((k+1:Nat):Int)-1=(k:Int) by omega,bF _ (show k<l.Coins.length by omega)]
    simp only[aYW]
    have o1:=hok _ (aZi (show k<l.Coins.length by omega))
    have o2:=hok _ (aZi hl)
    rw[aM1 hN o1.1 o2.1]
    simp only[aYW]
    simp only[tail2,aGp (show k<l.Coins.length by omega)]
    by_cases hc:d7 l.Coins[k].Out l.Coins[k+1].Out<0
    ·rw[decide_eq_false (show¬0≤d7 l.Coins[k].Out l.Coins[k+1].Out by omega),decide_eq_true hc]
     cases decide (l.Coins[k+1].Height<1)<;>cases decide (l.Height<l.Coins[k+1].Height)<;>cases decide (l.Coins[k+1].Output.Script.length≤520)<;>cases decide (0≤l.Coins[k+1].Output.Value)<;>cases decide (l.Coins[k+1].Output.Value≤2100000000000000-s)<;>simp
    rw[decide_eq_true (show 0≤d7 l.Coins[k].Out l.Coins[k+1].Out by omega),decide_eq_false hc]
    simp
  rw[if_neg (by simp;omega),aY8 (by omega)]
  cases tD l.Coins j<;>rfl
theorem aNb :sK N l=some (yN l):=by
 have L:=aLO hN hn hok N 0 0 (by omega) (by omega) (by omega) (by omega)
 rw[show((0:Nat):Int)=0 from rfl,aZh]at L
 have body:nH N l false=some (mE l.Height none l.Coins&&v7 0 l.Coins):=by
  unfold nH
  rw[if_neg (by simp),L]
  show(some (if(mE l.Height none l.Coins&&v7 0 l.Coins)=true then LR.brk ()else LR.ret false)).bind _=_
  cases mE l.Height none l.Coins&&v7 0 l.Coins<;>rfl
 unfold sK yN
 by_cases h1:0≤l.Height
 ·rw[if_neg (by simp;omega),decide_eq_true h1]
  by_cases h2:l.Height≤16777216
  ·rw[if_neg (by simp;omega),decide_eq_true h2,decide_eq_false (show¬(100000:Int)<(l.Coins.length:Int) by omega),body]
   rfl
  rw[if_pos (decide_eq_true (by omega)),decide_eq_false h2];rfl
 rw[if_pos (decide_eq_true (by omega)),decide_eq_false h1];rfl
end
end Go.Proofs.YtgfdllellpbmoaaGreatDoor
