/- Texts of ours, joined: Sh, OpenArr, OpenS. -/
import Derived.Test.YtopdhljncajmpaaGreatDoorQLedgerDisconnects2
import Derived.Test.YtopdhljncajmpaaGreatDoorQLedgerDisconnects3
import Derived.OpenShut
open Go.IntKind renaming i64 → a1a,u64 → a1b,u32 → a1c,u8 → a1f,max → a1i
open List renaming replicate → a1d
open Int renaming toNat → a1e,tmod → a1g,tdiv → a1h
set_option linter.unusedVariables false
set_option linter.unusedSimpArgs false
set_option maxRecDepth 20000
set_option maxHeartbeats 8000000
namespace Go.Proofs.YtopdhljncajmpaaGreatDoor
open Go Go.Vm
structure bV where
 Version:Int
 Prev:List Int
 Root:List Int
 Time:Int
 Bits:Int
 Nonce:Int
abbrev sW (x:bV):List V:=((eI .u32 x.Version)::(aN (eI .u8) x.Prev (aN (eI .u8) x.Root [eI .u32 x.Time,eI .u32 x.Bits,eI .u32 x.Nonce])))
abbrev pO (x:bV):V:= .agg (sW x)
@[simp] theorem aLY {f:Nat→Nat}(l:List bV):V.rns f (l.flatMap sW)=l.flatMap sW:=cV (fun _=>rfl) l
@[simp] theorem aLU {f:Nat→Nat}(x:bV):V.rns f (sW x)=sW x:=rfl
structure pU where
 Height:Int
 Hash:List Int
abbrev pV (x:pU):List V:=((eI .i64 x.Height)::(aN (eI .u8) x.Hash []))
abbrev bE (x:pU):V:= .agg (pV x)
@[simp] theorem aIn {f:Nat→Nat}(l:List pU):V.rns f (l.flatMap pV)=l.flatMap pV:=cV (fun _=>rfl) l
@[simp] theorem aIo {f:Nat→Nat}(x:pU):V.rns f (pV x)=pV x:=rfl
structure aL where
 Genesis:bV
 Limit:List Int
 Window:Int
 Spacing:Int
 Future:Int
 Version:Int
 Checkpoints:List pU
 Subsidy:Int
 Halving:Int
 Maturity:Int
abbrev bD (x:aL):List V:=((eI .u32 x.Genesis.Version)::(aN (eI .u8) x.Genesis.Prev (aN (eI .u8) x.Genesis.Root ((eI .u32 x.Genesis.Time)::((eI .u32 x.Genesis.Bits)::((eI .u32 x.Genesis.Nonce)::(eU (eI .u64) x.Limit [eI .i64 x.Window,eI .u32 x.Spacing,eI .u32 x.Future,eI .u32 x.Version,.row none 33 (x.Checkpoints.map bE),eI .i64 x.Subsidy,eI .i64 x.Halving,eI .i64 x.Maturity])))))))
abbrev cP (x:aL):V:= .agg (bD x)
@[simp] theorem aMk {f:Nat→Nat}(l:List aL):V.rns f (l.flatMap bD)=l.flatMap bD:=cV (fun _=>rfl) l
@[simp] theorem aMs {f:Nat→Nat}(x:aL):V.rns f (bD x)=bD x:=rfl
structure aB where
 Tx:List Int
 Index:Int
abbrev bP (x:aB):List V:=(aN (eI .u8) x.Tx [eI .u32 x.Index])
abbrev cC (x:aB):V:= .agg (bP x)
@[simp] theorem aKP {f:Nat→Nat}(l:List aB):V.rns f (l.flatMap bP)=l.flatMap bP:=cV (fun _=>rfl) l
@[simp] theorem aKX {f:Nat→Nat}(x:aB):V.rns f (bP x)=bP x:=rfl
structure aW where
 Value:Int
 Script:List Int
abbrev c7 (x:aW):List V:=[eI .i64 x.Value,.row none 1 (x.Script.map (eI .u8))]
abbrev cK (x:aW):V:= .agg (c7 x)
@[simp] theorem aMx {f:Nat→Nat}(l:List aW):V.rns f (l.flatMap c7)=l.flatMap c7:=cV (fun _=>rfl) l
@[simp] theorem aL5 {f:Nat→Nat}(x:aW):V.rns f (c7 x)=c7 x:=rfl
structure aA where
 Out:aB
 Output:aW
 Height:Int
 Coinbase:Bool
abbrev aF (x:aA):List V:=(aN (eI .u8) x.Out.Tx [eI .u32 x.Out.Index,eI .i64 x.Output.Value,.row none 1 (x.Output.Script.map (eI .u8)),eI .i64 x.Height,eB x.Coinbase])
abbrev aJ (x:aA):V:= .agg (aF x)
@[simp] theorem aN6 {f:Nat→Nat}(l:List aA):V.rns f (l.flatMap aF)=l.flatMap aF:=cV (fun _=>rfl) l
@[simp] theorem aNN {f:Nat→Nat}(x:aA):V.rns f (aF x)=aF x:=rfl
structure aC where
 Height:Int
 Tip:List Int
 Coins:List aA
abbrev aO (x:aC):List V:=((eI .i64 x.Height)::(aN (eI .u8) x.Tip [.row none 37 (x.Coins.map aJ)]))
abbrev cG (x:aC):V:= .agg (aO x)
@[simp] theorem aMv {f:Nat→Nat}(l:List aC):V.rns f (l.flatMap aO)=l.flatMap aO:=cV (fun _=>rfl) l
@[simp] theorem aLT {f:Nat→Nat}(x:aC):V.rns f (aO x)=aO x:=rfl
structure bA where
 Height:Int
 Hash:List Int
 Bits:Int
 First:Int
 Times:List Int
abbrev cB (x:bA):List V:=((eI .i64 x.Height)::(aN (eI .u8) x.Hash [eI .u32 x.Bits,eI .u32 x.First,.row none 1 (x.Times.map (eI .u32))]))
abbrev gE (x:bA):V:= .agg (cB x)
@[simp] theorem aLp {f:Nat→Nat}(l:List bA):V.rns f (l.flatMap cB)=l.flatMap cB:=cV (fun _=>rfl) l
@[simp] theorem aLn {f:Nat→Nat}(x:bA):V.rns f (cB x)=cB x:=rfl
structure bI where
 Prev:aB
 Sequence:Int
 Witness:List (List Int)
abbrev fW (x:bI):List V:=(aN (eI .u8) x.Prev.Tx [eI .u32 x.Prev.Index,eI .u32 x.Sequence,.row none 1 (x.Witness.map (eL 1 (eI .u8)))])
abbrev bQ (x:bI):V:= .agg (fW x)
@[simp] theorem aME {f:Nat→Nat}(l:List bI):V.rns f (l.flatMap fW)=l.flatMap fW:=cV (fun _=>rfl) l
@[simp] theorem aMT {f:Nat→Nat}(x:bI):V.rns f (fW x)=fW x:=rfl
structure aD where
 Version:Int
 Inputs:List bI
 Outputs:List aW
 Lock:Int
abbrev aZ (x:aD):List V:=[eI .u32 x.Version,.row none 35 (x.Inputs.map bQ),.row none 2 (x.Outputs.map cK),eI .u32 x.Lock]
abbrev aU (x:aD):V:= .agg (aZ x)
@[simp] theorem aQQ {f:Nat→Nat}(l:List aD):V.rns f (l.flatMap aZ)=l.flatMap aZ:=cV (fun _=>rfl) l
@[simp] theorem aQF {f:Nat→Nat}(x:aD):V.rns f (aZ x)=aZ x:=rfl
structure aH where
 Header:bV
 Txs:List aD
abbrev aQ (x:aH):List V:=((eI .u32 x.Header.Version)::(aN (eI .u8) x.Header.Prev (aN (eI .u8) x.Header.Root [eI .u32 x.Header.Time,eI .u32 x.Header.Bits,eI .u32 x.Header.Nonce,.row none 4 (x.Txs.map aU)])))
abbrev cW (x:aH):V:= .agg (aQ x)
@[simp] theorem aMW {f:Nat→Nat}(l:List aH):V.rns f (l.flatMap aQ)=l.flatMap aQ:=cV (fun _=>rfl) l
@[simp] theorem aMG {f:Nat→Nat}(x:aH):V.rns f (aQ x)=aQ x:=rfl
structure aM where
 Spent:List aA
abbrev bK (x:aM):List V:=[.row none 37 (x.Spent.map aJ)]
abbrev rH (x:aM):V:= .agg (bK x)
@[simp] theorem aN9 {f:Nat→Nat}(l:List aM):V.rns f (l.flatMap bK)=l.flatMap bK:=cV (fun _=>rfl) l
@[simp] theorem aNI {f:Nat→Nat}(x:aM):V.rns f (bK x)=bK x:=rfl
structure aV where
 Params:aL
 Blocks:List aH
 Ledgers:List aC
 Contexts:List bA
 Undos:List aM
abbrev i0 (x:aV):List V:=((eI .u32 x.Params.Genesis.Version)::(aN (eI .u8) x.Params.Genesis.Prev (aN (eI .u8) x.Params.Genesis.Root ((eI .u32 x.Params.Genesis.Time)::((eI .u32 x.Params.Genesis.Bits)::((eI .u32 x.Params.Genesis.Nonce)::(eU (eI .u64) x.Params.Limit [eI .i64 x.Params.Window,eI .u32 x.Params.Spacing,eI .u32 x.Params.Future,eI .u32 x.Params.Version,.row none 33 (x.Params.Checkpoints.map bE),eI .i64 x.Params.Subsidy,eI .i64 x.Params.Halving,eI .i64 x.Params.Maturity,.row none 69 (x.Blocks.map cW),.row none 34 (x.Ledgers.map cG),.row none 36 (x.Contexts.map gE),.row none 1 (x.Undos.map rH)])))))))
abbrev i5 (x:aV):V:= .agg (i0 x)
@[simp] theorem aD2 {f:Nat→Nat}(l:List aV):V.rns f (l.flatMap i0)=l.flatMap i0:=cV (fun _=>rfl) l
@[simp] theorem aD8 {f:Nat→Nat}(x:aV):V.rns f (i0 x)=i0 x:=rfl
structure eW where
 Code:Int
 Data:List Int
 M:Int
 N:Int
abbrev lQ (x:eW):List V:=[eI .i64 x.Code,.row none 1 (x.Data.map (eI .u8)),eI .i64 x.M,eI .i64 x.N]
abbrev aAV (x:eW):V:= .agg (lQ x)
@[simp] theorem aQH {f:Nat→Nat}(l:List eW):V.rns f (l.flatMap lQ)=l.flatMap lQ:=cV (fun _=>rfl) l
@[simp] theorem aP2 {f:Nat→Nat}(x:eW):V.rns f (lQ x)=lQ x:=rfl
structure iI where
 reached:Bool
 done:Bool
abbrev iK (x:iI):List V:=[eB x.reached,eB x.done]
abbrev aGn (x:iI):V:= .agg (iK x)
@[simp] theorem aDy {f:Nat→Nat}(l:List iI):V.rns f (l.flatMap iK)=l.flatMap iK:=cV (fun _=>rfl) l
@[simp] theorem aCY {f:Nat→Nat}(x:iI):V.rns f (iK x)=iK x:=rfl
structure aBX where
 E:List Int
 S:List Int
abbrev wL (x:aBX):List V:=(eU (eI .u64) x.E (eU (eI .u64) x.S []))
@[simp] theorem aJR {f:Nat→Nat}(l:List aBX):V.rns f (l.flatMap wL)=l.flatMap wL:=cV (fun _=>rfl) l
@[simp] theorem aJS {f:Nat→Nat}(x:aBX):V.rns f (wL x)=wL x:=rfl
structure iG where
 Message:List Int
 Height:Int
 Age:Int
abbrev aBd (x:iG):List V:=(aN (eI .u8) x.Message [eI .i64 x.Height,eI .i64 x.Age])
abbrev aKE (x:iG):V:= .agg (aBd x)
@[simp] theorem aO5 {f:Nat→Nat}(l:List iG):V.rns f (l.flatMap aBd)=l.flatMap aBd:=cV (fun _=>rfl) l
@[simp] theorem aO3 {f:Nat→Nat}(x:iG):V.rns f (aBd x)=aBd x:=rfl
abbrev uA (e:aB×Bool):List V:=bP e.1++[eB e.2]
def kH (a b:aB):Bool:=(fR a.Tx b.Tx ((a.Index == b.Index)&&true))
@[simp] theorem aUe {f:Nat→Nat}(l:List (aB×Bool)):V.rns f (l.flatMap uA)=l.flatMap uA:=cV (fun _=>rfl) l
abbrev aFb (e:(List Int)×Int):List V:=(dV (eI .u8)) e.1++[(eI .i64) e.2]
def y0 (a b:List Int):Bool:=(fR a b true)
@[simp] theorem aUh {f:Nat→Nat}(l:List (List Int×Int)):V.rns f (l.flatMap aFb)=l.flatMap aFb:=cV (fun _=>rfl) l
structure aBD where
 outer:Bool
 taken:Bool
abbrev wA (x:aBD):List V:=[eB x.outer,eB x.taken]
@[simp] theorem aJQ {f:Nat→Nat}(l:List aBD):V.rns f (l.flatMap wA)=l.flatMap wA:=cV (fun _=>rfl) l
@[simp] theorem aJU {f:Nat→Nat}(x:aBD):V.rns f (wA x)=wA x:=rfl
abbrev dO (e:aB×aA):List V:=bP e.1++aF e.2
def r8 (a b:aB):Bool:=(fR a.Tx b.Tx ((a.Index == b.Index)&&true))
@[simp] theorem aTU {f:Nat→Nat}(l:List (aB×aA)):V.rns f (l.flatMap dO)=l.flatMap dO:=cV (fun _=>rfl) l
abbrev aLk (e:ByteArray×Bool):List V:=[eS e.1]++[eB e.2]
def aPv (a b:ByteArray):Bool:=a == b
@[simp] theorem aTI {f:Nat→Nat}(l:List (ByteArray×Bool)):V.rns f (l.flatMap aLk)=l.flatMap aLk:=cV (fun _=>rfl) l
def iQ :List Int→List Int→Int
 |a::l,b::m=>if a<b then -1 else if b<a then 1 else iQ l m
 |_,_=>0
def aNS (o:aB):List Int:=o.Tx++[o.Index]
def cQ (a b:aB):Int:=iQ (aNS a) (aNS b)
def qB (c:aA):List aA→List aA
 | []=>[c]
 |d::ds=>if cQ d.Out c.Out<0 then d::qB c ds else c::d::ds
def aI6 (o:aB):Bool:=decide (o.Tx.length=32)&&o.Tx.all fun x=>decide (0≤x∧x<256)
def mK (l:List aA):Option (List aA):=if l.length≤100000∧(∀c∈l,aI6 c.Out=true)∧l.Pairwise (fun a b=>cQ a.Out b.Out≠0)then some (l.foldr qB [])else none
def aOp (N:Nat)(va:List Int):Option (List Int):=
 (b7 4 va 0).bind fun x3=>
 (b7 4 va 1).bind fun x6=>
 (b7 4 va 2).bind fun x9=>
 (b7 4 va 3).bind fun x12=>
 some [bits .xor .u64 (a1i .u64) x3,bits .xor .u64 (a1i .u64) x6,bits .xor .u64 (a1i .u64) x9,bits .xor .u64 (a1i .u64) x12]
def tO (N:Nat)(va:List Int)(vi:Int):Option Bool:=
 (b7 4 va (a1a.wrap (a1h vi 64))).bind fun x7=>
 (shr .u64 x7 (a1g vi 64)).bind fun x11=>
 some ((bits .and .u64 x11 1) == 1)
def aGe (N:Nat)(l1:List Int):Option (List Int):=
 (bH 4 l1).bind fun q_1=>
 some l1
def aBo (N:Nat)(va:List Int)(vn vi:Int)(rec:Int→(List Int)→Option (List Int))(eE:List Int):Option (List Int):=
 rec (a1a.wrap (vi+1)) eE
def pT (N:Nat)(va:List Int)(vn:Int):Nat→Int→(List Int)→Option (List Int)
 |0,_,_=>none
 |m+1,vi,l2=>
  if decide ((a1a.wrap (vi+vn))<256) then
   (bH 4 va).bind fun q_2=>
   (tO N va (a1a.wrap (vi+vn))).bind fun x23=>
   if x23 then
    (b7 4 l2 (a1a.wrap (a1h vi 64))).bind fun x26=>
    (shl .u64 1 (a1g vi 64)).bind fun x30=>
    aBo N va vn vi (pT N va vn m) (l2.set (a1e (a1a.wrap (a1h vi 64))) (bits .or .u64 x26 x30))
   else
    aBo N va vn vi (pT N va vn m) l2
  else
   some l2
def tN (N:Nat)(va:List Int)(vn:Int):Option (List Int):=
 if decide (vn≤0) then
  (bH 4 va).bind fun q=>
  some va
 else
  if decide (256≤vn) then
   some [0,0,0,0]
  else
   (pT N va vn N 0 (a1d 4 0)).bind fun p2=>
   aGe N p2
def aDM (N:Nat)(v:Int):Option aL:=
 (aOp N [0,0,0,0]).bind fun x8=>
 (tN N x8 1).bind fun x9=>
 (bH 4 x9).bind fun q=>
 some (aL.mk (bV.mk 1 (a1d 32 0) (a1d 32 0) (a1c.wrap (1000+(a1c.wrap v))) 545259519 0) x9 (a1a.wrap (3+(a1a.wrap (a1g v 5)))) 5 600 1 [] 1000 (a1a.wrap (4+(a1a.wrap (a1g v 3)))) (a1a.wrap (a1g v 3)))
def n4 (N:Nat)(va:List Int):Option Bool:=
 (bH 4 va).bind fun q=>
 some (va == [0,0,0,0])
def gW (N:Nat)(vn:Int):Option (List Int):=
 some [vn,0,0,0]
def aKQ (N:Nat):Option Int:=
 some 0
def yD (N:Nat)(va:List Int):Nat→Int→Option (LR (Unit) (Int))
 |0,_=>none
 |m+1,vi=>
  if decide (0≤vi) then
   (bH 4 va).bind fun q=>
   (tO N va vi).bind fun x10=>
   if x10 then
    some (.ret (a1a.wrap (vi+1)))
   else
    (yD N va m) (a1a.wrap (vi-1))
  else
   some (.brk ())
def aDZ (N:Nat)(va:List Int):Option Int:=
 (yD N va N 255).bind fun q=>match q with
  | .ret v=>some v
  | .brk p2=>
   aKQ N
def nH (N:Nat)(x y c:Int):Option (Int×Int):=aMI x y c
def aGH (N:Nat)(aFf:Int)(l1:List Int):Option ((List Int)×Bool):=
 (bH 4 l1).bind fun q=>
 some (l1,aFf == 1)
def xJ (N:Nat)(va b:List Int):Nat→Int→Int→(List Int)→Option (Int×(List Int))
 |0,_,_,_=>none
 |m+1,carry_1,x9,l3=>
  if decide (x9<4) then
   (b7 4 va x9).bind fun x15=>
   (b7 4 b x9).bind fun x18=>
   (nH N x15 x18 carry_1).bind fun x21=>
   (b7 4 l3 x9).bind fun x24=>
   (xJ N va b m) x21.2 (a1a.wrap (x9+1)) (l3.set (a1e x9) x21.1)
  else
   some (carry_1,l3)
def aDW (N:Nat)(va b:List Int):Option ((List Int)×Bool):=
 (xJ N va b N 0 0 (a1d 4 0)).bind fun p2=>
 aGH N p2.1 p2.2
def aGu (N:Nat)(l0:List Int):Option (List Int):=
 (bH 4 l0).bind fun q=>
 some l0
def xO (N:Nat):Nat→Int→(List Int)→Option (List Int)
 |0,_,_=>none
 |m+1,vn_1,aR=>
  if decide (0<vn_1) then
   (bH 4 aR).bind fun q_1=>
   (aDW N aR aR).bind fun x15=>
   (bH 4 x15.1).bind fun q_2=>
   (xO N m) (a1a.wrap (vn_1-1)) x15.1
  else
   some aR
def aDU (N:Nat)(va:List Int)(vn:Int):Option (List Int):=
 if decide (256≤vn) then
  some [0,0,0,0]
 else
  (xO N N vn va).bind fun p2=>
  aGu N p2
def rK (N:Nat)(l1:List Int):Option ((List Int)×Int):=
 (bH 4 l1).bind fun q_1=>
 (n4 N l1).bind fun x45=>
 if x45 then
  some ([0,0,0,0],120)
 else
  some (l1,0)
def rO (N:Nat)(x8:Int)(x13:(List Int))(x37:Bool):Option ((List Int)×Int):=
 if x37 then
  some ([0,0,0,0],120)
 else
  (aDU N x13 (a1a.wrap (8*(a1a.wrap ((a1a.wrap x8)-3))))).bind fun x43=>
  (bH 4 x43).bind fun q_3=>
  rK N x43
def o8 (N:Nat)(k6:Int):Option ((List Int)×Int):=
 (shr .u32 k6 24).bind fun x8=>
 (gW N (a1b.wrap (bits .and .u32 k6 16777215))).bind fun x13=>
 (bH 4 x13).bind fun q=>
 if(bits .and .u32 k6 8388608) != 0 then
  some ([0,0,0,0],120)
 else
  if decide ((a1a.wrap x8)<3) then
   (tN N x13 (a1a.wrap (8*(a1a.wrap (3-(a1a.wrap x8)))))).bind fun x25=>
   (bH 4 x25).bind fun q_2=>
   rK N x25
  else
   (n4 N x13).bind fun x27=>
   if !x27 then
    (aDZ N x13).bind fun x31=>
    rO N x8 x13 (decide (256<(a1a.wrap (x31+(a1a.wrap (8*(a1a.wrap ((a1a.wrap x8)-3))))))))
   else
    rO N x8 x13 false
def aKc (N:Nat):Option Int:=
 some 0
def yN (N:Nat)(va b:List Int):Nat→Int→Option (LR (Unit) (Int))
 |0,_=>none
 |m+1,vi=>
  if decide (0≤vi) then
   (b7 4 va vi).bind fun x11=>
   (b7 4 b vi).bind fun x14=>
   if decide (x11<x14) then
    some (.ret (-1))
   else
    if decide (x14<x11) then
     some (.ret 1)
    else
     (yN N va b m) (a1a.wrap (vi-1))
  else
   some (.brk ())
def oF (N:Nat)(va b:List Int):Option Int:=
 (yN N va b N 3).bind fun q=>match q with
  | .ret v=>some v
  | .brk p2=>
   aKc N
def aDo (N:Nat)(p:aL):Option Bool:=
 (o8 N p.Genesis.Bits).bind fun x95=>
 (bH 4 x95.1).bind fun q_1=>
 if x95.2 == 0 then
  (oF N x95.1 p.Limit).bind fun aCl=>
  some (decide (aCl≤0))
 else
  none
def aDq (N:Nat)(p:aL):Nat→Option Unit
 |0=>none
 |m+1=>
  if decide (0<(p.Checkpoints.length:Int)) then
   none
  else
   some ()
def jM (N:Nat)(p:aL):Option Bool:=
 (bH 4 p.Limit).bind fun q=>
 (n4 N p.Limit).bind fun x9=>
 if x9 then
  none
 else
  if decide (p.Window<1) then
   none
  else
   if decide (4096<p.Window) then
    none
   else
    if decide (p.Spacing<1) then
     none
    else
     if decide (1048576<p.Spacing) then
      none
     else
      if decide (p.Subsidy<0) then
       none
      else
       if decide (2100000000000000<p.Subsidy) then
        none
       else
        if decide (p.Halving<1) then
         none
        else
         if decide (16777216<p.Halving) then
          none
         else
          if decide (p.Maturity<0) then
           none
          else
           if decide (16777216<p.Maturity) then
            none
           else
            (aDq N p N).bind fun p2=>
            aDo N p
def aB2 (N:Nat)(l0:List Int):Option (List Int):=
 some l0
def rE (N:Nat)(v:Int)(x8:List Int):Nat→Int→(List Int)→Option (List Int)
 |0,_,_=>none
 |m+1,x11,aR=>
  if decide (x11<(x8.length:Int)) then
   (shr .u64 v (a1a.wrap (8*x11))).bind fun x19=>
   (bB aR x11).bind fun x21=>
   (rE N v x8 m) (a1a.wrap (x11+1)) (aR.set (a1e x11) (a1f.wrap x19))
  else
   some aR
def kU (N:Nat)(v vn:Int):Option (List Int):=
 (mks 1 0 vn).bind fun x8=>
 (rE N v x8 N 0 x8).bind fun p2=>
 aB2 N p2
def eT (N:Nat)(va b:List Int):Option (List Int):=
 (mks 1 0 (a1a.wrap ((va.length:Int)+(b.length:Int)))).bind fun x11=>
 (b9 1 (x11.take 0) va).bind fun x14=>
 (b9 1 x14 b).bind fun x16=>
 some x16
def dY (N:Nat)(b:List Int)(vn:Int):Option (List Int):=
 (kU N (a1b.wrap vn) 4).bind fun x8=>
 (eT N b x8).bind fun x9=>
 some x9
def fG (N:Nat)(b vh:List Int):Option (List Int):=
 (bH 32 vh).bind fun q=>
 (eT N b vh).bind fun x7=>
 some x7
def aBj (N:Nat)(l0:List Int):Option (List Int):=
 some l0
def nL (N:Nat)(vh:bV):Nat→Int→(List Int)→Option (List Int)
 |0,_,_=>none
 |m+1,x24,aR=>
  if decide (x24<(3:Int)) then
   (bB [vh.Time,vh.Bits,vh.Nonce] x24).bind fun x26=>
   (dY N aR x26).bind fun x30=>
   (nL N vh m) (a1a.wrap (x24+1)) x30
  else
   some aR
def mP (N:Nat)(vh:bV):Option (List Int):=
 (dY N [] vh.Version).bind fun x8=>
 (bH 32 vh.Prev).bind fun q=>
 (fG N x8 vh.Prev).bind fun x12=>
 (bH 32 vh.Root).bind fun q_1=>
 (fG N x12 vh.Root).bind fun x15=>
 (nL N vh N 0 x15).bind fun p2=>
 aBj N p2
def aKU (N:Nat)(aR:List Int):Option (List Int):=
 some aR
def xV (N:Nat)(vn:Int):Nat→Int→(List Int)→Option (List Int)
 |0,_,_=>none
 |m+1,vi,d9=>
  if decide (0≤vi) then
   (shr .u64 (a1b.wrap (8*vn)) (a1a.wrap (8*vi))).bind fun x26=>
   (b9 1 d9 [a1f.wrap x26]).bind fun x29=>
   (xV N vn m) (a1a.wrap (vi-1)) x29
  else
   some d9
def aGG (N:Nat)(vn:Int)(l0:List Int):Option (List Int):=
 (xV N vn N 7 l0).bind fun p3=>
 aKU N p3
def aB0 (N:Nat)(vn:Int):Nat→(List Int)→Option (List Int)
 |0,_=>none
 |m+1,g8=>
  if(a1g (a1b.wrap ((a1b.wrap (vn+(a1b.wrap (g8.length:Int))))+8)) 64) != 0 then
   (b9 1 g8 [0]).bind fun x16=>
   (aB0 N vn m) x16
  else
   some g8
def aG1 (N:Nat)(vn:Int):Option (List Int):=
 (aB0 N vn N [128]).bind fun p4=>
 aGG N vn p4
def aAx (N:Nat):Option (List Int):=
 some [1779033703,3144134277,1013904242,2773480762,1359893119,2600822924,528734635,1541459225]
def mJ (N:Nat)(x k:Int):Option Int:=
 (shl .u32 x (bits .and .u64 (a1b.wrap k) 31)).bind fun x11=>
 (shr .u32 x (a1b.wrap (32-(bits .and .u64 (a1b.wrap k) 31)))).bind fun x15=>
 some (bits .or .u32 x11 x15)
def jR (N:Nat)(x vn:Int):Option Int:=
 (mJ N x (a1a.wrap (0-vn))).bind fun x8=>
 some x8
def zT (N:Nat)(bJ:List Int):Option (List Int):=
 (bH 64 bJ).bind fun q=>
 some bJ
def sB (N:Nat):Nat→Int→(List Int)→Option (List Int)
 |0,_,_=>none
 |m+1,vi,cE=>
  if decide (vi<64) then
   (b7 64 cE (a1a.wrap (vi-15))).bind fun x49=>
   (jR N x49 7).bind fun x51=>
   (jR N x49 18).bind fun x56=>
   (shr .u32 x49 3).bind fun x62=>
   (b7 64 cE (a1a.wrap (vi-2))).bind fun x66=>
   (jR N x66 17).bind fun x68=>
   (jR N x66 19).bind fun x73=>
   (shr .u32 x66 10).bind fun x79=>
   (b7 64 cE (a1a.wrap (vi-16))).bind fun x84=>
   (b7 64 cE (a1a.wrap (vi-7))).bind fun x90=>
   (b7 64 cE vi).bind fun x95=>
   (sB N m) (a1a.wrap (vi+1)) (cE.set (a1e vi) (a1c.wrap ((a1c.wrap ((a1c.wrap (x84+(bits .xor .u32 (bits .xor .u32 x51 x56) x62)))+x90))+(bits .xor .u32 (bits .xor .u32 x68 x73) x79))))
  else
   some cE
def aAb (N:Nat)(l1:List Int):Option (List Int):=
 (sB N N 16 l1).bind fun p3=>
 zT N p3
def lA (N:Nat)(block:List Int):Nat→Int→(List Int)→Option (List Int)
 |0,_,_=>none
 |m+1,iV,l2=>
  if decide (iV<16) then
   (b7 64 block (a1a.wrap (4*iV))).bind fun x15=>
   (shl .u32 (a1c.wrap x15) 24).bind fun x18=>
   (b7 64 block (a1a.wrap ((a1a.wrap (4*iV))+1))).bind fun x22=>
   (shl .u32 (a1c.wrap x22) 16).bind fun x25=>
   (b7 64 block (a1a.wrap ((a1a.wrap (4*iV))+2))).bind fun x30=>
   (shl .u32 (a1c.wrap x30) 8).bind fun x33=>
   (b7 64 block (a1a.wrap ((a1a.wrap (4*iV))+3))).bind fun x38=>
   (b7 64 l2 iV).bind fun x42=>
   (lA N block m) (a1a.wrap (iV+1)) (l2.set (a1e iV) (bits .or .u32 (bits .or .u32 (bits .or .u32 x18 x25) x33) (a1c.wrap x38)))
  else
   some l2
def zC (N:Nat)(block:List Int):Option (List Int):=
 (lA N block N 0 (a1d 64 0)).bind fun p4=>
 aAb N p4
def vW (N:Nat):Option (List Int):=
 some [1116352408,1899447441,3049323471,3921009573,961987163,1508970993,2453635748,2870763221,3624381080,310598401,607225278,1426881987,1925078388,2162078206,2614888103,3248222580,3835390401,4022224774,264347078,604807628,770255983,1249150122,1555081692,1996064986,2554220882,2821834349,2952996808,3210313671,3336571891,3584528711,113926993,338241895,666307205,773529912,1294757372,1396182291,1695183700,1986661051,2177026350,2456956037,2730485921,2820302411,3259730800,3345764771,3516065817,3600352804,4094571909,275423344,430227734,506948616,659060556,883997877,958139571,1322822218,1537002063,1747873779,1955562222,2024104815,2227730452,2361852424,2428436474,2756734187,3204031479,3329325298]
def aAd (N:Nat)(cO:List Int)(va b c d ve f g vh:Int):Option (List Int):=
 (b7 8 cO 0).bind fun aCy=>
 (b7 8 cO 1).bind fun aCl=>
 (b7 8 cO 2).bind fun aVP=>
 (b7 8 cO 3).bind fun aUS=>
 (b7 8 cO 4).bind fun aUK=>
 (b7 8 cO 5).bind fun z7=>
 (b7 8 cO 6).bind fun aVe=>
 (b7 8 cO 7).bind fun aUZ=>
 some [a1c.wrap (aCy+va),a1c.wrap (aCl+b),a1c.wrap (aVP+c),a1c.wrap (aUS+d),a1c.wrap (aUK+ve),a1c.wrap (z7+f),a1c.wrap (aVe+g),a1c.wrap (aUZ+vh)]
def sE (N:Nat)(cO:List Int)(x19 x20:(List Int)):Nat→Int→Int→Int→Int→Int→Int→Int→Int→Int→Option (Int×Int×Int×Int×Int×Int×Int×Int)
 |0,_,_,_,_,_,_,_,_,_=>none
 |m+1,va_1,b_1,c_1,d_1,ve_1,f_1,g_1,vh_1,vi=>
  if decide (vi<64) then
   (jR N ve_1 6).bind fun x43=>
   (jR N ve_1 11).bind fun x45=>
   (jR N ve_1 25).bind fun x48=>
   (b7 64 x20 vi).bind fun x61=>
   (b7 64 x19 vi).bind fun x65=>
   (jR N va_1 2).bind fun x69=>
   (jR N va_1 13).bind fun x71=>
   (jR N va_1 22).bind fun x74=>
   (sE N cO x19 x20 m) (a1c.wrap ((a1c.wrap ((a1c.wrap ((a1c.wrap ((a1c.wrap (vh_1+(bits .xor .u32 (bits .xor .u32 x43 x45) x48)))+(bits .xor .u32 (bits .and .u32 ve_1 f_1) (bits .and .u32 (bits .xor .u32 (a1i .u32) ve_1) g_1))))+x61))+x65))+(a1c.wrap ((bits .xor .u32 (bits .xor .u32 x69 x71) x74)+(bits .xor .u32 (bits .xor .u32 (bits .and .u32 va_1 b_1) (bits .and .u32 va_1 c_1)) (bits .and .u32 b_1 c_1)))))) va_1 b_1 c_1 (a1c.wrap (d_1+(a1c.wrap ((a1c.wrap ((a1c.wrap ((a1c.wrap (vh_1+(bits .xor .u32 (bits .xor .u32 x43 x45) x48)))+(bits .xor .u32 (bits .and .u32 ve_1 f_1) (bits .and .u32 (bits .xor .u32 (a1i .u32) ve_1) g_1))))+x61))+x65)))) ve_1 f_1 g_1 (a1a.wrap (vi+1))
  else
   some (va_1,b_1,c_1,d_1,ve_1,f_1,g_1,vh_1)
def tL (N:Nat)(cO block:List Int):Option (List Int):=
 (bH 64 block).bind fun q=>
 (zC N block).bind fun x19=>
 (vW N).bind fun x20=>
 (bH 64 x19).bind fun q_1=>
 (bH 64 x20).bind fun q_2=>
 (b7 8 cO 0).bind fun x21=>
 (b7 8 cO 1).bind fun x23=>
 (b7 8 cO 2).bind fun x25=>
 (b7 8 cO 3).bind fun x27=>
 (b7 8 cO 4).bind fun x29=>
 (b7 8 cO 5).bind fun x31=>
 (b7 8 cO 6).bind fun x33=>
 (b7 8 cO 7).bind fun x35=>
 (sE N cO x19 x20 N x21 x23 x25 x27 x29 x31 x33 x35 0).bind fun p2=>
 aAd N cO p2.1 p2.2.1 p2.2.2.1 p2.2.2.2.1 p2.2.2.2.2.1 p2.2.2.2.2.2.1 p2.2.2.2.2.2.2.1 p2.2.2.2.2.2.2.2
def aF9 (N:Nat)(bJ:List Int):Option (List Int):=
 (bH 32 bJ).bind fun q_1=>
 some bJ
def aBF (N:Nat)(l1:List Int):Nat→Int→(List Int)→Option (List Int)
 |0,_,_=>none
 |m+1,x34,cE=>
  if decide (x34<8) then
   (b7 8 l1 x34).bind fun x37=>
   (shr .u32 x37 24).bind fun x50=>
   (shr .u32 x37 16).bind fun x53=>
   (shr .u32 x37 8).bind fun x56=>
   (b7 32 cE (a1a.wrap (4*x34))).bind fun x60=>
   (b7 32 (cE.set (a1e (a1a.wrap (4*x34))) (a1f.wrap x50)) (a1a.wrap ((a1a.wrap (4*x34))+1))).bind fun x61=>
   (b7 32 ((cE.set (a1e (a1a.wrap (4*x34))) (a1f.wrap x50)).set (a1e (a1a.wrap ((a1a.wrap (4*x34))+1))) (a1f.wrap x53)) (a1a.wrap ((a1a.wrap (4*x34))+2))).bind fun x62=>
   (b7 32 (((cE.set (a1e (a1a.wrap (4*x34))) (a1f.wrap x50)).set (a1e (a1a.wrap ((a1a.wrap (4*x34))+1))) (a1f.wrap x53)).set (a1e (a1a.wrap ((a1a.wrap (4*x34))+2))) (a1f.wrap x56)) (a1a.wrap ((a1a.wrap (4*x34))+3))).bind fun x63=>
   (aBF N l1 m) (a1a.wrap (x34+1)) ((((cE.set (a1e (a1a.wrap (4*x34))) (a1f.wrap x50)).set (a1e (a1a.wrap ((a1a.wrap (4*x34))+1))) (a1f.wrap x53)).set (a1e (a1a.wrap ((a1a.wrap (4*x34))+2))) (a1f.wrap x56)).set (a1e (a1a.wrap ((a1a.wrap (4*x34))+3))) (a1f.wrap x37))
  else
   some cE
def aFV (N:Nat)(l1:List Int):Option (List Int):=
 (bH 8 l1).bind fun q_2=>
 (aBF N l1 N 0 (a1d 32 0)).bind fun p3=>
 aF9 N p3
def aBB (N:Nat)(x16:List Int):Nat→Int→(List Int)→Option (List Int)
 |0,_,_=>none
 |m+1,vi,l1_3=>
  if decide ((a1a.wrap (vi+64))≤(x16.length:Int)) then
   (sub x16 vi (x16.length:Int)).bind fun x28=>
   (bH 8 l1_3).bind fun q_3=>
   (bH 64 (cpy (a1d 64 0) x28)).bind fun q_4=>
   (tL N l1_3 (cpy (a1d 64 0) x28)).bind fun x32=>
   (bH 8 x32).bind fun q_5=>
   (aBB N x16 m) (a1a.wrap (vi+64)) x32
  else
   some l1_3
def mS (N:Nat)(b:List Int):Option (List Int):=
 (b9 1 [] b).bind fun x11=>
 (aG1 N (a1b.wrap (b.length:Int))).bind fun x15=>
 (b9 1 x11 x15).bind fun x16=>
 (aAx N).bind fun x17=>
 (bH 8 x17).bind fun q=>
 (aBB N x16 N 0 x17).bind fun p4=>
 aFV N p4
def pW (N:Nat)(b:List Int):Option (List Int):=
 (mS N b).bind fun x5=>
 (bH 32 x5).bind fun q=>
 (mS N x5).bind fun x7=>
 (bH 32 x7).bind fun q_1=>
 some x7
def mH (N:Nat)(vh:bV):Option (List Int):=
 (mP N vh).bind fun x4=>
 (pW N x4).bind fun x5=>
 (bH 32 x5).bind fun q=>
 some x5
def aDA (N:Nat)(p:aL):Option (aC×Int):=
 (jM N p).bind fun x5=>
 if !x5 then
  some ((aC.mk 0 (a1d 32 0) []),6)
 else
  (mH N p.Genesis).bind fun x10=>
  (bH 32 x10).bind fun q=>
  some ((aC.mk 0 x10 []),0)
def aHy (N:Nat)(p:aL):Option (bA×Int):=
 (jM N p).bind fun x6=>
 if !x6 then
  some ((bA.mk 0 (a1d 32 0) 0 0 []),6)
 else
  (mH N p.Genesis).bind fun x12=>
  (bH 32 x12).bind fun q=>
  some ((bA.mk 0 x12 p.Genesis.Bits p.Genesis.Time [p.Genesis.Time]),0)
def aFg (N:Nat)(v:Int):Option aV:=
 (aDM N v).bind fun x9=>
 (aDA N x9).bind fun x12=>
 (aHy N x9).bind fun x17=>
 some (aV.mk x9 [] [x12.1] [x17.1] [])
def aQA (N:Nat)(script:List Int):Option (List (List Int)):=
 if(script.length:Int) != 4 then
  some []
 else
  (bB script 2).bind fun x7=>
  some [[x7]]
def oD (N:Nat)(vj:Int):Option (List Int):=
 some [1,1,a1f.wrap (1+(a1g vj 6)),5]
def uV (N:Nat)(c:aA)(vs:Int)(x29:(List (List Int)))(first:Int)(l3:List aW):Option (Int×(List bI)×(List aW)×Int×Int):=
 (oD N (a1f.wrap (a1h vs 4))).bind fun x56=>
 (b9 32 l3 [aW.mk first x56]).bind fun x59=>
 some (1,[bI.mk c.Out (a1c.wrap vs) x29],x59,0,if c.Output.Value<(a1a.wrap (a1g vs 3))then c.Output.Value else(a1a.wrap (a1g vs 3)))
def aFp (N:Nat)(c:aA)(vs:Int):Option (Int×(List bI)×(List aW)×Int×Int):=
 (aQA N c.Output.Script).bind fun x29=>
 if(a1g vs 2) == 1 then
  (oD N (a1f.wrap (a1h vs 2))).bind fun x46=>
  (b9 32 [] [aW.mk (a1a.wrap ((a1a.wrap (c.Output.Value-(if c.Output.Value<(a1a.wrap (a1g vs 3))then c.Output.Value else(a1a.wrap (a1g vs 3)))))-(a1a.wrap (a1h (a1a.wrap (c.Output.Value-(if c.Output.Value<(a1a.wrap (a1g vs 3))then c.Output.Value else(a1a.wrap (a1g vs 3))))) 3)))) x46]).bind fun x49=>
  uV N c vs x29 (a1a.wrap (a1h (a1a.wrap (c.Output.Value-(if c.Output.Value<(a1a.wrap (a1g vs 3))then c.Output.Value else(a1a.wrap (a1g vs 3))))) 3)) x49
 else
  uV N c vs x29 (a1a.wrap (c.Output.Value-(if c.Output.Value<(a1a.wrap (a1g vs 3))then c.Output.Value else(a1a.wrap (a1g vs 3))))) []
def iC (N:Nat)(b:List Int)(vn:Int):Option (List Int):=
 if decide (vn<253) then
  (kU N vn 1).bind fun x10=>
  (eT N b x10).bind fun x11=>
  some x11
 else
  if decide (vn<65536) then
   (kU N vn 2).bind fun x18=>
   (eT N [253] x18).bind fun x19=>
   (eT N b x19).bind fun x20=>
   some x20
  else
   if decide (vn<4294967296) then
    (kU N vn 4).bind fun x27=>
    (eT N [254] x27).bind fun x28=>
    (eT N b x28).bind fun x29=>
    some x29
   else
    (kU N vn 8).bind fun x33=>
    (eT N [255] x33).bind fun x34=>
    (eT N b x34).bind fun x35=>
    some x35
def aAs (N:Nat)(o:aB):Option (List Int):=
 (bH 32 o.Tx).bind fun q=>
 (fG N [] o.Tx).bind fun x5=>
 (dY N x5 o.Index).bind fun x8=>
 some x8
def wD (N:Nat)(b:List Int)(vn:Int):Option (List Int):=
 (kU N vn 8).bind fun x7=>
 (eT N b x7).bind fun x8=>
 some x8
def nT (N:Nat)(b vs:List Int):Option (List Int):=
 (iC N b (a1b.wrap (vs.length:Int))).bind fun x9=>
 (eT N x9 vs).bind fun x11=>
 some x11
def aBh (N:Nat)(o:aW):Option (List Int):=
 (wD N [] (a1b.wrap o.Value)).bind fun x6=>
 (nT N x6 o.Script).bind fun x9=>
 some x9
def aBm (N:Nat)(l0:List Int):Option (List Int):=
 some l0
def aCq (N:Nat)(t:aD)(bG:Bool)(x64:Int)(rec:Int→(List Int)→Option (List Int))(d9:List Int):Option (List Int):=
 rec (a1a.wrap (x64+1)) d9
def nE (N:Nat)(t:aD)(bG:Bool)(x64:Int)(x66:bI):Nat→Int→(List Int)→Option (List Int)
 |0,_,_=>none
 |m+1,x79,g8=>
  if decide (x79<(x66.Witness.length:Int)) then
   (bB x66.Witness x79).bind fun x81=>
   (nT N g8 x81).bind fun x85=>
   (nE N t bG x64 x66 m) (a1a.wrap (x79+1)) x85
  else
   some g8
def e9 (N:Nat)(t:aD)(bG:Bool):Nat→Int→(List Int)→Option (List Int)
 |0,_,_=>none
 |m+1,x64,aR=>
  if decide (x64<(t.Inputs.length:Int)) then
   (bB t.Inputs x64).bind fun x66=>
   if !bG then
    some aR
   else
    (iC N aR (a1b.wrap (x66.Witness.length:Int))).bind fun x75=>
    (nE N t bG x64 x66 N 0 x75).bind fun p6=>
    aCq N t bG x64 (e9 N t bG m) p6
  else
   some aR
def wE (N:Nat)(t:aD)(bG:Bool)(bJ:List Int):Option (List Int):=
 (dY N bJ t.Lock).bind fun x60=>
 (e9 N t bG N 0 x60).bind fun p4=>
 aBm N p4
def nB (N:Nat)(t:aD)(bG:Bool):Nat→Int→(List Int)→Option (List Int)
 |0,_,_=>none
 |m+1,x48,cE=>
  if decide (x48<(t.Outputs.length:Int)) then
   (bB t.Outputs x48).bind fun x50=>
   (aBh N x50).bind fun x54=>
   (b9 1 cE x54).bind fun x55=>
   (nB N t bG m) (a1a.wrap (x48+1)) x55
  else
   some cE
def wG (N:Nat)(t:aD)(bG:Bool)(l1:List Int):Option (List Int):=
 (iC N l1 (a1b.wrap (t.Outputs.length:Int))).bind fun x44=>
 (nB N t bG N 0 x44).bind fun p7=>
 wE N t bG p7
def nK (N:Nat)(t:aD)(bG:Bool):Nat→Int→(List Int)→Option (List Int)
 |0,_,_=>none
 |m+1,x26,l1_3=>
  if decide (x26<(t.Inputs.length:Int)) then
   (bB t.Inputs x26).bind fun x28=>
   (aAs N x28.Prev).bind fun x33=>
   (b9 1 l1_3 x33).bind fun x34=>
   (dY N x34 x28.Sequence).bind fun x37=>
   (nK N t bG m) (a1a.wrap (x26+1)) x37
  else
   some l1_3
def iA (N:Nat)(t:aD)(bG:Bool):Option (List Int):=
 (dY N [] t.Version).bind fun x16=>
 (iC N x16 (a1b.wrap (t.Inputs.length:Int))).bind fun x22=>
 (nK N t bG N 0 x22).bind fun p8=>
 wG N t bG p8
def aAQ (N:Nat)(t:aD):Option Bool:=
 (iA N t true).bind fun x60=>
 some (decide ((x60.length:Int)≤20000))
def aAA (N:Nat)(t:aD)(x39:Int)(rec:Int→Option (LR (Unit) (Bool))):Option (LR (Unit) (Bool)):=
 rec (a1a.wrap (x39+1))
def lD (N:Nat)(t:aD)(x39:Int)(x41:bI):Nat→Int→Option (LR (Unit) (Bool))
 |0,_=>none
 |m+1,x50=>
  if decide (x50<(x41.Witness.length:Int)) then
   (bB x41.Witness x50).bind fun x52=>
   if decide (520<(x52.length:Int)) then
    some (.ret false)
   else
    (lD N t x39 x41 m) (a1a.wrap (x50+1))
  else
   some (.brk ())
def jP (N:Nat)(t:aD):Nat→Int→Option (LR (Unit) (Bool))
 |0,_=>none
 |m+1,x39=>
  if decide (x39<(t.Inputs.length:Int)) then
   (bB t.Inputs x39).bind fun x41=>
   if decide (32<(x41.Witness.length:Int)) then
    some (.ret false)
   else
    (lD N t x39 x41 N 0).bind fun q=>match q with
     | .ret v=>some (.ret v)
     | .brk p6=>
      aAA N t x39 (jP N t m)
  else
   some (.brk ())
def u4 (N:Nat)(t:aD):Option Bool:=
 (jP N t N 0).bind fun q=>match q with
  | .ret v=>some v
  | .brk p4=>
   aAQ N t
def u7 (N:Nat)(t:aD)(x22:Int)(rec:Int→Option (LR (Unit) (Bool)))(x34:Bool):Option (LR (Unit) (Bool)):=
 if x34 then
  some (.ret false)
 else
  rec (a1a.wrap (x22+1))
def iO (N:Nat)(t:aD):Nat→Int→Option (LR (Unit) (Bool))
 |0,_=>none
 |m+1,x22=>
  if decide (x22<(t.Outputs.length:Int)) then
   (bB t.Outputs x22).bind fun x24=>
   if decide (x24.Value<0) then
    u7 N t x22 (iO N t m) true
   else
    u7 N t x22 (iO N t m) (decide (520<(x24.Script.length:Int)))
  else
   some (.brk ())
def qP (N:Nat)(t:aD)(x18:Bool):Option Bool:=
 if x18 then
  some false
 else
  (iO N t N 0).bind fun q=>match q with
   | .ret v=>some v
   | .brk p7=>
    u4 N t
def g5 (N:Nat)(t:aD):Option Bool:=
 if decide (64<(t.Inputs.length:Int)) then
  qP N t true
 else
  qP N t (decide (64<(t.Outputs.length:Int)))
def aBa (N:Nat)(t:aD):Option (List Int):=
 (g5 N t).bind fun x4=>
 if !x4 then
  some [0,0,0,0,0,0,0,0,0,0,0,0,0,0,0,0,0,0,0,0,0,0,0,0,0,0,0,0,0,0,0,0]
 else
  (iA N t false).bind fun x8=>
  (pW N x8).bind fun x9=>
  (bH 32 x9).bind fun q=>
  some x9
def aBt (N:Nat)(fees:Int)(l0:List aD):Option ((List aD)×Int):=
 some (l0,fees)
def tY (N:Nat)(p:aL)(l:aC)(vs k:Int)(rec:Int→Int→(List aD)→(List aA)→Option (Int×(List aD)))(aMB:Int)(eE:List aD)(dA:List aA):Option (Int×(List aD)):=
 rec aMB (a1f.wrap (k+1)) eE dA
def tT (N:Nat)(p:aL)(l:aC)(vs dD k:Int)(l2:List aD)(l3:List aA)(vi:Int)(rec:Int→Option (Int×(List aD)×(List aA))):Option (Int×(List aD)×(List aA)):=
 rec (a1a.wrap (vi+1))
def uJ (N:Nat)(p:aL)(l:aC)(vs dD k:Int)(x69:Int×(List bI)×(List aW)×Int×Int)(x75:List aD)(rec:Int→Option (Int×(List aD)×(List aA)))(iD:List aA):Option (Int×(List aD)×(List aA)):=
 some (a1a.wrap (dD+x69.2.2.2.2),x75,iD)
def kT (N:Nat)(p:aL)(l:aC)(vs dD k:Int)(x69:Int×(List bI)×(List aW)×Int×Int)(x75:List aD)(x89:(List Int)):Nat→Int→(List aA)→Option (List aA)
 |0,_,_=>none
 |m+1,x93,aCH=>
  if decide (x93<(x69.2.2.1.length:Int)) then
   (bB x69.2.2.1 x93).bind fun x96=>
   (b9 88 aCH [aA.mk (aB.mk x89 (a1c.wrap x93)) x96 (a1a.wrap (l.Height+1)) false]).bind fun aEj=>
   (kT N p l vs dD k x69 x75 x89 m) (a1a.wrap (x93+1)) aEj
  else
   some aCH
def kP (N:Nat)(p:aL)(l:aC)(vs dD k:Int)(x69:Int×(List bI)×(List aW)×Int×Int)(x75:List aD)(rec:Int→Option (Int×(List aD)×(List aA)))(fN:List aA):Option (Int×(List aD)×(List aA)):=
 (aBa N (aD.mk x69.1 x69.2.1 x69.2.2.1 x69.2.2.2.1)).bind fun x89=>
 (bH 32 x89).bind fun q=>
 (kT N p l vs dD k x69 x75 x89 N 0 fN).bind fun p9=>
 uJ N p l vs dD k x69 x75 rec p9
def kO (N:Nat)(p:aL)(l:aC)(vs dD k:Int)(l2:List aD)(l3:List aA)(vi x46:Int)(x49:aA)(rec:Int→Option (Int×(List aD)×(List aA)))(x63:Bool):Option (Int×(List aD)×(List aA)):=
 if x63 then
  tT N p l vs dD k l2 l3 vi rec
 else
  (aFp N x49 (a1f.wrap (vs+k))).bind fun x69=>
  (b9 64 l2 [aD.mk x69.1 x69.2.1 x69.2.2.1 x69.2.2.2.1]).bind fun x75=>
  if decide (a1a.wrap (x46+1)=(l3.length:Int)) then
   (sub l3 0 x46).bind fun x82=>
   (b9 88 x82 []).bind fun x87=>
   kP N p l vs dD k x69 x75 rec x87
  else
   (sub l3 0 x46).bind fun aWI=>
   (sub l3 (a1a.wrap (x46+1)) (l3.length:Int)).bind fun x86=>
   (b9 88 aWI x86).bind fun aPy=>
   kP N p l vs dD k x69 x75 rec aPy
def c6 (N:Nat)(p:aL)(l:aC)(vs dD k:Int)(l2:List aD)(l3:List aA):Nat→Int→Option (Int×(List aD)×(List aA))
 |0,_=>none
 |m+1,vi=>
  if decide (vi<(l3.length:Int)) then
   (rem (a1a.wrap ((a1a.wrap ((a1a.wrap (a1f.wrap (a1h vs 4)))+(a1a.wrap k)))+vi)) (l3.length:Int)).bind fun x46=>
   (bB l3 x46).bind fun x49=>
   if x49.Coinbase then
    kO N p l vs dD k l2 l3 vi x46 x49 (c6 N p l vs dD k l2 l3 m) (decide ((a1a.wrap ((a1a.wrap (l.Height+1))-x49.Height))<p.Maturity))
   else
    kO N p l vs dD k l2 l3 vi x46 x49 (c6 N p l vs dD k l2 l3 m) false
  else
   some (dD,l2,l3)
def iY (N:Nat)(p:aL)(l:aC)(vs:Int):Nat→Int→Int→(List aD)→(List aA)→Option (Int×(List aD))
 |0,_,_,_,_=>none
 |m+1,dD,k,l2,l3=>
  if decide (k<(a1g vs 4)) then
   (c6 N p l vs dD k l2 l3 N 0).bind fun p4=>
   tY N p l vs k (iY N p l vs m) p4.1 p4.2.1 p4.2.2
  else
   some (dD,l2)
def r6 (N:Nat)(p:aL)(l:aC)(vs:Int):Option ((List aD)×Int):=
 (b9 88 [] l.Coins).bind fun x23=>
 (iY N p l vs N 0 0 [] x23).bind fun p2=>
 aBt N p2.1 p2.2
def aGb (N:Nat)(vs:Int):Option Int:=
 some vs
def uO (N:Nat)(tD vn:Int)(rec:Int→Int→Option Int)(x25:Bool):Option Int:=
 if x25 then
  rec (a1a.wrap (a1h tD 2)) (a1a.wrap (vn-1))
 else
  some tD
def jX (N:Nat):Nat→Int→Int→Option Int
 |0,_,_=>none
 |m+1,tD,vn=>
  if decide (0<vn) then
   uO N tD vn (jX N m) (decide (0<tD))
  else
   uO N tD vn (jX N m) false
def pK (N:Nat)(p:aL)(height:Int)(x13:Bool):Option Int:=
 if x13 then
  some 0
 else
  (quo .i64 height p.Halving).bind fun x19=>
  (jX N N p.Subsidy x19).bind fun p3=>
  aGb N p3
def nP (N:Nat)(p:aL)(height:Int):Option Int:=
 (jM N p).bind fun x8=>
 if !x8 then
  pK N p height true
 else
  pK N p height (decide (height<0))
def aOV (N:Nat):Option aB:=
 some (aB.mk (a1d 32 0) 4294967295)
def aEG (N:Nat)(height value:Int)(script:List Int):Option aD:=
 (aOV N).bind fun x7=>
 some (aD.mk 1 [bI.mk x7 (a1c.wrap height) []] [aW.mk value script] 0)
def y9 (N:Nat)(t:aD):Option (List Int):=
 (g5 N t).bind fun x4=>
 if !x4 then
  some [0,0,0,0,0,0,0,0,0,0,0,0,0,0,0,0,0,0,0,0,0,0,0,0,0,0,0,0,0,0,0,0]
 else
  (iA N t true).bind fun x8=>
  (pW N x8).bind fun x9=>
  (bH 32 x9).bind fun q=>
  some x9
def aJv (N:Nat)(l0:List Int):Option (List Int):=
 some l0
def vC (N:Nat)(l:List (List Int)):Nat→Int→(List Int)→Option (List Int)
 |0,_,_=>none
 |m+1,x8,aR=>
  if decide (x8<(l.length:Int)) then
   (bB l x8).bind fun x10=>
   (eT N aR x10).bind fun x14=>
   (vC N l m) (a1a.wrap (x8+1)) x14
  else
   some aR
def oC (N:Nat)(l:List (List Int)):Option (List Int):=
 (vC N l N 0 []).bind fun p2=>
 aJv N p2
def yU (N:Nat)(l vr:List Int):Option (List Int):=
 (bH 32 l).bind fun q=>
 (bH 32 vr).bind fun q_1=>
 (oC N [[1],l,vr]).bind fun x9=>
 (mS N x9).bind fun x10=>
 (bH 32 x10).bind fun q_2=>
 some x10
def aCb (N:Nat)(l0:List (List (List Int))):Option (List (List (List Int))):=
 some l0
def vY (N:Nat)(aR:List (List (List Int)))(rec:(List (List Int))→(List (List (List Int)))→Option (List (List (List Int))))(l1:List (List Int)):Option (List (List (List Int))):=
 (aHG 32 l1).bind fun q=>
 (b9 24 aR [l1]).bind fun x45=>
 rec l1 x45
def kV (N:Nat)(l_1:List (List Int))(aR:List (List (List Int)))(vi:Int)(rec:Int→(List (List Int))→Option (List (List Int)))(cE:List (List Int)):Option (List (List Int)):=
 rec (a1a.wrap (vi+2)) cE
def dX (N:Nat)(l_1:List (List Int))(aR:List (List (List Int))):Nat→Int→(List (List Int))→Option (List (List Int))
 |0,_,_=>none
 |m+1,vi,bJ=>
  if decide (vi<(l_1.length:Int)) then
   if decide ((a1a.wrap (vi+1))<(l_1.length:Int)) then
    (bB l_1 vi).bind fun x25=>
    (bH 32 x25).bind fun q_1=>
    (bB l_1 (a1a.wrap (vi+1))).bind fun x30=>
    (bH 32 x30).bind fun q_2=>
    (yU N x25 x30).bind fun x32=>
    (bH 32 x32).bind fun q_3=>
    (b9 32 bJ [x32]).bind fun x34=>
    kV N l_1 aR vi (dX N l_1 aR m) x34
   else
    (bB l_1 vi).bind fun x38=>
    (bH 32 x38).bind fun q_4=>
    (b9 32 bJ [x38]).bind fun x41=>
    kV N l_1 aR vi (dX N l_1 aR m) x41
  else
   some bJ
def i9 (N:Nat):Nat→(List (List Int))→(List (List (List Int)))→Option (List (List (List Int)))
 |0,_,_=>none
 |m+1,l_1,aR=>
  if decide (1<(l_1.length:Int)) then
   (dX N l_1 aR N 0 []).bind fun p4=>
   vY N aR (i9 N m) p4
  else
   some aR
def aBR (N:Nat)(l:List (List Int)):Option (List (List (List Int))):=
 (i9 N N l [l]).bind fun p2=>
 aCb N p2
def nO (N:Nat)(l:List (List Int))(x11:Bool):Option (List Int):=
 if x11 then
  some [0,0,0,0,0,0,0,0,0,0,0,0,0,0,0,0,0,0,0,0,0,0,0,0,0,0,0,0,0,0,0,0]
 else
  (aBR N l).bind fun x14=>
  (bB x14 (a1a.wrap ((x14.length:Int)-1))).bind fun x19=>
  (bB x19 0).bind fun x21=>
  (bH 32 x21).bind fun q=>
  some x21
def uS (N:Nat)(l:List (List Int)):Option (List Int):=
 if(l.length:Int) == 0 then
  nO N l true
 else
  nO N l (decide (1024<(l.length:Int)))
def aAP (N:Nat)(l1:List (List Int)):Option (List Int):=
 (aHG 32 l1).bind fun q=>
 (uS N l1).bind fun x19=>
 (bH 32 x19).bind fun q_1=>
 some x19
def gH (N:Nat)(l:List aD):Nat→Int→(List (List Int))→Option (List (List Int))
 |0,_,_=>none
 |m+1,x8,bJ=>
  if decide (x8<(l.length:Int)) then
   (bB l x8).bind fun x10=>
   (y9 N x10).bind fun x14=>
   (bH 32 x14).bind fun q_2=>
   (b9 32 bJ [x14]).bind fun x16=>
   (gH N l m) (a1a.wrap (x8+1)) x16
  else
   some bJ
def tV (N:Nat)(l:List aD):Option (List Int):=
 (gH N l N 0 []).bind fun p2=>
 aAP N p2
def aFH (N:Nat)(vs:Int):Option Int:=
 some (a1c.wrap (20+(a1c.wrap ((a1c.wrap (a1g vs 8))*15))))
def wJ (N:Nat)(x y:Int):Option (Int×Int):=
 (shr .u64 x 32).bind fun x17=>
 (shr .u64 y 32).bind fun x21=>
 (shr .u64 (a1b.wrap ((bits .and .u64 x 4294967295)*(bits .and .u64 y 4294967295))) 32).bind fun x29=>
 (shr .u64 (a1b.wrap ((a1b.wrap (x17*(bits .and .u64 y 4294967295)))+x29)) 32).bind fun x34=>
 (shr .u64 (a1b.wrap ((bits .and .u64 (a1b.wrap ((a1b.wrap (x17*(bits .and .u64 y 4294967295)))+x29)) 4294967295)+(a1b.wrap ((bits .and .u64 x 4294967295)*x21)))) 32).bind fun x46=>
 some (a1b.wrap ((a1b.wrap ((a1b.wrap (x17*x21))+x34))+x46),a1b.wrap (x*y))
def aJ3 (N:Nat)(l2:List Int):Option ((List Int)×(List Int)):=
 (bH 8 l2).bind fun q=>
 (aNP l2 0 4).bind fun x64=>
 (aNP l2 4 8).bind fun x67=>
 (bH 4 (cpy (a1d 4 0) x67)).bind fun q_1=>
 (bH 4 (cpy (a1d 4 0) x64)).bind fun q_2=>
 some (cpy (a1d 4 0) x67,cpy (a1d 4 0) x64)
def aFY (N:Nat)(va b:List Int)(x15:Int)(rec:Int→(List Int)→Option (List Int))(dN:List Int):Option (List Int):=
 rec (a1a.wrap (x15+1)) dN
def aFI (N:Nat)(va b:List Int)(x15:Int)(rec:Int→(List Int)→Option (List Int))(aFf:Int)(mT:List Int):Option (List Int):=
 (b7 8 mT (a1a.wrap (x15+4))).bind fun x61=>
 aFY N va b x15 rec (mT.set (a1e (a1a.wrap (x15+4))) aFf)
def wZ (N:Nat)(va b:List Int)(x15:Int):Nat→Int→Int→(List Int)→Option (Int×(List Int))
 |0,_,_,_=>none
 |m+1,carry_1,x18,iE=>
  if decide (x18<4) then
   (b7 4 va x15).bind fun x23=>
   (b7 4 b x18).bind fun x26=>
   (wJ N x23 x26).bind fun x28=>
   (b7 8 iE (a1a.wrap (x15+x18))).bind fun x35=>
   (nH N x35 x28.2 0).bind fun x38=>
   (nH N x38.1 carry_1 0).bind fun x44=>
   (wZ N va b x15 m) (a1b.wrap ((a1b.wrap (x28.1+x38.2))+x44.2)) (a1a.wrap (x18+1)) (iE.set (a1e (a1a.wrap (x15+x18))) x44.1)
  else
   some (carry_1,iE)
def o7 (N:Nat)(va b:List Int):Nat→Int→(List Int)→Option (List Int)
 |0,_,_=>none
 |m+1,x15,l4=>
  if decide (x15<4) then
   (wZ N va b x15 N 0 0 l4).bind fun p5=>
   aFI N va b x15 (o7 N va b m) p5.1 p5.2
  else
   some l4
def aHk (N:Nat)(va b:List Int):Option ((List Int)×(List Int)):=
 (o7 N va b N 0 (a1d 8 0)).bind fun p2=>
 aJ3 N p2
def aCw (N:Nat)(x y c:Int):Option (Int×Int):=aMS x y c
def aGr (N:Nat)(borrow:Int)(l1:List Int):Option ((List Int)×Bool):=
 (bH 4 l1).bind fun q=>
 some (l1,borrow == 1)
def xE (N:Nat)(va b:List Int):Nat→Int→Int→(List Int)→Option (Int×(List Int))
 |0,_,_,_=>none
 |m+1,borrow_1,x9,l3=>
  if decide (x9<4) then
   (b7 4 va x9).bind fun x15=>
   (b7 4 b x9).bind fun x18=>
   (aCw N x15 x18 borrow_1).bind fun x21=>
   (b7 4 l3 x9).bind fun x24=>
   (xE N va b m) x21.2 (a1a.wrap (x9+1)) (l3.set (a1e x9) x21.1)
  else
   some (borrow_1,l3)
def aG2 (N:Nat)(va b:List Int):Option ((List Int)×Bool):=
 (xE N va b N 0 0 (a1d 4 0)).bind fun p2=>
 aGr N p2.1 p2.2
def aFJ (N:Nat)(l0 l1:List Int):Option ((List Int)×(List Int)×Bool):=
 (bH 4 l0).bind fun q_2=>
 (bH 4 l1).bind fun q_3=>
 some (l0,l1,true)
def aCp (N:Nat)(lo b:List Int)(vi:Int)(rec:Int→(List Int)→(List Int)→Option ((List Int)×(List Int)))(eE dA:List Int):Option ((List Int)×(List Int)):=
 rec (a1a.wrap (vi-1)) eE dA
def xW (N:Nat)(lo b:List Int)(vi:Int)(l2 fN:List Int)(rec:Int→(List Int)→(List Int)→Option ((List Int)×(List Int)))(x43:Bool):Option ((List Int)×(List Int)):=
 if x43 then
  (bH 4 fN).bind fun q_6=>
  (aG2 N fN b).bind fun x47=>
  (bH 4 x47.1).bind fun q_7=>
  (b7 4 l2 (a1a.wrap (a1h vi 64))).bind fun x52=>
  (shl .u64 1 (a1g vi 64)).bind fun x56=>
  aCp N lo b vi rec (l2.set (a1e (a1a.wrap (a1h vi 64))) (bits .or .u64 x52 x56)) x47.1
 else
  aCp N lo b vi rec l2 fN
def xM (N:Nat)(lo b:List Int)(vi:Int)(l2:List Int)(x23:Bool)(rec:Int→(List Int)→(List Int)→Option ((List Int)×(List Int)))(fN:List Int):Option ((List Int)×(List Int)):=
 if x23 then
  xW N lo b vi l2 fN rec true
 else
  (bH 4 fN).bind fun q_8=>
  (oF N fN b).bind fun x41=>
  xW N lo b vi l2 fN rec (decide (0≤x41))
def hY (N:Nat)(lo b:List Int):Nat→Int→(List Int)→(List Int)→Option ((List Int)×(List Int))
 |0,_,_,_=>none
 |m+1,vi,l2,l3=>
  if decide (0≤vi) then
   (bH 4 l3).bind fun q_4=>
   (tO N l3 255).bind fun x23=>
   (aDW N l3 l3).bind fun x27=>
   (bH 4 x27.1).bind fun q_5=>
   (bH 4 lo).bind fun q_9=>
   (tO N lo vi).bind fun x32=>
   if x32 then
    (b7 4 x27.1 0).bind fun x33=>
    xM N lo b vi l2 x23 (hY N lo b m) (x27.1.set (a1e 0) (bits .or .u64 x33 1))
   else
    xM N lo b vi l2 x23 (hY N lo b m) x27.1
  else
   some (l2,l3)
def aG9 (N:Nat)(hi lo b:List Int):Option ((List Int)×(List Int)×Bool):=
 (bH 4 b).bind fun q=>
 (bH 4 hi).bind fun q_1=>
 (oF N b hi).bind fun x13=>
 if decide (x13≤0) then
  some (a1d 4 0,a1d 4 0,false)
 else
  (hY N lo b N 255 (a1d 4 0) hi).bind fun p2=>
  aFJ N p2.1 p2.2
def qC (N:Nat)(t:List Int)(x:Int)(rec:Int→Option (LR (Unit) (Int))):Option (LR (Unit) (Int)):=
 rec (a1a.wrap (x+1))
def pI (N:Nat)(t:List Int)(x:Int)(rec:Int→Option (LR (Unit) (Int)))(l1:List Int):Option (LR (Unit) (Int)):=
 (bH 4 l1).bind fun q_1=>
 (aDZ N l1).bind fun x31=>
 if decide (x31≤23) then
  (shl .u32 (a1c.wrap x) 24).bind fun x35=>
  (b7 4 l1 0).bind fun x36=>
  some (.ret (bits .or .u32 x35 (a1c.wrap x36)))
 else
  qC N t x rec
def eD (N:Nat)(t:List Int):Nat→Int→Option (LR (Unit) (Int))
 |0,_=>none
 |m+1,x=>
  if decide (x≤3) then
   (aDU N t (a1a.wrap (8*(a1a.wrap (3-x))))).bind fun x16=>
   (bH 4 x16).bind fun q_2=>
   (tN N x16 (a1a.wrap (8*(a1a.wrap (3-x))))).bind fun x21=>
   (oF N x21 t).bind fun x23=>
   if x23 != 0 then
    qC N t x (eD N t m)
   else
    pI N t x (eD N t m) x16
  else
   (tN N t (a1a.wrap (8*(a1a.wrap (x-3))))).bind fun x29=>
   (bH 4 x29).bind fun q_3=>
   pI N t x (eD N t m) x29
def aAB (N:Nat)(t:List Int):Option Int:=
 (bH 4 t).bind fun q=>
 (n4 N t).bind fun x6=>
 if x6 then
  some 0
 else
  (eD N t N 1).bind fun q=>match q with
   | .ret v=>some v
   | .brk p1=>
    none
def rA (N:Nat)(aR:List Int):Option (Int×Int):=
 (bH 4 aR).bind fun q_5=>
 (aAB N aR).bind fun x82=>
 some (x82,0)
def qT (N:Nat)(l0:List Int):Option (Int×Int):=
 (bH 4 l0).bind fun q_6=>
 (n4 N l0).bind fun x79=>
 if x79 then
  (gW N 1).bind fun x80=>
  (bH 4 x80).bind fun q_7=>
  rA N x80
 else
  rA N l0
def qW (N:Nat)(p:aL)(x63:(List Int)×(List Int)×Bool)(x75:Bool):Option (Int×Int):=
 if x75 then
  (bH 4 p.Limit).bind fun q_8=>
  qT N p.Limit
 else
  qT N x63.1
def qV (N:Nat)(p:aL)(x24:(List Int)×Int)(vP:Int):Option (Int×Int):=
 (gW N (if(a1b.wrap (4*(a1b.wrap ((a1b.wrap p.Window)*(a1b.wrap p.Spacing)))))<(if(a1b.wrap (a1h (a1b.wrap ((a1b.wrap p.Window)*(a1b.wrap p.Spacing))) 4))>vP then(a1b.wrap (a1h (a1b.wrap ((a1b.wrap p.Window)*(a1b.wrap p.Spacing))) 4))else vP)then(a1b.wrap (4*(a1b.wrap ((a1b.wrap p.Window)*(a1b.wrap p.Spacing)))))else(if(a1b.wrap (a1h (a1b.wrap ((a1b.wrap p.Window)*(a1b.wrap p.Spacing))) 4))>vP then(a1b.wrap (a1h (a1b.wrap ((a1b.wrap p.Window)*(a1b.wrap p.Spacing))) 4))else vP))).bind fun x54=>
 (aHk N x24.1 x54).bind fun x55=>
 (bH 4 x55.1).bind fun q_1=>
 (bH 4 x55.2).bind fun q_2=>
 (gW N (a1b.wrap ((a1b.wrap p.Window)*(a1b.wrap p.Spacing)))).bind fun x62=>
 (aG9 N x55.1 x55.2 x62).bind fun x63=>
 (bH 4 x63.1).bind fun q_3=>
 (bH 4 x63.2.1).bind fun q_4=>
 if !x63.2.2 then
  qW N p x63 true
 else
  (bH 4 p.Limit).bind fun q_9=>
  (oF N x63.1 p.Limit).bind fun x73=>
  qW N p x63 (decide (0<x73))
def aBu (N:Nat)(p:aL)(k6 first last:Int):Option (Int×Int):=
 (jM N p).bind fun x20=>
 if !x20 then
  some (0,6)
 else
  (o8 N k6).bind fun x24=>
  (bH 4 x24.1).bind fun q=>
  if x24.2 != 0 then
   some (0,x24.2)
  else
   if decide (first<last) then
    qV N p x24 (a1b.wrap (a1c.wrap (last-first)))
   else
    qV N p x24 0
def lF (N:Nat)(p:aL)(c:bA)(x30:Bool):Option (Int×Int):=
 if x30 then
  some (0,6)
 else
  (rem (a1a.wrap (c.Height+1)) p.Window).bind fun x36=>
  if x36 != 0 then
   some (c.Bits,0)
  else
   (bB c.Times (a1a.wrap ((c.Times.length:Int)-1))).bind fun x51=>
   (aBu N p c.Bits c.First x51).bind fun x53=>
   some (x53.1,x53.2)
def y4 (N:Nat)(p:aL)(c:bA):Option (Int×Int):=
 (jM N p).bind fun x7=>
 if !x7 then
  lF N p c true
 else
  if decide (c.Height<0) then
   lF N p c true
  else
   if decide (16777216<c.Height) then
    lF N p c true
   else
    if(c.Times.length:Int) == 0 then
     lF N p c true
    else
     lF N p c (decide (11<(c.Times.length:Int)))
def aBO (N:Nat)(l0:List Int):Option Int:=
 if(l0.length:Int) == 0 then
  some 0
 else
  (bB l0 (a1a.wrap (a1h (l0.length:Int) 2))).bind fun x46=>
  some x46
def aB8 (N:Nat)(l:List Int)(x9:Int)(rec:Int→(List Int)→Option (List Int))(d9:List Int):Option (List Int):=
 rec (a1a.wrap (x9+1)) d9
def wM (N:Nat)(l:List Int)(x9:Int)(aR:List Int)(x11:Int)(rec:Int→(List Int)→Option (List Int))(vi:Int):Option (List Int):=
 (sub aR 0 vi).bind fun x30=>
 (sub aR vi (aR.length:Int)).bind fun x35=>
 (b9 4 [x11] x35).bind fun x36=>
 (b9 4 x30 x36).bind fun x37=>
 aB8 N l x9 rec x37
def rD (N:Nat)(l:List Int)(x9:Int)(aR:List Int)(x11 iV:Int)(rec:Int→Option Int)(x24:Bool):Option Int:=
 if x24 then
  rec (a1a.wrap (iV+1))
 else
  some iV
def jF (N:Nat)(l:List Int)(x9:Int)(aR:List Int)(x11:Int):Nat→Int→Option Int
 |0,_=>none
 |m+1,iV=>
  if decide (iV<(aR.length:Int)) then
   (bB aR iV).bind fun x20=>
   rD N l x9 aR x11 iV (jF N l x9 aR x11 m) (decide (x20≤x11))
  else
   rD N l x9 aR x11 iV (jF N l x9 aR x11 m) false
def jB (N:Nat)(l:List Int):Nat→Int→(List Int)→Option (List Int)
 |0,_,_=>none
 |m+1,x9,aR=>
  if decide (x9<(l.length:Int)) then
   (bB l x9).bind fun x11=>
   (jF N l x9 aR x11 N 0).bind fun p5=>
   wM N l x9 aR x11 (jB N l m) p5
  else
   some aR
def tF (N:Nat)(l:List Int):Option Int:=
 (jB N l N 0 []).bind fun p2=>
 aBO N p2
def yA (N:Nat)(l1:List Int):Option (List Int):=
 (bH 4 l1).bind fun q=>
 some l1
def mO (N:Nat)(vh:List Int):Nat→Int→(List Int)→Option (List Int)
 |0,_,_=>none
 |m+1,x6,l2=>
  if decide (x6<32) then
   (b7 4 l2 (a1a.wrap (a1h (a1a.wrap (31-x6)) 8))).bind fun x13=>
   (b7 32 vh x6).bind fun x16=>
   (shl .u64 (a1b.wrap x16) (a1a.wrap (8*(a1g (a1a.wrap (31-x6)) 8)))).bind fun x22=>
   (mO N vh m) (a1a.wrap (x6+1)) (l2.set (a1e (a1a.wrap (a1h (a1a.wrap (31-x6)) 8))) (bits .or .u64 x13 x22))
  else
   some l2
def wQ (N:Nat)(vh:List Int):Option (List Int):=
 (mO N vh N 0 (a1d 4 0)).bind fun p2=>
 yA N p2
def aCX (N:Nat)(x4:Bool):Option Bool:=
 some x4
def aAp (N:Nat)(vh:List Int)(k6:Int):Option Bool:=
 (o8 N k6).bind fun x9=>
 (bH 4 x9.1).bind fun q=>
 if x9.2 == 0 then
  (bH 32 vh).bind fun q_1=>
  (wQ N vh).bind fun x16=>
  (oF N x16 x9.1).bind fun x18=>
  aCX N (decide (x18≤0))
 else
  aCX N false
def aKa (N:Nat)(p:aL)(c:bA)(n7:List Int)(vby:Int)(x15:Int×Int)(x25 c1:Int):Option bV:=
 some (bV.mk p.Version c.Hash n7 (a1c.wrap ((a1c.wrap (x25+1))+vby)) x15.1 c1)
def xL (N:Nat)(p:aL)(c:bA)(n7:List Int)(vby:Int)(x15:Int×Int)(x25:Int):Nat→Int→Option (LR (Int) (bV))
 |0,_=>none
 |m+1,aCO=>
  if decide (aCO<20000) then
   (mH N (bV.mk p.Version c.Hash n7 (a1c.wrap ((a1c.wrap (x25+1))+vby)) x15.1 aCO)).bind fun x40=>
   (aAp N x40 x15.1).bind fun x42=>
   if x42 then
    some (.ret (bV.mk p.Version c.Hash n7 (a1c.wrap ((a1c.wrap (x25+1))+vby)) x15.1 aCO))
   else
    (xL N p c n7 vby x15 x25 m) (a1c.wrap (aCO+1))
  else
   some (.brk aCO)
def aGV (N:Nat)(p:aL)(c:bA)(n7:List Int)(vby:Int):Option bV:=
 (y4 N p c).bind fun x15=>
 (bH 32 c.Hash).bind fun q=>
 (bH 32 n7).bind fun q_1=>
 (tF N c.Times).bind fun x25=>
 (xL N p c n7 vby x15 x25 N 0).bind fun q=>match q with
  | .ret v=>some v
  | .brk p2=>
   aKa N p c n7 vby x15 x25 p2
def aE7 (N:Nat)(p:aL)(l:aC)(c:bA)(vs:Int):Option aH:=
 (r6 N p l vs).bind fun x16=>
 (nP N p (a1a.wrap (l.Height+1))).bind fun x26=>
 (oD N (a1f.wrap (a1h vs 8))).bind fun x31=>
 (aEG N (a1a.wrap (l.Height+1)) (a1a.wrap (x26+x16.2)) x31).bind fun x32=>
 (b9 64 [x32] x16.1).bind fun x35=>
 (tV N x35).bind fun x41=>
 (aFH N vs).bind fun x43=>
 (aGV N p c x41 x43).bind fun x44=>
 some (aH.mk x44 x35)
def aA1 (N:Nat)(va b:aB):Option Int:=
 if decide (va.Index<b.Index) then
  some (-1)
 else
  if decide (b.Index<va.Index) then
   some 1
  else
   some 0
def t8 (N:Nat)(va b:aB):Nat→Int→Option (LR (Unit) (Int))
 |0,_=>none
 |m+1,x6=>
  if decide (x6<32) then
   (b7 32 va.Tx x6).bind fun x11=>
   (b7 32 b.Tx x6).bind fun x15=>
   if decide (x11<x15) then
    some (.ret (-1))
   else
    if decide (x15<x11) then
     some (.ret 1)
    else
     (t8 N va b m) (a1a.wrap (x6+1))
  else
   some (.brk ())
def u5 (N:Nat)(va b:aB):Option Int:=
 (t8 N va b N 0).bind fun q=>match q with
  | .ret v=>some v
  | .brk p2=>
   aA1 N va b
def aHS (N:Nat):Option Bool:=
 some true
def oQ (N:Nat)(l:aC)(sum x23:Int)(x26:aA)(rec:Int→Int→Option (LR (Unit) (Bool)))(x71:Bool):Option (LR (Unit) (Bool)):=
 if x71 then
  some (.ret false)
 else
  if decide (2100000000000000<(a1a.wrap (sum+x26.Output.Value))) then
   some (.ret false)
  else
   rec (a1a.wrap (sum+x26.Output.Value)) (a1a.wrap (x23+1))
def iW (N:Nat)(l:aC)(sum x23:Int)(x26:aA)(rec:Int→Int→Option (LR (Unit) (Bool)))(x54:Bool):Option (LR (Unit) (Bool)):=
 if x54 then
  some (.ret false)
 else
  if decide (x26.Output.Value<0) then
   oQ N l sum x23 x26 rec true
  else
   if decide (2100000000000000<x26.Output.Value) then
    oQ N l sum x23 x26 rec true
   else
    oQ N l sum x23 x26 rec (decide (520<(x26.Output.Script.length:Int)))
def eO (N:Nat)(l:aC):Nat→Int→Int→Option (LR (Unit) (Bool))
 |0,_,_=>none
 |m+1,sum,x23=>
  if decide (x23<(l.Coins.length:Int)) then
   (bB l.Coins x23).bind fun x26=>
   if decide (0<x23) then
    (bB l.Coins (a1a.wrap (x23-1))).bind fun x35=>
    (u5 N x35.Out x26.Out).bind fun x40=>
    if decide (0≤x40) then
     iW N l sum x23 x26 (eO N l m) true
    else
     if decide (x26.Height<1) then
      iW N l sum x23 x26 (eO N l m) true
     else
      iW N l sum x23 x26 (eO N l m) (decide (l.Height<x26.Height))
   else
    if decide (x26.Height<1) then
     iW N l sum x23 x26 (eO N l m) true
    else
     iW N l sum x23 x26 (eO N l m) (decide (l.Height<x26.Height))
  else
   some (.brk ())
def mC (N:Nat)(l:aC)(x19:Bool):Option Bool:=
 if x19 then
  some false
 else
  (eO N l N 0 0).bind fun q=>match q with
   | .ret v=>some v
   | .brk p3=>
    aHS N
def rQ (N:Nat)(l:aC):Option Bool:=
 if decide (l.Height<0) then
  mC N l true
 else
  if decide (16777216<l.Height) then
   mC N l true
  else
   mC N l (decide (100000<(l.Coins.length:Int)))
def sG (N:Nat)(t:aD)(bG:Bool):Option ((List Int)×Int):=
 (g5 N t).bind fun x7=>
 if !x7 then
  some ([],4)
 else
  (iA N t bG).bind fun x11=>
  some (x11,0)
def aCs (N:Nat)(l0:List Int):Option (List Int):=
 some l0
def kW (N:Nat)(b:aH):Nat→Int→(List Int)→Option (List Int)
 |0,_,_=>none
 |m+1,x19,aR=>
  if decide (x19<(b.Txs.length:Int)) then
   (bB b.Txs x19).bind fun x21=>
   (sG N x21 true).bind fun x25=>
   (b9 1 aR x25.1).bind fun x30=>
   (kW N b m) (a1a.wrap (x19+1)) x30
  else
   some aR
def aCh (N:Nat)(b:aH):Option (List Int):=
 (mP N b.Header).bind fun x10=>
 (iC N x10 (a1b.wrap (b.Txs.length:Int))).bind fun x15=>
 (kW N b N 0 x15).bind fun p2=>
 aCs N p2
def aAI (N:Nat)(b:aH):Option Bool:=
 (aCh N b).bind fun x21=>
 some (decide ((x21.length:Int)≤100000))
def lB (N:Nat)(b:aH):Nat→Int→Option (LR (Unit) (Bool))
 |0,_=>none
 |m+1,x12=>
  if decide (x12<(b.Txs.length:Int)) then
   (bB b.Txs x12).bind fun x14=>
   (g5 N x14).bind fun x17=>
   if !x17 then
    some (.ret false)
   else
    (lB N b m) (a1a.wrap (x12+1))
  else
   some (.brk ())
def zF (N:Nat)(b:aH):Option Bool:=
 if decide (256<(b.Txs.length:Int)) then
  some false
 else
  (lB N b N 0).bind fun q=>match q with
   | .ret v=>some v
   | .brk p2=>
    aAI N b
def rM (N:Nat)(o:aB):Option Bool:=
 some (fR o.Tx (a1d 32 0) ((o.Index == 4294967295)&&true))
def sD (N:Nat)(x2:Bool):Option Bool:=
 some x2
def cJ (N:Nat)(t:aD):Option Bool:=
 if(t.Inputs.length:Int) == 1 then
  (bB t.Inputs 0).bind fun x10=>
  (rM N x10.Prev).bind fun x13=>
  sD N x13
 else
  sD N false
def aIa (N:Nat):Option Int:=
 some 0
def oP (N:Nat)(t:aD)(x68:Int)(rec:Int→Option (LR (Unit) (Int)))(x79:Bool):Option (LR (Unit) (Int)):=
 if x79 then
  some (.ret 92)
 else
  rec (a1a.wrap (x68+1))
def gQ (N:Nat)(t:aD):Nat→Int→Option (LR (Unit) (Int))
 |0,_=>none
 |m+1,x68=>
  if decide (x68<(t.Inputs.length:Int)) then
   (bB t.Inputs x68).bind fun x70=>
   (rM N x70.Prev).bind fun x74=>
   if x74 then
    (cJ N t).bind fun x77=>
    oP N t x68 (gQ N t m) (!x77)
   else
    oP N t x68 (gQ N t m) false
  else
   some (.brk ())
def sO (N:Nat)(t:aD):Option Int:=
 (gQ N t N 0).bind fun q=>match q with
  | .ret v=>some v
  | .brk p5=>
   aIa N
def yY (N:Nat)(t:aD)(x43:Int)(rec:Int→Option (LR (Unit) (Int))):Option (LR (Unit) (Int)):=
 rec (a1a.wrap (x43+1))
def oU (N:Nat)(t:aD)(x43:Int):Nat→Int→Option (LR (Unit) (Int))
 |0,_=>none
 |m+1,k=>
  if decide (k<x43) then
   (bB t.Inputs x43).bind fun x54=>
   (bB t.Inputs k).bind fun x60=>
   if(fR x54.Prev.Tx x60.Prev.Tx ((x54.Prev.Index == x60.Prev.Index)&&true)) then
    some (.ret 91)
   else
    (oU N t x43 m) (a1a.wrap (k+1))
  else
   some (.brk ())
def kF (N:Nat)(t:aD):Nat→Int→Option (LR (Unit) (Int))
 |0,_=>none
 |m+1,x43=>
  if decide (x43<(t.Inputs.length:Int)) then
   (oU N t x43 N 0).bind fun q=>match q with
    | .ret v=>some (.ret v)
    | .brk p9=>
     yY N t x43 (kF N t m)
  else
   some (.brk ())
def sL (N:Nat)(t:aD)(sum:Int):Option Int:=
 if decide (2100000000000000<sum) then
  some 90
 else
  (kF N t N 0).bind fun q=>match q with
   | .ret v=>some v
   | .brk p7=>
    sO N t
def g7 (N:Nat)(t:aD):Nat→Int→Int→Option (LR (Int) (Int))
 |0,_,_=>none
 |m+1,gL,x26=>
  if decide (x26<(t.Outputs.length:Int)) then
   (bB t.Outputs x26).bind fun x28=>
   if decide (2100000000000000<x28.Value) then
    some (.ret 90)
   else
    (g7 N t m) (a1a.wrap (gL+x28.Value)) (a1a.wrap (x26+1))
  else
   some (.brk gL)
def oW (N:Nat)(t:aD)(x22:Bool):Option Int:=
 if x22 then
  some 93
 else
  (g7 N t N 0 0).bind fun q=>match q with
   | .ret v=>some v
   | .brk p10=>
    sL N t p10
def rU (N:Nat)(t:aD):Option Int:=
 (g5 N t).bind fun x11=>
 if !x11 then
  some 4
 else
  if(t.Inputs.length:Int) == 0 then
   oW N t true
  else
   oW N t ((t.Outputs.length:Int) == 0)
def aCV (N:Nat):Option Int:=
 some (-1)
def l8 (N:Nat)(ids:List (List Int))(vid:List Int):Nat→Int→Option (LR (Unit) (Int))
 |0,_=>none
 |m+1,x8=>
  if decide (x8<(ids.length:Int)) then
   (bB ids x8).bind fun x13=>
   (bH 32 x13).bind fun q=>
   (bH 32 vid).bind fun q_1=>
   if x13 == vid then
    some (.ret x8)
   else
    (l8 N ids vid m) (a1a.wrap (x8+1))
  else
   some (.brk ())
def vG (N:Nat)(ids:List (List Int))(vid:List Int):Option Int:=
 (l8 N ids vid N 0).bind fun q=>match q with
  | .ret v=>some v
  | .brk p2=>
   aCV N
def aFU (N:Nat):Option Bool:=
 some false
def uB (N:Nat)(b:aH)(ids:List (List Int))(x12:Int)(rec:Int→Option (LR (Unit) (Bool))):Option (LR (Unit) (Bool)):=
 rec (a1a.wrap (x12+1))
def f9 (N:Nat)(b:aH)(ids:List (List Int))(x12:Int)(x15:aD):Nat→Int→Option (LR (Unit) (Bool))
 |0,_=>none
 |m+1,x20=>
  if decide (x20<(x15.Inputs.length:Int)) then
   (bB x15.Inputs x20).bind fun x22=>
   (bH 32 x22.Prev.Tx).bind fun q=>
   (vG N ids x22.Prev.Tx).bind fun x28=>
   if decide (x12≤x28) then
    some (.ret true)
   else
    (f9 N b ids x12 x15 m) (a1a.wrap (x20+1))
  else
   some (.brk ())
def dK (N:Nat)(b:aH)(ids:List (List Int)):Nat→Int→Option (LR (Unit) (Bool))
 |0,_=>none
 |m+1,x12=>
  if decide (x12<(b.Txs.length:Int)) then
   (bB b.Txs x12).bind fun x15=>
   (f9 N b ids x12 x15 N 0).bind fun q=>match q with
    | .ret v=>some (.ret v)
    | .brk p4=>
     uB N b ids x12 (dK N b ids m)
  else
   some (.brk ())
def qQ (N:Nat)(b:aH)(ids:List (List Int)):Option Bool:=
 (dK N b ids N 0).bind fun q=>match q with
  | .ret v=>some v
  | .brk p2=>
   aFU N
def aH5 (N:Nat):Option Bool:=
 some false
def zB (N:Nat)(b:aH)(x13:Int)(rec:Int→(List aB)→Option (LR (Unit) (Bool)))(aR:List aB):Option (LR (Unit) (Bool)):=
 rec (a1a.wrap (x13+1)) aR
def yX (N:Nat)(b:aH)(x13:Int)(x15:aD)(x20:Int)(rec:Int→(List aB)→Option (LR ((List aB)) (Bool)))(g8:List aB):Option (LR ((List aB)) (Bool)):=
 rec (a1a.wrap (x20+1)) g8
def y7 (N:Nat)(b:aH)(x13:Int)(x15:aD)(x20:Int)(d9:List aB)(x22:bI)(rec:Int→(List aB)→Option (LR ((List aB)) (Bool))):Option (LR ((List aB)) (Bool)):=
 (b9 36 d9 [x22.Prev]).bind fun x39=>
 yX N b x13 x15 x20 rec x39
def iU (N:Nat)(b:aH)(x13:Int)(x15:aD)(x20:Int)(d9:List aB)(x22:bI):Nat→Int→Option (LR (Unit) (Bool))
 |0,_=>none
 |m+1,x26=>
  if decide (x26<(d9.length:Int)) then
   (bB d9 x26).bind fun x28=>
   if(fR x28.Tx x22.Prev.Tx ((x28.Index == x22.Prev.Index)&&true)) then
    some (.ret true)
   else
    (iU N b x13 x15 x20 d9 x22 m) (a1a.wrap (x26+1))
  else
   some (.brk ())
def fU (N:Nat)(b:aH)(x13:Int)(x15:aD):Nat→Int→(List aB)→Option (LR ((List aB)) (Bool))
 |0,_,_=>none
 |m+1,x20,d9=>
  if decide (x20<(x15.Inputs.length:Int)) then
   (bB x15.Inputs x20).bind fun x22=>
   (iU N b x13 x15 x20 d9 x22 N 0).bind fun q=>match q with
    | .ret v=>some (.ret v)
    | .brk p7=>
     y7 N b x13 x15 x20 d9 x22 (fU N b x13 x15 m)
  else
   some (.brk d9)
def gO (N:Nat)(b:aH):Nat→Int→(List aB)→Option (LR (Unit) (Bool))
 |0,_,_=>none
 |m+1,x13,l0=>
  if decide (x13<(b.Txs.length:Int)) then
   (bB b.Txs x13).bind fun x15=>
   (fU N b x13 x15 N 0 l0).bind fun q=>match q with
    | .ret v=>some (.ret v)
    | .brk p4=>
     zB N b x13 (gO N b m) p4
  else
   some (.brk ())
def vH (N:Nat)(b:aH):Option Bool:=
 (gO N b N 0 []).bind fun q=>match q with
  | .ret v=>some v
  | .brk p2=>
   aH5 N
def oY (N:Nat)(b:aH)(l1:List (List Int)):Option Int:=
 (aHG 32 l1).bind fun q=>
 (qQ N b l1).bind fun x67=>
 if x67 then
  some 101
 else
  (vH N b).bind fun x70=>
  if x70 then
   some 91
  else
   (tV N b.Txs).bind fun x74=>
   (bH 32 b.Header.Root).bind fun q_1=>
   (bH 32 x74).bind fun q_2=>
   if !(x74 == b.Header.Root) then
    some 110
   else
    some 0
def iP (N:Nat)(b:aH):Nat→Int→(List (List Int))→Option (LR ((List (List Int))) (Int))
 |0,_,_=>none
 |m+1,x49,bJ=>
  if decide (x49<(b.Txs.length:Int)) then
   (bB b.Txs x49).bind fun x51=>
   (aBa N x51).bind fun x54=>
   (bH 32 x54).bind fun q_3=>
   (aHG 32 bJ).bind fun q_4=>
   (vG N bJ x54).bind fun x57=>
   if decide (0≤x57) then
    some (.ret 91)
   else
    (b9 32 bJ [x54]).bind fun x62=>
    (iP N b m) (a1a.wrap (x49+1)) x62
  else
   some (.brk bJ)
def mB (N:Nat)(b:aH):Option Int:=
 (iP N b N 0 []).bind fun q=>match q with
  | .ret v=>some v
  | .brk p4=>
   oY N b p4
def gR (N:Nat)(b:aH):Nat→Int→Option (LR (Unit) (Int))
 |0,_=>none
 |m+1,x36=>
  if decide (x36<(b.Txs.length:Int)) then
   (bB b.Txs x36).bind fun x38=>
   (rU N x38).bind fun x41=>
   if x41 != 0 then
    some (.ret x41)
   else
    (gR N b m) (a1a.wrap (x36+1))
  else
   some (.brk ())
def oJ (N:Nat)(b:aH):Option Int:=
 (gR N b N 0).bind fun q=>match q with
  | .ret v=>some v
  | .brk p5=>
   mB N b
def c8 (N:Nat)(b:aH):Nat→Int→Option (LR (Unit) (Int))
 |0,_=>none
 |m+1,x22=>
  if decide (x22<(b.Txs.length:Int)) then
   (bB b.Txs x22).bind fun x25=>
   (cJ N x25).bind fun x28=>
   if x28 != (x22 == 0) then
    some (.ret 111)
   else
    (c8 N b m) (a1a.wrap (x22+1))
  else
   some (.brk ())
def fF (N:Nat)(b:aH):Option Int:=
 (zF N b).bind fun x13=>
 if !x13 then
  some 4
 else
  if(b.Txs.length:Int) == 0 then
   some 93
  else
   (c8 N b N 0).bind fun q=>match q with
    | .ret v=>some v
    | .brk p6=>
     oJ N b
def aHQ (N:Nat):Option Bool:=
 some true
def s8 (N:Nat)(t:aD):Nat→Int→Option (LR (Unit) (Bool))
 |0,_=>none
 |m+1,x15=>
  if decide (x15<(t.Inputs.length:Int)) then
   (bB t.Inputs x15).bind fun x17=>
   if x17.Sequence != 4294967295 then
    some (.ret false)
   else
    (s8 N t m) (a1a.wrap (x15+1))
  else
   some (.brk ())
def aAr (N:Nat)(t:aD)(height:Int):Option Bool:=
 if decide ((a1a.wrap t.Lock)≤height) then
  some true
 else
  (s8 N t N 0).bind fun q=>match q with
   | .ret v=>some v
   | .brk p2=>
    aHQ N
def sZ (N:Nat)(l:aC)(b:aH)(x8:Bool):Option Int:=
 if x8 then
  some 6
 else
  if l.Height == 16777216 then
   some 4
  else
   (bH 32 b.Header.Prev).bind fun q=>
   (bH 32 l.Tip).bind fun q_1=>
   if !(b.Header.Prev == l.Tip) then
    some 144
   else
    (fF N b).bind fun x29=>
    if x29 != 0 then
     some x29
    else
     (bB b.Txs 0).bind fun x35=>
     (bB x35.Inputs 0).bind fun x38=>
     if(a1a.wrap x38.Sequence) != (a1a.wrap (l.Height+1)) then
      some 102
     else
      (aAr N x35 (a1a.wrap (l.Height+1))).bind fun x53=>
      if !x53 then
       some 85
      else
       some 0
def aAg (N:Nat)(p:aL)(l:aC)(b:aH):Option Int:=
 (jM N p).bind fun x10=>
 if !x10 then
  sZ N l b true
 else
  (rQ N l).bind fun x14=>
  sZ N l b (!x14)
def aEo (N:Nat):Option Int:=
 some (-1)
def aAy (N:Nat)(l:List aA)(o:aB):Nat→Int→Option (LR (Unit) (Int))
 |0,_=>none
 |m+1,x8=>
  if decide (x8<(l.length:Int)) then
   (bB l x8).bind fun x13=>
   if(fR x13.Out.Tx o.Tx ((x13.Out.Index == o.Index)&&true)) then
    some (.ret x8)
   else
    (aAy N l o m) (a1a.wrap (x8+1))
  else
   some (.brk ())
def kX (N:Nat)(l:List aA)(o:aB):Option Int:=
 (aAy N l o N 0).bind fun q=>match q with
  | .ret v=>some v
  | .brk p2=>
   aEo N
def oK (N:Nat)(c:aA):Option aA:=
 (oC N [c.Output.Script]).bind fun x7=>
 some (aA.mk c.Out (aW.mk c.Output.Value x7) c.Height c.Coinbase)
def aH6 (N:Nat)(l1:List aA):Option ((List aA)×Int):=
 some (l1,0)
def sV (N:Nat)(p:aL)(height:Int)(l1:List aA)(x40:Int)(rec:Int→Option (LR (Unit) ((List aA)×Int)))(x54:Bool):Option (LR (Unit) ((List aA)×Int)):=
 if x54 then
  some (.ret ([],230))
 else
  rec (a1a.wrap (x40+1))
def kC (N:Nat)(p:aL)(height:Int)(l1:List aA):Nat→Int→Option (LR (Unit) ((List aA)×Int))
 |0,_=>none
 |m+1,x40=>
  if decide (x40<(l1.length:Int)) then
   (bB l1 x40).bind fun x42=>
   if x42.Coinbase then
    sV N p height l1 x40 (kC N p height l1 m) (decide ((a1a.wrap (height-x42.Height))<p.Maturity))
   else
    sV N p height l1 x40 (kC N p height l1 m) false
  else
   some (.brk ())
def aDj (N:Nat)(p:aL)(height:Int)(l1:List aA):Option ((List aA)×Int):=
 (kC N p height l1 N 0).bind fun q=>match q with
  | .ret v=>some v
  | .brk p3=>
   aH6 N l1
def s0 (N:Nat)(p:aL)(l:List aA)(t:aD)(height:Int):Nat→Int→(List aA)→Option (LR ((List aA)) ((List aA)×Int))
 |0,_,_=>none
 |m+1,x19,bJ=>
  if decide (x19<(t.Inputs.length:Int)) then
   (bB t.Inputs x19).bind fun x21=>
   (kX N l x21.Prev).bind fun x26=>
   if decide (x26<0) then
    some (.ret ([],101))
   else
    (bB l x26).bind fun x32=>
    (oK N x32).bind fun x34=>
    (b9 88 bJ [x34]).bind fun x36=>
    (s0 N p l t height m) (a1a.wrap (x19+1)) x36
  else
   some (.brk bJ)
def aDF (N:Nat)(p:aL)(l:List aA)(t:aD)(height:Int):Option ((List aA)×Int):=
 (s0 N p l t height N 0 []).bind fun q=>match q with
  | .ret v=>some v
  | .brk p5=>
   aDj N p height p5
def aFK (N:Nat)(gL:Int):Option (Int×Int):=
 if decide (gL<0) then
  some (0,100)
 else
  some (gL,0)
def yE (N:Nat)(t:aD):Nat→Int→Int→Option Int
 |0,_,_=>none
 |m+1,sum_2,x69=>
  if decide (x69<(t.Outputs.length:Int)) then
   (bB t.Outputs x69).bind fun x71=>
   (yE N t m) (a1a.wrap (sum_2-x71.Value)) (a1a.wrap (x69+1))
  else
   some sum_2
def aGy (N:Nat)(t:aD)(sum:Int):Option (Int×Int):=
 if decide (2100000000000000<sum) then
  some (0,90)
 else
  (yE N t N sum 0).bind fun p4=>
  aFK N p4
def xR (N:Nat)(t:aD)(l:List aA)(aBr x44:Int)(x46:aA)(rec:Int→Int→Option (LR (Int) (Int×Int)))(x57:Bool):Option (LR (Int) (Int×Int)):=
 if x57 then
  some (.ret (0,90))
 else
  rec (a1a.wrap (aBr+x46.Output.Value)) (a1a.wrap (x44+1))
def mW (N:Nat)(t:aD)(l:List aA):Nat→Int→Int→Option (LR (Int) (Int×Int))
 |0,_,_=>none
 |m+1,aBr,x44=>
  if decide (x44<(l.length:Int)) then
   (bB l x44).bind fun x46=>
   if decide (x46.Output.Value<0) then
    xR N t l aBr x44 x46 (mW N t l m) true
   else
    xR N t l aBr x44 x46 (mW N t l m) (decide (2100000000000000<x46.Output.Value))
  else
   some (.brk aBr)
def aGx (N:Nat)(t:aD)(l:List aA):Option (Int×Int):=
 (mW N t l N 0 0).bind fun q=>match q with
  | .ret v=>some v
  | .brk p5=>
   aGy N t p5
def xB (N:Nat)(t:aD)(l:List aA):Nat→Int→Option (LR (Unit) (Int×Int))
 |0,_=>none
 |m+1,x26=>
  if decide (x26<(l.length:Int)) then
   (bB l x26).bind fun x31=>
   (bB t.Inputs x26).bind fun x37=>
   if !(fR x31.Out.Tx x37.Prev.Tx ((x31.Out.Index == x37.Prev.Index)&&true)) then
    some (.ret (0,101))
   else
    (xB N t l m) (a1a.wrap (x26+1))
  else
   some (.brk ())
def aGZ (N:Nat)(t:aD)(l:List aA):Option (Int×Int):=
 (rU N t).bind fun x14=>
 if x14 != 0 then
  some (0,x14)
 else
  if(l.length:Int) != (t.Inputs.length:Int) then
   some (0,8)
  else
   (xB N t l N 0).bind fun q=>match q with
    | .ret v=>some v
    | .brk p7=>
     aGx N t l
def aB6 (N:Nat)(tag:ByteArray)(b:List Int):Option (List Int):=
 (stb tag).bind fun x7=>
 (mS N x7).bind fun x8=>
 (bH 32 x8).bind fun q=>
 (b9 1 [] x8).bind fun x10=>
 (b9 1 x10 x8).bind fun x12=>
 (b9 1 x12 b).bind fun x14=>
 (mS N x14).bind fun x15=>
 (bH 32 x15).bind fun q_1=>
 some x15
def qE (N:Nat)(t:aD)(vi:Int)(o:aW)(l3 l4 l5:List Int):Option ((List Int)×Int):=
 (dY N [] t.Version).bind fun x72=>
 (mS N l3).bind fun x75=>
 (fG N x72 x75).bind fun x76=>
 (mS N l4).bind fun x79=>
 (fG N x76 x79).bind fun x80=>
 (mS N l5).bind fun x83=>
 (fG N x80 x83).bind fun x84=>
 (dY N x84 t.Lock).bind fun x88=>
 (dY N x88 (a1c.wrap vi)).bind fun x92=>
 (aBh N o).bind fun x95=>
 (b9 1 x92 x95).bind fun x96=>
 (aB6 N (⟨#[108,105,103,104,116,99,108,105,101,110,116,47,115,112,101,110,100]⟩) x96).bind fun x97=>
 (bH 32 x97).bind fun q=>
 some (x97,0)
def pX (N:Nat)(t:aD)(vi:Int)(o:aW)(l3 l4:List Int):Nat→Int→(List Int)→Option (List Int)
 |0,_,_=>none
 |m+1,x61,fD=>
  if decide (x61<(t.Outputs.length:Int)) then
   (bB t.Outputs x61).bind fun x63=>
   (aBh N x63).bind fun x67=>
   (b9 1 fD x67).bind fun x68=>
   (pX N t vi o l3 l4 m) (a1a.wrap (x61+1)) x68
  else
   some fD
def pA (N:Nat)(t:aD)(vi:Int)(o:aW)(l3 l4:List Int):Option ((List Int)×Int):=
 (pX N t vi o l3 l4 N 0 []).bind fun p5=>
 qE N t vi o l3 l4 p5
def pH (N:Nat)(t:aD)(vi:Int)(o:aW):Nat→Int→(List Int)→(List Int)→Option ((List Int)×(List Int))
 |0,_,_,_=>none
 |m+1,x44,dA,dN=>
  if decide (x44<(t.Inputs.length:Int)) then
   (bB t.Inputs x44).bind fun x46=>
   (aAs N x46.Prev).bind fun x51=>
   (b9 1 dA x51).bind fun x52=>
   (dY N dN x46.Sequence).bind fun x56=>
   (pH N t vi o m) (a1a.wrap (x44+1)) x52 x56
  else
   some (dA,dN)
def mE (N:Nat)(t:aD)(vi:Int)(o:aW)(x39:Bool):Option ((List Int)×Int):=
 if x39 then
  some ([0,0,0,0,0,0,0,0,0,0,0,0,0,0,0,0,0,0,0,0,0,0,0,0,0,0,0,0,0,0,0,0],5)
 else
  (pH N t vi o N 0 [] []).bind fun p6=>
  pA N t vi o p6.1 p6.2
def jS (N:Nat)(t:aD)(vi:Int)(o:aW)(x29:Bool):Option ((List Int)×Int):=
 if x29 then
  some ([0,0,0,0,0,0,0,0,0,0,0,0,0,0,0,0,0,0,0,0,0,0,0,0,0,0,0,0,0,0,0,0],4)
 else
  if decide (vi<0) then
   mE N t vi o true
  else
   mE N t vi o (decide ((t.Inputs.length:Int)≤vi))
def vA (N:Nat)(t:aD)(vi:Int)(o:aW):Option ((List Int)×Int):=
 (g5 N t).bind fun x17=>
 if !x17 then
  jS N t vi o true
 else
  if decide (o.Value<0) then
   jS N t vi o true
  else
   jS N t vi o (decide (520<(o.Script.length:Int)))
def aDz (N:Nat)(o:eW)(x12:Bool):Option Int:=
 if x12 then
  none
 else
  if o.M != 0 then
   none
  else
   if o.N != 0 then
    none
   else
    if decide (255<(o.Data.length:Int)) then
     none
    else
     if o.Code == 11 then
      none
     else
      some 0
def aLS (N:Nat)(o:eW):Option Int:=
 if decide (o.Code<1) then
  none
 else
  if decide (17<o.Code) then
   none
  else
   if decide (0<(o.Data.length:Int)) then
    aDz N o (o.Code != 1)
   else
    aDz N o false
def aGs (N:Nat)(x8:Int)(b_1 l2:List Int):Option (Int×(List Int)×Int×Int×(List Int)×Int):=
 (aLS N (eW.mk (a1a.wrap x8) l2 0 0)).bind fun x76=>
 some (a1a.wrap x8,l2,0,0,b_1,x76)
def aOw (N:Nat)(b:List Int):Option (Int×(List Int)×Int×Int×(List Int)×Int):=
 (bB b 0).bind fun x8=>
 if decide ((a1a.wrap x8)<1) then
  none
 else
  if decide (17<(a1a.wrap x8)) then
   none
  else
   (sub b 1 (b.length:Int)).bind fun x22=>
   if(a1a.wrap x8) == 1 then
    if(x22.length:Int) == 0 then
     none
    else
     (bB x22 0).bind fun x35=>
     if decide ((a1a.wrap ((x22.length:Int)-1))<(a1a.wrap x35)) then
      none
     else
      (sub x22 1 (a1a.wrap (1+(a1a.wrap x35)))).bind fun x48=>
      (oC N [x48]).bind fun x50=>
      (sub x22 (a1a.wrap (1+(a1a.wrap x35))) (x22.length:Int)).bind fun x53=>
      aGs N x8 x53 x50
   else
    if(a1a.wrap x8) == 11 then
     none
    else
     aGs N x8 x22 []
def aId (N:Nat)(l0:List eW):Option ((List eW)×Int):=
 some (l0,0)
def aIm (N:Nat):Nat→(List Int)→(List eW)→Option (LR ((List eW)) ((List eW)×Int))
 |0,_,_=>none
 |m+1,b_1,aR=>
  if decide (0<(b_1.length:Int)) then
   (aOw N b_1).bind fun x16=>
   if x16.2.2.2.2.2 != 0 then
    some (.ret ([],x16.2.2.2.2.2))
   else
    (b9 48 aR [eW.mk x16.1 x16.2.1 x16.2.2.1 x16.2.2.2.1]).bind fun x26=>
    (aIm N m) x16.2.2.2.2.1 x26
  else
   some (.brk aR)
def aHz (N:Nat)(b:List Int):Option ((List eW)×Int):=
 if decide (520<(b.length:Int)) then
  some ([],4)
 else
  (aIm N N b []).bind fun q=>match q with
   | .ret v=>some v
   | .brk p2=>
    aId N p2
def aG4 (N:Nat):Option Bool:=
 some (((([]:List Int).length:Nat):Int) == 0)
def aHc (N:Nat)(l:List eW):Nat→Int→Option Unit
 |0,_=>none
 |m+1,x8=>
  if decide (x8<(l.length:Int)) then
   (bB l x8).bind fun x10=>
   if x10.Code == 14 then
    none
   else
    if x10.Code == 15 then
     none
    else
     if x10.Code == 16 then
      none
     else
      (aHc N l m) (a1a.wrap (x8+1))
  else
   some ()
def aBK (N:Nat)(l:List eW):Option Bool:=
 (aHc N l N 0).bind fun p2=>
 aG4 N
def aJL (N:Nat):Option Bool:=
 some false
def aJF (N:Nat)(vs:List (List Int)):Nat→Int→Option (LR (Unit) (Bool))
 |0,_=>none
 |m+1,x10=>
  if decide (x10<(vs.length:Int)) then
   (bB vs x10).bind fun x12=>
   if decide (520<(x12.length:Int)) then
    some (.ret true)
   else
    (aJF N vs m) (a1a.wrap (x10+1))
  else
   some (.brk ())
def aFa (N:Nat)(vs:List (List Int)):Option Bool:=
 if decide (64<(vs.length:Int)) then
  some true
 else
  (aJF N vs N 0).bind fun q=>match q with
   | .ret v=>some v
   | .brk p2=>
    aJL N
def aGT (N:Nat)(l0:List (List Int)):Option (List (List Int)):=
 some l0
def aGP (N:Nat)(l:List (List Int)):Nat→Int→(List (List Int))→Option (List (List Int))
 |0,_,_=>none
 |m+1,x11,aR=>
  if decide (x11<(l.length:Int)) then
   (bB l x11).bind fun x13=>
   (oC N [x13]).bind fun x18=>
   (b9 24 aR [x18]).bind fun x20=>
   (aGP N l m) (a1a.wrap (x11+1)) x20
  else
   some aR
def aBv (N:Nat)(l:List (List Int)):Option (List (List Int)):=
 (mks 24 ([]:List Int) (l.length:Int)).bind fun x8=>
 (aGP N l N 0 []).bind fun p2=>
 aGT N p2
def v8 (N:Nat)(x2:Bool):Option Bool:=
 some x2
def aGC (N:Nat)(l:List iI):Option Bool:=
 if(l.length:Int) == 0 then
  v8 N true
 else
  (bB l (a1a.wrap ((l.length:Int)-1))).bind fun x11=>
  if x11.reached then
   v8 N x11.done
  else
   v8 N false
def aLF (N:Nat)(o:eW):Option Int:=
 if o.Code == 8 then
  some 6
 else
  if o.Code == 10 then
   some 21
  else
   if o.Code == 11 then
    some (a1a.wrap (1+(a1a.wrap (20*o.N))))
   else
    some 1
def aCQ (N:Nat)(o:eW)(x15:Bool):Option Int:=
 if x15 then
  some 2
 else
  if o.Code == 11 then
   none
  else
   some 0
def aLA (N:Nat)(o:eW):Option Int:=
 if o.Code == 2 then
  none
 else
  if o.Code == 3 then
   none
  else
   if o.Code == 6 then
    none
   else
    if o.Code == 7 then
     none
    else
     if o.Code == 8 then
      none
     else
      if o.Code == 9 then
       none
      else
       if o.Code == 12 then
        none
       else
        if o.Code == 13 then
         none
        else
         if o.Code == 14 then
          none
         else
          if o.Code == 4 then
           none
          else
           if o.Code == 5 then
            aCQ N o (o.Code == 5)
           else
            aCQ N o (o.Code == 10)
def aJx (N:Nat):Option Bool:=
 some false
def aJM (N:Nat)(b:List Int):Nat→Int→Option (LR (Unit) (Bool))
 |0,_=>none
 |m+1,x7=>
  if decide (x7<(b.length:Int)) then
   (bB b x7).bind fun x9=>
   if x9 != 0 then
    some (.ret true)
   else
    (aJM N b m) (a1a.wrap (x7+1))
  else
   some (.brk ())
def aFi (N:Nat)(b:List Int):Option Bool:=
 (aJM N b N 0).bind fun q=>match q with
  | .ret v=>some v
  | .brk p2=>
   aJx N
def aJV (N:Nat)(vs:List (List Int))(aSA:List Int):Option ((List (List Int))×Int):=
 if decide (64≤(vs.length:Int)) then
  some ([],4)
 else
  (sub vs 0 (vs.length:Int)).bind fun x14=>
  (b9 24 x14 [aSA]).bind fun x17=>
  some (x17,0)
def y6 (N:Nat)(va b:List Int):Option Bool:=
 some ((gM va).toList == (gM b).toList)
def aJO (N:Nat)(l0:List Int):Option (List Int):=
 some l0
def aJB (N:Nat):Nat→Int→(List Int)→Option (List Int)
 |0,_,_=>none
 |m+1,vn_1,aR=>
  if decide (0<vn_1) then
   (b9 1 aR [a1f.wrap vn_1]).bind fun x12=>
   (aJB N m) (a1c.wrap (a1h vn_1 256)) x12
  else
   some aR
def aIY (N:Nat)(vn:Int):Option (List Int):=
 (aJB N N vn []).bind fun p2=>
 aJO N p2
def aHJ (N:Nat)(b:Bool):Option (List Int):=
 if b then
  (aIY N 1).bind fun x4=>
  some x4
 else
  (aIY N 0).bind fun x5=>
  some x5
def aFn (N:Nat)(o:eW)(vs:List (List Int))(v:iG):Option ((List (List Int))×Int):=
 if o.Code == 1 then
  (oC N [o.Data]).bind fun x25=>
  (aJV N vs x25).bind fun x26=>
  some (x26.1,x26.2)
 else
  if o.Code == 2 then
   none
  else
   if o.Code == 3 then
    none
   else
    if o.Code == 4 then
     none
    else
     if o.Code == 5 then
      (sub vs 0 (a1a.wrap ((vs.length:Int)-2))).bind fun x73=>
      (bB vs (a1a.wrap ((vs.length:Int)-2))).bind fun x77=>
      (bB vs (a1a.wrap ((vs.length:Int)-1))).bind fun x82=>
      (y6 N x77 x82).bind fun x84=>
      (aHJ N x84).bind fun x85=>
      (b9 24 x73 [x85]).bind fun x87=>
      some (x87,0)
     else
      none
def aKf (N:Nat)(vs:List (List Int))(cost:Int):Option ((List (List Int))×Int×Int):=
 some (vs,cost,0)
def pG (N:Nat)(v:iG)(x20:(List eW)×Int):Nat→(List (List Int))→Int→Int→Option (LR ((List (List Int))×Int) ((List (List Int))×Int×Int))
 |0,_,_,_=>none
 |m+1,tD,cost_1,x35=>
  if decide (x35<(x20.1.length:Int)) then
   (bB x20.1 x35).bind fun x37=>
   (aGC N []).bind fun x40=>
   if x37.Code == 15 then
    none
   else
    if x37.Code == 16 then
     none
    else
     if x40 then
      (aLF N x37).bind fun x59=>
      if decide (500<(a1a.wrap (cost_1+x59))) then
       none
      else
       (aLA N x37).bind fun x66=>
       if decide ((tD.length:Int)<x66) then
        some (.ret ([],0,81))
       else
        if x37.Code == 14 then
         none
        else
         (aFn N x37 tD v).bind fun aPD=>
         if aPD.2 != 0 then
          none
         else
          (pG N v x20 m) aPD.1 (a1a.wrap (cost_1+x59)) (a1a.wrap (x35+1))
     else
      none
  else
   some (.brk (tD,cost_1))
def aEb (N:Nat)(b:List Int)(stack:List (List Int))(v:iG):Option ((List (List Int))×Int×Int):=
 (aHz N b).bind fun x20=>
 if x20.2 != 0 then
  none
 else
  (aBK N x20.1).bind fun x27=>
  if !x27 then
   none
  else
   (aFa N stack).bind fun x30=>
   if x30 then
    none
   else
    (aBv N stack).bind fun x32=>
    (pG N v x20 N x32 0 0).bind fun q=>match q with
     | .ret v=>some v
     | .brk p2=>
      aKf N p2.1 p2.2
def nJ (N:Nat)(b:List Int)(bG:List (List Int))(v:iG):Option Int:=
 (aEb N b bG v).bind fun x14=>
 if x14.2.2 != 0 then
  some x14.2.2
 else
  if(x14.1.length:Int) != 1 then
   some 81
  else
   (bB x14.1 0).bind fun x28=>
   (aFi N x28).bind fun x30=>
   if !x30 then
    some 84
   else
    some 0
def oO (N:Nat)(t:aD)(vi:Int)(c:aA)(height:Int)(x16:(List Int)×Int)(x43:Bool):Option Int:=
 if x43 then
  some 102
 else
  (bB t.Inputs vi).bind fun x50=>
  (nJ N c.Output.Script x50.Witness (iG.mk x16.1 height (a1a.wrap (height-c.Height)))).bind fun x60=>
  some x60
def aDP (N:Nat)(t:aD)(vi:Int)(c:aA)(height:Int):Option Int:=
 (vA N t vi c.Output).bind fun x16=>
 (bH 32 x16.1).bind fun q=>
 if x16.2 != 0 then
  some x16.2
 else
  (bB t.Inputs vi).bind fun x25=>
  if !(fR x25.Prev.Tx c.Out.Tx ((x25.Prev.Index == c.Out.Index)&&true)) then
   some 101
  else
   if decide (16777216<height) then
    oO N t vi c height x16 true
   else
    if decide (c.Height<0) then
     oO N t vi c height x16 true
    else
     oO N t vi c height x16 (decide (height<c.Height))
def aHY (N:Nat)(x17:Int×Int):Option (Int×Int):=
 some (x17.1,0)
def sR (N:Nat)(t:aD)(l:List aA)(height:Int)(x17:Int×Int):Nat→Int→Option (LR (Unit) (Int×Int))
 |0,_=>none
 |m+1,x29=>
  if decide (x29<(l.length:Int)) then
   (bB l x29).bind fun x36=>
   (aDP N t x29 x36 height).bind fun x39=>
   if x39 != 0 then
    some (.ret (0,x39))
   else
    (sR N t l height x17 m) (a1a.wrap (x29+1))
  else
   some (.brk ())
def aDQ (N:Nat)(t:aD)(l:List aA)(height:Int):Option (Int×Int):=
 (cJ N t).bind fun x13=>
 if x13 then
  some (0,92)
 else
  (aGZ N t l).bind fun x17=>
  if x17.2 != 0 then
   some (0,x17.2)
  else
   (aAr N t height).bind fun x25=>
   if !x25 then
    some (0,85)
   else
    (sR N t l height x17 N 0).bind fun q=>match q with
     | .ret v=>some v
     | .brk p2=>
      aHY N x17
def lE (N:Nat)(l:List aA)(vi:Int):Option (List aA):=
 (sub l 0 vi).bind fun x7=>
 (b9 88 [] x7).bind fun x8=>
 (sub l (a1a.wrap (vi+1)) (l.length:Int)).bind fun x12=>
 (b9 88 x8 x12).bind fun x13=>
 some x13
def aA0 (N:Nat)(l0:List aA):Option (List aA):=
 some l0
def jV (N:Nat)(t:aD)(height:Int)(x10:(List Int)):Nat→Int→(List aA)→Option (List aA)
 |0,_,_=>none
 |m+1,x14,l1=>
  if decide (x14<(t.Outputs.length:Int)) then
   (bB t.Outputs x14).bind fun x17=>
   (cJ N t).bind fun x27=>
   (b9 88 l1 [aA.mk (aB.mk x10 (a1c.wrap x14)) x17 height x27]).bind fun x30=>
   (jV N t height x10 m) (a1a.wrap (x14+1)) x30
  else
   some l1
def iM (N:Nat)(t:aD)(height:Int):Option (List aA):=
 (aBa N t).bind fun x10=>
 (bH 32 x10).bind fun q=>
 (jV N t height x10 N 0 []).bind fun p2=>
 aA0 N p2
def aES (N:Nat)(l:List aA)(c:aA)(l1:List aA):Option (List aA):=
 (oK N c).bind fun x31=>
 (b9 88 l1 [x31]).bind fun x33=>
 (sub l (l1.length:Int) (l.length:Int)).bind fun x37=>
 (b9 88 x33 x37).bind fun x38=>
 some x38
def aAM (N:Nat)(l:List aA)(c:aA)(x9:Int)(rec:Int→(List aA)→Option (List aA))(cE:List aA):Option (List aA):=
 rec (a1a.wrap (x9+1)) cE
def nR (N:Nat)(l:List aA)(c:aA):Nat→Int→(List aA)→Option (List aA)
 |0,_,_=>none
 |m+1,x9,bJ=>
  if decide (x9<(l.length:Int)) then
   (bB l x9).bind fun x14=>
   (u5 N x14.Out c.Out).bind fun x19=>
   if decide (x19<0) then
    (b9 88 bJ [x14]).bind fun x27=>
    aAM N l c x9 (nR N l c m) x27
   else
    aAM N l c x9 (nR N l c m) bJ
  else
   some bJ
def t7 (N:Nat)(l:List aA)(c:aA):Option (List aA):=
 (nR N l c N 0 []).bind fun p2=>
 aES N l c p2
def aK0 (N:Nat)(l_1:List aA):Option ((List aA)×Int):=
 some (l_1,0)
def xK (N:Nat)(x28:(List aA)):Nat→(List aA)→Int→Option (List aA)
 |0,_,_=>none
 |m+1,l_2,x30=>
  if decide (x30<(x28.length:Int)) then
   (bB x28 x30).bind fun x32=>
   (t7 N l_2 x32).bind fun x36=>
   (xK N x28 m) x36 (a1a.wrap (x30+1))
  else
   some l_2
def aF3 (N:Nat)(l:List aA)(t:aD)(height:Int):Option ((List aA)×Int):=
 (iM N t height).bind fun x28=>
 (xK N x28 N l 0).bind fun p3=>
 aK0 N p3
def xP (N:Nat)(l:List aA)(t:aD)(height:Int)(x14:(List aA)):Nat→Int→Option (LR (Unit) ((List aA)×Int))
 |0,_=>none
 |m+1,x16=>
  if decide (x16<(x14.length:Int)) then
   (bB x14 x16).bind fun x18=>
   (kX N l x18.Out).bind fun x23=>
   if decide (0≤x23) then
    some (.ret ([],91))
   else
    (xP N l t height x14 m) (a1a.wrap (x16+1))
  else
   some (.brk ())
def aGU (N:Nat)(l:List aA)(t:aD)(height:Int):Option ((List aA)×Int):=
 (iM N t height).bind fun x14=>
 (xP N l t height x14 N 0).bind fun q=>match q with
  | .ret v=>some v
  | .brk p4=>
   aF3 N l t height
def aH2 (N:Nat)(sum:Int):Option Int:=
 some sum
def sQ (N:Nat)(l:List aA):Nat→Int→Int→Option Int
 |0,_,_=>none
 |m+1,gL,x8=>
  if decide (x8<(l.length:Int)) then
   (bB l x8).bind fun x10=>
   (sQ N l m) (a1a.wrap (gL+x10.Output.Value)) (a1a.wrap (x8+1))
  else
   some gL
def aAl (N:Nat)(l:List aA):Option Int:=
 (sQ N l N 0 0).bind fun p2=>
 aH2 N p2
def aBb (N:Nat)(l:aC)(b:aH)(x36:(List Int))(most:Int)(c3 l5:List aA):Option (aC×aM×Int):=
 (bB b.Txs 0).bind fun aZj=>
 (iM N aZj (a1a.wrap (l.Height+1))).bind fun aYU=>
 (aAl N aYU).bind fun aKz=>
 if decide (most<aKz) then
  some ((aC.mk 0 (a1d 32 0) []),aM.mk [],231)
 else
  (aAl N c3).bind fun aYd=>
  if decide (2100000000000000<aYd) then
   some ((aC.mk 0 (a1d 32 0) []),aM.mk [],90)
  else
   if decide (100000<(c3.length:Int)) then
    some ((aC.mk 0 (a1d 32 0) []),aM.mk [],4)
   else
    some ((aC.mk (a1a.wrap (l.Height+1)) x36 c3),aM.mk l5,0)
def qD (N:Nat)(p:aL)(l:aC)(b:aH)(x36:(List Int))(x48:Int)(x51:aD)(rec:Int→Int→(List aA)→(List aA)→Option (LR (Int×(List aA)×(List aA)) (aC×aM×Int)))(aNn:Int)(aSr l7:List aA):Option (LR (Int×(List aA)×(List aA)) (aC×aM×Int)):=
 (aGU N aSr x51 (a1a.wrap (l.Height+1))).bind fun vO=>
 if vO.2 != 0 then
  some (.ret ((aC.mk 0 (a1d 32 0) []),aM.mk [],vO.2))
 else
  rec aNn (a1a.wrap (x48+1)) vO.1 l7
def aA9 (N:Nat)(p:aL)(l:aC)(b:aH)(x36:(List Int))(pF x48:Int)(l6:List aA)(x51:aD)(x62:(List aA)×Int)(x75:Int×Int)(rec:Int→Int→(List aA)→(List aA)→Option (LR (Int×(List aA)×(List aA)) (aC×aM×Int)))(aSU:List aA):Option (LR (Int×(List aA)×(List aA)) (aC×aM×Int)):=
 (b9 88 l6 x62.1).bind fun aSM=>
 qD N p l b x36 x48 x51 rec (a1a.wrap (pF+x75.1)) aSU aSM
def pE (N:Nat)(p:aL)(l:aC)(b:aH)(x36:(List Int))(pF x48:Int)(l6:List aA)(x51:aD)(x62:(List aA)×Int)(x75:Int×Int):Nat→Int→(List aA)→Option (List aA)
 |0,_,_=>none
 |m+1,x85,c4_3=>
  if decide (x85<(x62.1.length:Int)) then
   (bB x62.1 x85).bind fun x87=>
   (kX N c4_3 x87.Out).bind fun x95=>
   (lE N c4_3 x95).bind fun x96=>
   (pE N p l b x36 pF x48 l6 x51 x62 x75 m) (a1a.wrap (x85+1)) x96
  else
   some c4_3
def fH (N:Nat)(p:aL)(l:aC)(b:aH)(x36:(List Int)):Nat→Int→Int→(List aA)→(List aA)→Option (LR (Int×(List aA)×(List aA)) (aC×aM×Int))
 |0,_,_,_,_=>none
 |m+1,pF,x48,c4,l6=>
  if decide (x48<(b.Txs.length:Int)) then
   (bB b.Txs x48).bind fun x51=>
   if decide (0<x48) then
    (aDF N p c4 x51 (a1a.wrap (l.Height+1))).bind fun x62=>
    if x62.2 != 0 then
     some (.ret ((aC.mk 0 (a1d 32 0) []),aM.mk [],x62.2))
    else
     (aDQ N x51 x62.1 (a1a.wrap (l.Height+1))).bind fun x75=>
     if x75.2 != 0 then
      some (.ret ((aC.mk 0 (a1d 32 0) []),aM.mk [],x75.2))
     else
      (pE N p l b x36 pF x48 l6 x51 x62 x75 N 0 c4).bind fun p5=>
      aA9 N p l b x36 pF x48 l6 x51 x62 x75 (fH N p l b x36 m) p5
   else
    qD N p l b x36 x48 x51 (fH N p l b x36 m) pF c4 l6
  else
   some (.brk (pF,c4,l6))
def aAH (N:Nat)(p:aL)(l:aC)(b:aH):Option (aC×aM×Int):=
 (aAg N p l b).bind fun x25=>
 if x25 != 0 then
  some ((aC.mk 0 (a1d 32 0) []),aM.mk [],x25)
 else
  (mH N b.Header).bind fun x36=>
  (bH 32 x36).bind fun q=>
  (nP N p (a1a.wrap (l.Height+1))).bind fun x44=>
  (fH N p l b x36 N x44 0 l.Coins []).bind fun q=>match q with
   | .ret v=>some v
   | .brk p2=>
    aBb N l b x36 p2.1 p2.2.1 p2.2.2
def qN (N:Nat)(x4:Bool):Option Bool:=
 some x4
def aI7 (N:Nat)(p:aL)(c:bA):Option Bool:=
 (jM N p).bind fun x6=>
 if x6 then
  if decide (0≤c.Height) then
   if decide (c.Height≤16777216) then
    qN N ((c.Times.length:Int) == (if 11<(a1a.wrap (c.Height+1))then 11 else(a1a.wrap (c.Height+1))))
   else
    qN N false
  else
   qN N false
 else
  qN N false
def tS (N:Nat)(c:bA)(vh:bV)(x22:(List Int))(c3:Int)(c1:List Int):Option (bA×Int):=
 some ((bA.mk (a1a.wrap (c.Height+1)) x22 vh.Bits c3 c1),0)
def pY (N:Nat)(c:bA)(vh:bV)(x22:(List Int))(c3:Int):Option (bA×Int):=
 (b9 4 [] c.Times).bind fun x39=>
 (b9 4 x39 [vh.Time]).bind fun x43=>
 if decide (11<(x43.length:Int)) then
  (sub x43 1 (x43.length:Int)).bind fun x51=>
  tS N c vh x22 c3 x51
 else
  tS N c vh x22 c3 x43
def uU (N:Nat)(p:aL)(c:bA)(vh:bV):Option (bA×Int):=
 (aI7 N p c).bind fun x11=>
 if !x11 then
  some ((bA.mk 0 (a1d 32 0) 0 0 []),6)
 else
  if c.Height == 16777216 then
   some ((bA.mk 0 (a1d 32 0) 0 0 []),4)
  else
   (mH N vh).bind fun x22=>
   (bH 32 x22).bind fun q=>
   (rem (a1a.wrap (c.Height+1)) p.Window).bind fun x32=>
   if x32 == 0 then
    pY N c vh x22 vh.Time
   else
    pY N c vh x22 c.First
def aIb (N:Nat):Option Int:=
 some 0
def aC1 (N:Nat)(p:aL)(x18:bA×Int)(x76:Int)(rec:Int→Option (LR (Unit) (Int)))(x91:Bool):Option (LR (Unit) (Int)):=
 if x91 then
  some (.ret 143)
 else
  rec (a1a.wrap (x76+1))
def oS (N:Nat)(p:aL)(x18:bA×Int):Nat→Int→Option (LR (Unit) (Int))
 |0,_=>none
 |m+1,x76=>
  if decide (x76<(p.Checkpoints.length:Int)) then
   (bB p.Checkpoints x76).bind fun x78=>
   if x78.Height == x18.1.Height then
    (bH 32 x78.Hash).bind fun q_3=>
    aC1 N p x18 x76 (oS N p x18 m) (!(x78.Hash == x18.1.Hash))
   else
    aC1 N p x18 x76 (oS N p x18 m) false
  else
   some (.brk ())
def aDB (N:Nat)(p:aL)(c:bA)(vh:bV)(now:Int):Option Int:=
 (uU N p c vh).bind fun x18=>
 if x18.2 != 0 then
  some x18.2
 else
  (bH 32 vh.Prev).bind fun q=>
  (bH 32 c.Hash).bind fun q_1=>
  if !(vh.Prev == c.Hash) then
   some 144
  else
   if decide (vh.Version<p.Version) then
    some 142
   else
    (y4 N p c).bind fun x37=>
    if x37.2 != 0 then
     some x37.2
    else
     if vh.Bits != x37.1 then
      some 130
     else
      (bH 32 x18.1.Hash).bind fun q_2=>
      (aAp N x18.1.Hash vh.Bits).bind fun x53=>
      if !x53 then
       some 121
      else
       (tF N c.Times).bind fun x60=>
       if decide (vh.Time≤x60) then
        some 140
       else
        if decide ((a1b.wrap ((a1b.wrap now)+(a1b.wrap p.Future)))<(a1b.wrap vh.Time)) then
         some 141
        else
         (oS N p x18 N 0).bind fun q=>match q with
          | .ret v=>some v
          | .brk p2=>
           aIb N
def aGh (N:Nat)(vw:aV)(l2:List aH)(l3:List aC)(l4:List bA)(l5:List aM):Option aV:=
 some (aV.mk vw.Params l2 l3 l4 l5)
def wY (N:Nat)(vw:aV)(l:List Int)(x31:Int)(rec:Int→(List aH)→(List aC)→(List bA)→(List aM)→Option ((List aH)×(List aC)×(List bA)×(List aM)))(aB4:List aH)(fN:List aC)(mT:List bA)(tE:List aM):Option ((List aH)×(List aC)×(List bA)×(List aM)):=
 rec (a1a.wrap (x31+1)) aB4 fN mT tE
def tG (N:Nat)(vw:aV)(l:List Int)(x31:Int)(eE:List aH)(dA:List aC)(dN:List bA)(fD:List aM)(x49:bA)(x56:aH)(x62:aC×aM×Int)(rec:Int→(List aH)→(List aC)→(List bA)→(List aM)→Option ((List aH)×(List aC)×(List bA)×(List aM)))(x76:Bool):Option ((List aH)×(List aC)×(List bA)×(List aM)):=
 if x76 then
  wY N vw l x31 rec eE dA dN fD
 else
  (uU N vw.Params x49 x56.Header).bind fun x83=>
  (b9 104 eE [x56]).bind fun x90=>
  (b9 64 dA [x62.1]).bind fun x95=>
  (b9 72 dN [x83.1]).bind fun aIQ=>
  (b9 24 fD [x62.2.1]).bind fun aQx=>
  wY N vw l x31 rec x90 x95 aIQ aQx
def iB (N:Nat)(vw:aV)(l:List Int):Nat→Int→(List aH)→(List aC)→(List bA)→(List aM)→Option ((List aH)×(List aC)×(List bA)×(List aM))
 |0,_,_,_,_,_=>none
 |m+1,x31,eE,dA,dN,fD=>
  if decide (x31<(l.length:Int)) then
   (bB l x31).bind fun x33=>
   (bB dA (a1a.wrap ((dA.length:Int)-1))).bind fun x41=>
   (bB dN (a1a.wrap ((dN.length:Int)-1))).bind fun x49=>
   (aE7 N vw.Params x41 x49 x33).bind fun x56=>
   (aAH N vw.Params x41 x56).bind fun x62=>
   if x62.2.2 != 0 then
    tG N vw l x31 eE dA dN fD x49 x56 x62 (iB N vw l m) true
   else
    (aDB N vw.Params x49 x56.Header 1073741824).bind fun x74=>
    tG N vw l x31 eE dA dN fD x49 x56 x62 (iB N vw l m) (x74 != 0)
  else
   some (eE,dA,dN,fD)
def aDX (N:Nat)(vw:aV)(l:List Int):Option aV:=
 (b9 104 [] vw.Blocks).bind fun x15=>
 (b9 24 [] vw.Undos).bind fun x18=>
 (b9 64 [] vw.Ledgers).bind fun x23=>
 (b9 72 [] vw.Contexts).bind fun x26=>
 (iB N vw l N 0 x15 x23 x26 x18).bind fun p2=>
 aGh N vw p2.1 p2.2.1 p2.2.2.1 p2.2.2.2
def zM (N:Nat)(v:Int)(l:List Int):Option aV:=
 (aFg N v).bind fun x6=>
 (aDX N x6 l).bind fun x8=>
 some x8
def aEL (N:Nat)(vn:Int):Option (List Int):=
 some [vn,0,0,0]
def aGX (N:Nat)(x:Int):Option Int:=
 if decide (4294967296≤x) then
  none
 else
  if decide (65536≤x) then
   (shr .u64 x 16).bind fun x10=>
   if decide (256≤x10) then
    none
   else
    (aVq (⟨#[0,1,2,2,3,3,3,3,4,4,4,4,4,4,4,4,5,5,5,5,5,5,5,5,5,5,5,5,5,5,5,5,6,6,6,6,6,6,6,6,6,6,6,6,6,6,6,6,6,6,6,6,6,6,6,6,6,6,6,6,6,6,6,6,7,7,7,7,7,7,7,7,7,7,7,7,7,7,7,7,7,7,7,7,7,7,7,7,7,7,7,7,7,7,7,7,7,7,7,7,7,7,7,7,7,7,7,7,7,7,7,7,7,7,7,7,7,7,7,7,7,7,7,7,7,7,7,7,8,8,8,8,8,8,8,8,8,8,8,8,8,8,8,8,8,8,8,8,8,8,8,8,8,8,8,8,8,8,8,8,8,8,8,8,8,8,8,8,8,8,8,8,8,8,8,8,8,8,8,8,8,8,8,8,8,8,8,8,8,8,8,8,8,8,8,8,8,8,8,8,8,8,8,8,8,8,8,8,8,8,8,8,8,8,8,8,8,8,8,8,8,8,8,8,8,8,8,8,8,8,8,8,8,8,8,8,8,8,8,8,8,8,8,8,8,8,8,8,8,8,8,8,8,8,8,8]⟩) (a1f.wrap x10)).bind fun x22=>
    some (a1a.wrap ((a1a.wrap (0+16))+(a1a.wrap x22)))
  else
   none
def aLu (N:Nat)(va:List Int):Nat→Int→Option (LR (Unit) (Int))
 |0,_=>none
 |m+1,vi=>
  if decide (0≤vi) then
   (b7 4 va vi).bind fun x9=>
   if x9 != 0 then
    (aGX N x9).bind fun x17=>
    some (.ret (a1a.wrap ((a1a.wrap (64*vi))+x17)))
   else
    (aLu N va m) (a1a.wrap (vi-1))
  else
   none
def aRa (N:Nat)(va:List Int):Option Int:=
 (aLu N va N 3).bind fun q=>match q with
  | .ret v=>some v
  | .brk p1=>
   none
def aLO (N:Nat)(l1:List Int):Option (List Int):=
 (bH 4 l1).bind fun q=>
 some l1
def aLy (N:Nat)(va:List Int)(vn:Int):Nat→Int→(List Int)→Option (List Int)
 |0,_,_=>none
 |m+1,vi,l2=>
  if decide (vi<4) then
   (b7 4 va (a1a.wrap (vi-(a1a.wrap (a1h vn 64))))).bind fun x28=>
   (shl .u64 x28 (a1g vn 64)).bind fun x31=>
   (b7 4 l2 vi).bind fun x32=>
   if decide ((a1a.wrap (a1h vn 64))<vi) then
    none
   else
    (aLy N va vn m) (a1a.wrap (vi+1)) (l2.set (a1e vi) x31)
  else
   some l2
def aQY (N:Nat)(va:List Int)(vn:Int):Option (List Int):=
 if decide (vn<0) then
  none
 else
  if decide (256≤vn) then
   none
  else
   (aLy N va vn N (a1a.wrap (a1h vn 64)) (a1d 4 0)).bind fun p2=>
   aLO N p2
def aHW (N:Nat)(va:List Int)(vn:Int):Option (List Int):=
 if decide (vn<0) then
  none
 else
  (bH 4 va).bind fun q=>
  (aQY N va vn).bind fun x13=>
  (bH 4 x13).bind fun q_1=>
  some x13
def aEU (N:Nat)(k6:Int):Option ((List Int)×Int):=
 (aEL N (a1b.wrap (bits .and .u32 k6 16777215))).bind fun x10=>
 (bH 4 x10).bind fun q=>
 (shr .u32 k6 24).bind fun x12=>
 if(bits .and .u32 k6 8388608) != 0 then
  none
 else
  (aRa N x10).bind fun x21=>
  if decide (256<(a1a.wrap (x21+(a1a.wrap (8*(a1a.wrap ((a1a.wrap x12)-3))))))) then
   none
  else
   (aHW N x10 (a1a.wrap (8*(a1a.wrap ((a1a.wrap x12)-3))))).bind fun x29=>
   (bH 4 x29).bind fun q_1=>
   if x29 == [0,0,0,0] then
    none
   else
    some (x29,0)
def aLG (N:Nat)(va b:List Int):Nat→Option (LR (Unit) (Int))
 |0=>none
 |m+1=>
  if decide (0≤3) then
   (b7 4 va 3).bind fun x11=>
   (b7 4 b 3).bind fun x14=>
   if decide (x11<x14) then
    some (.ret (-1))
   else
    none
  else
   none
def aIM (N:Nat)(va b:List Int):Option Int:=
 (aLG N va b N).bind fun q=>match q with
  | .ret v=>some v
  | .brk p1=>
   none
def zU (N:Nat)(p:aL):Option Bool:=
 (aEU N p.Genesis.Bits).bind fun x81=>
 (bH 4 x81.1).bind fun q_1=>
 if x81.2 == 0 then
  (aIM N x81.1 p.Limit).bind fun x90=>
  some (decide (x90≤0))
 else
  none
def aAc (N:Nat)(p:aL):Nat→Option Unit
 |0=>none
 |m+1=>
  if decide (0<(p.Checkpoints.length:Int)) then
   none
  else
   some ()
def oM (N:Nat)(p:aL):Option Bool:=
 (bH 4 p.Limit).bind fun q=>
 if p.Limit == [0,0,0,0] then
  none
 else
  if decide (p.Window<1) then
   none
  else
   if decide (4096<p.Window) then
    none
   else
    if decide (p.Spacing<1) then
     none
    else
     if decide (1048576<p.Spacing) then
      none
     else
      if decide (p.Subsidy<0) then
       none
      else
       if decide (2100000000000000<p.Subsidy) then
        none
       else
        if decide (p.Halving<1) then
         none
        else
         if decide (16777216<p.Halving) then
          none
         else
          if decide (p.Maturity<0) then
           none
          else
           if decide (16777216<p.Maturity) then
            none
           else
            (aAc N p N).bind fun p2=>
            zU N p
def aBx (N:Nat)(l0:List Int):Option (List Int):=
 some l0
def qZ (N:Nat)(vn cT:Int):Nat→Int→(List Int)→Option (List Int)
 |0,_,_=>none
 |m+1,x10,aR=>
  if decide (x10<cT) then
   (shr .u64 vn (a1a.wrap (8*x10))).bind fun x18=>
   (bB aR x10).bind fun x20=>
   (qZ N vn cT m) (a1a.wrap (x10+1)) (aR.set (a1e x10) (a1f.wrap x18))
  else
   some aR
def sS (N:Nat)(vn cT:Int):Option (List Int):=
 (mks 1 0 cT).bind fun x8=>
 (qZ N vn cT N 0 x8).bind fun p2=>
 aBx N p2
def gF (N:Nat)(b vs:List Int):Option (List Int):=
 (mks 1 0 (a1a.wrap ((b.length:Int)+(vs.length:Int)))).bind fun x11=>
 (b9 1 (x11.take 0) b).bind fun x14=>
 (b9 1 x14 vs).bind fun x17=>
 some x17
def eP (N:Nat)(b:List Int)(vn:Int):Option (List Int):=
 (sS N (a1b.wrap vn) 4).bind fun x8=>
 (gF N b x8).bind fun x9=>
 some x9
def jZ (N:Nat)(b vh:List Int):Option (List Int):=
 (bH 32 vh).bind fun q=>
 (gF N b vh).bind fun x7=>
 some x7
def mM (N:Nat)(vh:bV):Option (List Int):=
 (eP N [] vh.Version).bind fun x6=>
 (bH 32 vh.Prev).bind fun q=>
 (jZ N x6 vh.Prev).bind fun x10=>
 (bH 32 vh.Root).bind fun q_1=>
 (jZ N x10 vh.Root).bind fun x14=>
 (eP N x14 vh.Time).bind fun x18=>
 (eP N x18 vh.Bits).bind fun x22=>
 (eP N x22 vh.Nonce).bind fun x26=>
 some x26
def aNt (N:Nat)(l0:List Int):Option (List Int):=
 some l0
def aBY (N:Nat)(vn:Int):Nat→Int→(List Int)→Option (List Int)
 |0,_,_=>none
 |m+1,x18,aR=>
  if decide (x18<8) then
   (shr .u64 (a1b.wrap (8*vn)) (a1a.wrap (56-(a1a.wrap (8*x18))))).bind fun x27=>
   (b9 1 aR [a1f.wrap x27]).bind fun x30=>
   (aBY N vn m) (a1a.wrap (x18+1)) x30
  else
   some aR
def aK7 (N:Nat)(vn:Int):Option (List Int):=
 (mkl 1 0 (a1b.wrap (1+(a1g (a1b.wrap (64-(a1g (a1b.wrap (vn+9)) 64))) 64))) (a1b.wrap (9+(a1g (a1b.wrap (64-(a1g (a1b.wrap (vn+9)) 64))) 64)))).bind fun x15=>
 (bB x15 0).bind fun x17=>
 (aBY N vn N 0 (x15.set (a1e 0) 128)).bind fun p2=>
 aNt N p2
def aMJ (N:Nat)(l0:List Int):Option (List Int):=
 some l0
def aB1 (N:Nat)(parts:List (List Int)):Nat→Int→(List Int)→Option (List Int)
 |0,_,_=>none
 |m+1,x8,aR=>
  if decide (x8<(parts.length:Int)) then
   (bB parts x8).bind fun x10=>
   (b9 1 aR x10).bind fun x14=>
   (aB1 N parts m) (a1a.wrap (x8+1)) x14
  else
   some aR
def aK8 (N:Nat)(parts:List (List Int)):Option (List Int):=
 (aB1 N parts N 0 []).bind fun p2=>
 aMJ N p2
def dL (N:Nat)(x vn:Int):Option Int:=
 (mJ N x (a1a.wrap (0-vn))).bind fun x8=>
 some x8
def vV (N:Nat)(bJ:List Int):Option (List Int):=
 (bH 64 bJ).bind fun q=>
 some bJ
def nI (N:Nat):Nat→Int→(List Int)→Option (List Int)
 |0,_,_=>none
 |m+1,vi,cE=>
  if decide (vi<64) then
   (b7 64 cE (a1a.wrap (vi-15))).bind fun x37=>
   (dL N x37 7).bind fun x39=>
   (dL N x37 18).bind fun x44=>
   (shr .u32 x37 3).bind fun x50=>
   (b7 64 cE (a1a.wrap (vi-2))).bind fun x54=>
   (dL N x54 17).bind fun x56=>
   (dL N x54 19).bind fun x61=>
   (shr .u32 x54 10).bind fun x67=>
   (b7 64 cE (a1a.wrap (vi-16))).bind fun x72=>
   (b7 64 cE (a1a.wrap (vi-7))).bind fun x78=>
   (b7 64 cE vi).bind fun x83=>
   (nI N m) (a1a.wrap (vi+1)) (cE.set (a1e vi) (a1c.wrap ((a1c.wrap ((a1c.wrap (x72+(bits .xor .u32 (bits .xor .u32 x39 x44) x50)))+x78))+(bits .xor .u32 (bits .xor .u32 x56 x61) x67))))
  else
   some cE
def wH (N:Nat)(l1:List Int):Option (List Int):=
 (nI N N 16 l1).bind fun p3=>
 vV N p3
def aBP (N:Nat)(block:List Int)(x9:Int)(rec:Int→(List Int)→Option (List Int))(eE:List Int):Option (List Int):=
 rec (a1a.wrap (x9+1)) eE
def fY (N:Nat)(block:List Int)(x9:Int):Nat→Int→(List Int)→Option (List Int)
 |0,_,_=>none
 |m+1,x12,aB4=>
  if decide (x12<4) then
   (b7 64 aB4 x9).bind fun x17=>
   (shl .u32 x17 8).bind fun x19=>
   (b7 64 block (a1a.wrap ((a1a.wrap (4*x9))+x12))).bind fun x24=>
   (fY N block x9 m) (a1a.wrap (x12+1)) (aB4.set (a1e x9) (bits .or .u32 x19 (a1c.wrap x24)))
  else
   some aB4
def kZ (N:Nat)(block:List Int):Nat→Int→(List Int)→Option (List Int)
 |0,_,_=>none
 |m+1,x9,l2=>
  if decide (x9<16) then
   (fY N block x9 N 0 l2).bind fun p6=>
   aBP N block x9 (kZ N block m) p6
  else
   some l2
def tB (N:Nat)(block:List Int):Option (List Int):=
 (kZ N block N 0 (a1d 64 0)).bind fun p4=>
 wH N p4
def vZ (N:Nat)(cO:List Int)(va b c d ve f g vh:Int):Option (List Int):=
 (b7 8 cO 0).bind fun x98=>
 (b7 8 cO 1).bind fun aIQ=>
 (b7 8 cO 2).bind fun aVy=>
 (b7 8 cO 3).bind fun aU4=>
 (b7 8 cO 4).bind fun aFP=>
 (b7 8 cO 5).bind fun aQn=>
 (b7 8 cO 6).bind fun aUP=>
 (b7 8 cO 7).bind fun aIP=>
 some [a1c.wrap (x98+va),a1c.wrap (aIQ+b),a1c.wrap (aVy+c),a1c.wrap (aU4+d),a1c.wrap (aFP+ve),a1c.wrap (aQn+f),a1c.wrap (aUP+g),a1c.wrap (aIP+vh)]
def nM (N:Nat)(cO:List Int)(x18:(List Int)):Nat→Int→Int→Int→Int→Int→Int→Int→Int→Int→Option (Int×Int×Int×Int×Int×Int×Int×Int)
 |0,_,_,_,_,_,_,_,_,_=>none
 |m+1,va_1,b_1,c_1,d_1,ve_1,f_1,g_1,vh_1,x35=>
  if decide (x35<64) then
   (dL N ve_1 6).bind fun x40=>
   (dL N ve_1 11).bind fun x42=>
   (dL N ve_1 25).bind fun x45=>
   (b7 64 aHD x35).bind fun x58=>
   (b7 64 x18 x35).bind fun x62=>
   (dL N va_1 2).bind fun x66=>
   (dL N va_1 13).bind fun x68=>
   (dL N va_1 22).bind fun x71=>
   (nM N cO x18 m) (a1c.wrap ((a1c.wrap ((a1c.wrap ((a1c.wrap ((a1c.wrap (vh_1+(bits .xor .u32 (bits .xor .u32 x40 x42) x45)))+(bits .xor .u32 (bits .and .u32 ve_1 f_1) (bits .and .u32 (bits .xor .u32 (a1i .u32) ve_1) g_1))))+x58))+x62))+(a1c.wrap ((bits .xor .u32 (bits .xor .u32 x66 x68) x71)+(bits .xor .u32 (bits .xor .u32 (bits .and .u32 va_1 b_1) (bits .and .u32 va_1 c_1)) (bits .and .u32 b_1 c_1)))))) va_1 b_1 c_1 (a1c.wrap (d_1+(a1c.wrap ((a1c.wrap ((a1c.wrap ((a1c.wrap (vh_1+(bits .xor .u32 (bits .xor .u32 x40 x42) x45)))+(bits .xor .u32 (bits .and .u32 ve_1 f_1) (bits .and .u32 (bits .xor .u32 (a1i .u32) ve_1) g_1))))+x58))+x62)))) ve_1 f_1 g_1 (a1a.wrap (x35+1))
  else
   some (va_1,b_1,c_1,d_1,ve_1,f_1,g_1,vh_1)
def mN (N:Nat)(cO block:List Int):Option (List Int):=
 (bH 64 block).bind fun q=>
 (tB N block).bind fun x18=>
 (bH 64 x18).bind fun q_1=>
 (b7 8 cO 0).bind fun x19=>
 (b7 8 cO 1).bind fun x21=>
 (b7 8 cO 2).bind fun x23=>
 (b7 8 cO 3).bind fun x25=>
 (b7 8 cO 4).bind fun x27=>
 (b7 8 cO 5).bind fun x29=>
 (b7 8 cO 6).bind fun x31=>
 (b7 8 cO 7).bind fun x33=>
 (nM N cO x18 N x19 x21 x23 x25 x27 x29 x31 x33 0).bind fun p2=>
 vZ N cO p2.1 p2.2.1 p2.2.2.1 p2.2.2.2.1 p2.2.2.2.2.1 p2.2.2.2.2.2.1 p2.2.2.2.2.2.2.1 p2.2.2.2.2.2.2.2
def aIK (N:Nat)(bJ:List Int):Option (List Int):=
 (bH 32 bJ).bind fun q=>
 some bJ
def aFj (N:Nat)(l1:List Int):Nat→Int→(List Int)→Option (List Int)
 |0,_,_=>none
 |m+1,x31,l2=>
  if decide (x31<32) then
   (b7 8 l1 (a1a.wrap (a1h x31 4))).bind fun x37=>
   (shr .u32 x37 (a1a.wrap (24-(a1a.wrap ((a1g x31 4)*8))))).bind fun x43=>
   (b7 32 l2 x31).bind fun x45=>
   (aFj N l1 m) (a1a.wrap (x31+1)) (l2.set (a1e x31) (a1f.wrap x43))
  else
   some l2
def aIS (N:Nat)(l1:List Int):Option (List Int):=
 (aFj N l1 N 0 (a1d 32 0)).bind fun p3=>
 aIK N p3
def aFm (N:Nat)(x14:(List Int)):Nat→Int→(List Int)→Option (List Int)
 |0,_,_=>none
 |m+1,x19,cE=>
  if decide (x19<(a1a.wrap (a1h (x14.length:Int) 64))) then
   (bH 8 cE).bind fun q_1=>
   (sub x14 (a1a.wrap (64*x19)) (x14.length:Int)).bind fun x26=>
   (arp 64 x26).bind fun x27=>
   (mN N cE x27).bind fun x29=>
   (bH 8 x29).bind fun q_2=>
   (aFm N x14 m) (a1a.wrap (x19+1)) x29
  else
   some cE
def aFE (N:Nat)(b:List Int):Option (List Int):=
 (aK7 N (a1b.wrap (b.length:Int))).bind fun x12=>
 (aK8 N [b,x12]).bind fun x14=>
 (aFm N x14 N 0 aAZ).bind fun p4=>
 aIS N p4
def aCo (N:Nat)(b:List Int):Option (List Int):=
 (aFE N b).bind fun x5=>
 (bH 32 x5).bind fun q=>
 (aFE N x5).bind fun x7=>
 (bH 32 x7).bind fun q_1=>
 some x7
def y8 (N:Nat)(vh:bV):Option (List Int):=
 (mM N vh).bind fun x4=>
 (aCo N x4).bind fun x5=>
 (bH 32 x5).bind fun q=>
 some x5
def aKd (N:Nat)(p:aL):Option (aC×Int):=
 (oM N p).bind fun x5=>
 if !x5 then
  some ((aC.mk 0 (a1d 32 0) []),6)
 else
  (y8 N p.Genesis).bind fun x10=>
  (bH 32 x10).bind fun q=>
  some ((aC.mk 0 x10 []),0)
def aBp (N:Nat)(a b:List Int):Option Int:=some (aQl a b)
def aEO (N:Nat)(va b:List Int):Option Int:=
 (aBp N va b).bind fun x7=>
 some x7
def uM (N:Nat)(x:Int):Option Bool:=
 some (x != x)
def yF (N:Nat)(x y:Int):Option Int:=
 (uM N x).bind fun x8=>
 (uM N y).bind fun x10=>
 if x8 then
  if x10 then
   some 0
  else
   some (-1)
 else
  if x10 then
   some 1
  else
   if decide (x<y) then
    some (-1)
   else
    if decide (y<x) then
     some 1
    else
     some 0
def aEz (N:Nat):Option Int:=
 some 0
def u9 (N:Nat)(aBn:List Int):Nat→Int→Option (LR (Unit) (Int))
 |0,_=>none
 |m+1,x8=>
  if decide (x8<(aBn.length:Int)) then
   (bB aBn x8).bind fun x10=>
   if x10 != 0 then
    some (.ret x10)
   else
    (u9 N aBn m) (a1a.wrap (x8+1))
  else
   some (.brk ())
def aFl (N:Nat)(aBn:List Int):Option Int:=
 (u9 N aBn N 0).bind fun q=>match q with
  | .ret v=>some v
  | .brk p2=>
   aEz N
def zL (N:Nat)(va b:aB):Option Int:=
 (bH 32 va.Tx).bind fun q=>
 (bH 32 b.Tx).bind fun q_1=>
 (aEO N va.Tx b.Tx).bind fun x9=>
 (yF N va.Index b.Index).bind fun x14=>
 (aFl N [x9,x14]).bind fun x16=>
 some x16
def aGO (N:Nat)(sum:Int):Option (Int×Bool):=
 some (sum,true)
def wR (N:Nat)(l:List aA)(gL x10:Int)(x12:aA)(rec:Int→Int→Option (LR (Int) (Int×Bool)))(x24:Bool):Option (LR (Int) (Int×Bool)):=
 if x24 then
  some (.ret (0,false))
 else
  rec (a1a.wrap (gL+x12.Output.Value)) (a1a.wrap (x10+1))
def mZ (N:Nat)(l:List aA):Nat→Int→Int→Option (LR (Int) (Int×Bool))
 |0,_,_=>none
 |m+1,gL,x10=>
  if decide (x10<(l.length:Int)) then
   (bB l x10).bind fun x12=>
   if decide (x12.Output.Value<0) then
    wR N l gL x10 x12 (mZ N l m) true
   else
    wR N l gL x10 x12 (mZ N l m) (decide ((a1a.wrap (2100000000000000-gL))<x12.Output.Value))
  else
   some (.brk gL)
def yB (N:Nat)(l:List aA):Option (Int×Bool):=
 (mZ N l N 0 0).bind fun q=>match q with
  | .ret v=>some v
  | .brk p2=>
   aGO N p2
def aBE (N:Nat)(l:aC):Option Bool:=
 (yB N l.Coins).bind fun x65=>
 some x65.2
def nN (N:Nat)(l:aC)(x24:Int)(rec:Int→Option (LR (Unit) (Bool)))(x60:Bool):Option (LR (Unit) (Bool)):=
 if x60 then
  some (.ret false)
 else
  rec (a1a.wrap (x24+1))
def nA (N:Nat)(l:aC)(x24:Int)(x27:aA)(rec:Int→Option (LR (Unit) (Bool)))(x43:Bool):Option (LR (Unit) (Bool)):=
 if x43 then
  some (.ret false)
 else
  if decide (520<(x27.Output.Script.length:Int)) then
   nN N l x24 rec true
  else
   if decide (x27.Height<1) then
    nN N l x24 rec true
   else
    nN N l x24 rec (decide (l.Height<x27.Height))
def fV (N:Nat)(l:aC):Nat→Int→Option (LR (Unit) (Bool))
 |0,_=>none
 |m+1,x24=>
  if decide (x24<(l.Coins.length:Int)) then
   (bB l.Coins x24).bind fun x27=>
   if decide (0<x24) then
    (bB l.Coins (a1a.wrap (x24-1))).bind fun x36=>
    (zL N x36.Out x27.Out).bind fun x41=>
    nA N l x24 x27 (fV N l m) (decide (0≤x41))
   else
    nA N l x24 x27 (fV N l m) false
  else
   some (.brk ())
def kY (N:Nat)(l:aC)(x20:Bool):Option Bool:=
 if x20 then
  some false
 else
  (fV N l N 0).bind fun q=>match q with
   | .ret v=>some v
   | .brk p3=>
    aBE N l
def pP (N:Nat)(l:aC):Option Bool:=
 if decide (l.Height<0) then
  kY N l true
 else
  if decide (16777216<l.Height) then
   kY N l true
  else
   kY N l (decide (100000<(l.Coins.length:Int)))
def aCa (N:Nat)(b:List Int)(vn:Int):Option (List Int):=
 (sS N (a1b.wrap vn) 2).bind fun x8=>
 (gF N b x8).bind fun x9=>
 some x9
def rJ (N:Nat)(b:List Int)(vn:Int):Option (List Int):=
 (sS N vn 8).bind fun x7=>
 (gF N b x7).bind fun x8=>
 some x8
def iJ (N:Nat)(b:List Int)(vn:Int):Option (List Int):=
 if decide (vn<253) then
  (gF N b [a1f.wrap vn]).bind fun x12=>
  some x12
 else
  if decide (vn<65536) then
   (gF N b [253]).bind fun x18=>
   (aCa N x18 (IntKind.u16.wrap vn)).bind fun x21=>
   some x21
  else
   if decide (vn<4294967296) then
    (gF N b [254]).bind fun x27=>
    (eP N x27 (a1c.wrap vn)).bind fun x30=>
    some x30
   else
    (gF N b [255]).bind fun x33=>
    (rJ N x33 vn).bind fun x35=>
    some x35
def aJh (N:Nat)(o:aB):Option (List Int):=
 (bH 32 o.Tx).bind fun q=>
 (jZ N [] o.Tx).bind fun x5=>
 (eP N x5 o.Index).bind fun x8=>
 some x8
def nV (N:Nat)(b vs:List Int):Option (List Int):=
 (iJ N b (a1b.wrap (vs.length:Int))).bind fun x9=>
 (gF N x9 vs).bind fun x11=>
 some x11
def aJ6 (N:Nat)(l0:List Int):Option (List Int):=
 some l0
def aGv (N:Nat)(t:aD)(x79:Int)(rec:Int→(List Int)→Option (List Int))(d9:List Int):Option (List Int):=
 rec (a1a.wrap (x79+1)) d9
def sK (N:Nat)(t:aD)(x79:Int)(x81:bI):Nat→Int→(List Int)→Option (List Int)
 |0,_,_=>none
 |m+1,x93,g8=>
  if decide (x93<(x81.Witness.length:Int)) then
   (bB x81.Witness x93).bind fun x95=>
   (nV N [] x95).bind fun x99=>
   (b9 1 g8 x99).bind fun aCy=>
   (sK N t x79 x81 m) (a1a.wrap (x93+1)) aCy
  else
   some g8
def pL (N:Nat)(t:aD):Nat→Int→(List Int)→Option (List Int)
 |0,_,_=>none
 |m+1,x79,aR=>
  if decide (x79<(t.Inputs.length:Int)) then
   (bB t.Inputs x79).bind fun x81=>
   (iJ N [] (a1b.wrap (x81.Witness.length:Int))).bind fun x88=>
   (b9 1 aR x88).bind fun x89=>
   (sK N t x79 x81 N 0 x89).bind fun p6=>
   aGv N t x79 (pL N t m) p6
  else
   some aR
def aFO (N:Nat)(t:aD)(bG:Bool)(bJ:List Int):Option (List Int):=
 (eP N [] t.Lock).bind fun x71=>
 (b9 1 bJ x71).bind fun x72=>
 if !bG then
  some x72
 else
  (pL N t N 0 x72).bind fun p4=>
  aJ6 N p4
def sP (N:Nat)(t:aD)(bG:Bool):Nat→Int→(List Int)→Option (List Int)
 |0,_,_=>none
 |m+1,x52,cE=>
  if decide (x52<(t.Outputs.length:Int)) then
   (bB t.Outputs x52).bind fun x54=>
   (rJ N [] (a1b.wrap x54.Value)).bind fun x60=>
   (b9 1 cE x60).bind fun x61=>
   (nV N [] x54.Script).bind fun x65=>
   (b9 1 x61 x65).bind fun x66=>
   (sP N t bG m) (a1a.wrap (x52+1)) x66
  else
   some cE
def aF1 (N:Nat)(t:aD)(bG:Bool)(l1:List Int):Option (List Int):=
 (iJ N [] (a1b.wrap (t.Outputs.length:Int))).bind fun x47=>
 (b9 1 l1 x47).bind fun x48=>
 (sP N t bG N 0 x48).bind fun p7=>
 aFO N t bG p7
def tJ (N:Nat)(t:aD)(bG:Bool):Nat→Int→(List Int)→Option (List Int)
 |0,_,_=>none
 |m+1,x27,l1_3=>
  if decide (x27<(t.Inputs.length:Int)) then
   (bB t.Inputs x27).bind fun x29=>
   (aJh N x29.Prev).bind fun x34=>
   (b9 1 l1_3 x34).bind fun x35=>
   (eP N [] x29.Sequence).bind fun x39=>
   (b9 1 x35 x39).bind fun x40=>
   (tJ N t bG m) (a1a.wrap (x27+1)) x40
  else
   some l1_3
def aEg (N:Nat)(t:aD)(bG:Bool):Option (List Int):=
 (eP N [] t.Version).bind fun x16=>
 (iJ N [] (a1b.wrap (t.Inputs.length:Int))).bind fun x22=>
 (b9 1 x16 x22).bind fun x23=>
 (tJ N t bG N 0 x23).bind fun p8=>
 aF1 N t bG p8
def aI9 (N:Nat)(t:aD):Option Bool:=
 (aEg N t true).bind fun x60=>
 some (decide ((x60.length:Int)≤20000))
def aJd (N:Nat)(t:aD)(x39:Int)(rec:Int→Option (LR (Unit) (Bool))):Option (LR (Unit) (Bool)):=
 rec (a1a.wrap (x39+1))
def aFr (N:Nat)(t:aD)(x39:Int)(x41:bI):Nat→Int→Option (LR (Unit) (Bool))
 |0,_=>none
 |m+1,x50=>
  if decide (x50<(x41.Witness.length:Int)) then
   (bB x41.Witness x50).bind fun x52=>
   if decide (520<(x52.length:Int)) then
    some (.ret false)
   else
    (aFr N t x39 x41 m) (a1a.wrap (x50+1))
  else
   some (.brk ())
def yQ (N:Nat)(t:aD):Nat→Int→Option (LR (Unit) (Bool))
 |0,_=>none
 |m+1,x39=>
  if decide (x39<(t.Inputs.length:Int)) then
   (bB t.Inputs x39).bind fun x41=>
   if decide (32<(x41.Witness.length:Int)) then
    some (.ret false)
   else
    (aFr N t x39 x41 N 0).bind fun q=>match q with
     | .ret v=>some (.ret v)
     | .brk p6=>
      aJd N t x39 (yQ N t m)
  else
   some (.brk ())
def aFy (N:Nat)(t:aD):Option Bool:=
 (yQ N t N 0).bind fun q=>match q with
  | .ret v=>some v
  | .brk p4=>
   aI9 N t
def aFo (N:Nat)(t:aD)(x22:Int)(rec:Int→Option (LR (Unit) (Bool)))(x34:Bool):Option (LR (Unit) (Bool)):=
 if x34 then
  some (.ret false)
 else
  rec (a1a.wrap (x22+1))
def uF (N:Nat)(t:aD):Nat→Int→Option (LR (Unit) (Bool))
 |0,_=>none
 |m+1,x22=>
  if decide (x22<(t.Outputs.length:Int)) then
   (bB t.Outputs x22).bind fun x24=>
   if decide (x24.Value<0) then
    aFo N t x22 (uF N t m) true
   else
    aFo N t x22 (uF N t m) (decide (520<(x24.Script.length:Int)))
  else
   some (.brk ())
def aB9 (N:Nat)(t:aD)(x18:Bool):Option Bool:=
 if x18 then
  some false
 else
  (uF N t N 0).bind fun q=>match q with
   | .ret v=>some v
   | .brk p7=>
    aFy N t
def aFz (N:Nat)(t:aD):Option Bool:=
 if decide (64<(t.Inputs.length:Int)) then
  aB9 N t true
 else
  aB9 N t (decide (64<(t.Outputs.length:Int)))
def aD7 (N:Nat)(t:aD)(bG:Bool):Option ((List Int)×Int):=
 (aFz N t).bind fun x7=>
 if !x7 then
  some ([],4)
 else
  (aEg N t bG).bind fun x11=>
  some (x11,0)
def aCr (N:Nat)(l0:List Int):Option ((List Int)×Int):=
 if decide (100000<(l0.length:Int)) then
  some ([],4)
 else
  some (l0,0)
def vX (N:Nat)(b:aH):Nat→Int→(List Int)→Option (LR ((List Int)) ((List Int)×Int))
 |0,_,_=>none
 |m+1,x24,aR=>
  if decide (x24<(b.Txs.length:Int)) then
   (bB b.Txs x24).bind fun x26=>
   (aD7 N x26 true).bind fun x30=>
   if x30.2 != 0 then
    some (.ret ([],4))
   else
    (b9 1 aR x30.1).bind fun x37=>
    (vX N b m) (a1a.wrap (x24+1)) x37
  else
   some (.brk aR)
def aCj (N:Nat)(b:aH):Option ((List Int)×Int):=
 if decide (256<(b.Txs.length:Int)) then
  some ([],4)
 else
  (mM N b.Header).bind fun x15=>
  (iJ N x15 (a1b.wrap (b.Txs.length:Int))).bind fun x20=>
  (vX N b N 0 x20).bind fun q=>match q with
   | .ret v=>some v
   | .brk p2=>
    aCr N p2
def aNA (N:Nat)(o:aB):Option Bool:=
 some (fR o.Tx (a1d 32 0) ((o.Index == 4294967295)&&true))
def zI (N:Nat)(x2:Bool):Option Bool:=
 some x2
def vF (N:Nat)(t:aD):Option Bool:=
 if(t.Inputs.length:Int) == 1 then
  (bB t.Inputs 0).bind fun x10=>
  (aNA N x10.Prev).bind fun x13=>
  zI N x13
 else
  zI N false
def aLP (N:Nat):Option Bool:=
 some true
def vJ (N:Nat)(l:List aW):Nat→Int→Int→Option (LR (Unit) (Bool))
 |0,_,_=>none
 |m+1,sum,x8=>
  if decide (x8<(l.length:Int)) then
   (bB l x8).bind fun x10=>
   if decide ((a1a.wrap (2100000000000000-sum))<x10.Value) then
    some (.ret false)
   else
    (vJ N l m) (a1a.wrap (sum+x10.Value)) (a1a.wrap (x8+1))
  else
   some (.brk ())
def aIp (N:Nat)(l:List aW):Option Bool:=
 (vJ N l N 0 0).bind fun q=>match q with
  | .ret v=>some v
  | .brk p2=>
   aLP N
def aDG (N:Nat)(x46:Bool):Option Int:=
 if x46 then
  some 92
 else
  some 0
def aHp (N:Nat)(t:aD)(l1:List (aB×Bool)):Option Int:=
 if(mR kH l1 (aB.mk (a1d 32 0) 4294967295) false) then
  (vF N t).bind fun x44=>
  aDG N (!x44)
 else
  aDG N false
def aDE (N:Nat)(t:aD):Nat→Int→(List (aB×Bool))→Option (LR ((List (aB×Bool))) (Int))
 |0,_,_=>none
 |m+1,x27,bJ=>
  if decide (x27<(t.Inputs.length:Int)) then
   (bB t.Inputs x27).bind fun x29=>
   if(mR kH bJ x29.Prev false) then
    some (.ret 91)
   else
    (aDE N t m) (a1a.wrap (x27+1)) (uG kH bJ x29.Prev true)
  else
   some (.brk bJ)
def aDL (N:Nat)(t:aD)(x18:Bool):Option Int:=
 if x18 then
  some 93
 else
  (aIp N t.Outputs).bind fun x21=>
  if !x21 then
   some 90
  else
   (aDE N t N 0 []).bind fun q=>match q with
    | .ret v=>some v
    | .brk p4=>
     aHp N t p4
def aIT (N:Nat)(t:aD):Option Int:=
 (aFz N t).bind fun x7=>
 if !x7 then
  some 4
 else
  if(t.Inputs.length:Int) == 0 then
   aDL N t true
  else
   aDL N t ((t.Outputs.length:Int) == 0)
def aDV (N:Nat)(t:aD)(bG:Bool):Option (List Int):=
 (aD7 N t bG).bind fun x10=>
 if x10.2 != 0 then
  some [0,0,0,0,0,0,0,0,0,0,0,0,0,0,0,0,0,0,0,0,0,0,0,0,0,0,0,0,0,0,0,0]
 else
  (aCo N x10.1).bind fun x17=>
  (bH 32 x17).bind fun q=>
  some x17
def aNa (N:Nat)(t:aD):Option (List Int):=
 (aDV N t false).bind fun x4=>
 (bH 32 x4).bind fun q=>
 some x4
def aCW (N:Nat):Option Int:=
 some 0
def aDb (N:Nat)(l:List aD)(x74:Int)(rec:Int→(List (aB×Bool))→Option (LR (Unit) (Int)))(d9:List (aB×Bool)):Option (LR (Unit) (Int)):=
 rec (a1a.wrap (x74+1)) d9
def oV (N:Nat)(l:List aD)(x74:Int)(x76:aD):Nat→Int→(List (aB×Bool))→Option (LR ((List (aB×Bool))) (Int))
 |0,_,_=>none
 |m+1,x81,g8=>
  if decide (x81<(x76.Inputs.length:Int)) then
   (bB x76.Inputs x81).bind fun x83=>
   if(mR kH g8 x83.Prev false) then
    some (.ret 91)
   else
    (oV N l x74 x76 m) (a1a.wrap (x81+1)) (uG kH g8 x83.Prev true)
  else
   some (.brk g8)
def mA (N:Nat)(l:List aD):Nat→Int→(List (aB×Bool))→Option (LR (Unit) (Int))
 |0,_,_=>none
 |m+1,x74,aR=>
  if decide (x74<(l.length:Int)) then
   (bB l x74).bind fun x76=>
   (oV N l x74 x76 N 0 aR).bind fun q=>match q with
    | .ret v=>some (.ret v)
    | .brk p6=>
     aDb N l x74 (mA N l m) p6
  else
   some (.brk ())
def aC6 (N:Nat)(l:List aD):Option Int:=
 (mA N l N 0 []).bind fun q=>match q with
  | .ret v=>some v
  | .brk p4=>
   aCW N
def aCS (N:Nat)(l:List aD)(l0:List (List Int×Int))(x43:Int)(rec:Int→Option (LR (Unit) (Int))):Option (LR (Unit) (Int)):=
 rec (a1a.wrap (x43+1))
def wI (N:Nat)(l:List aD)(l0:List (List Int×Int))(x43:Int)(x46:aD)(x51:Int)(rec:Int→Option (LR (Unit) (Int)))(x68:Bool):Option (LR (Unit) (Int)):=
 if x68 then
  some (.ret 101)
 else
  rec (a1a.wrap (x51+1))
def kA (N:Nat)(l:List aD)(l0:List (List Int×Int))(x43:Int)(x46:aD):Nat→Int→Option (LR (Unit) (Int))
 |0,_=>none
 |m+1,x51=>
  if decide (x51<(x46.Inputs.length:Int)) then
   (bB x46.Inputs x51).bind fun x53=>
   (bH 32 x53.Prev.Tx).bind fun q=>
   if aEl y0 l0 x53.Prev.Tx then
    wI N l l0 x43 x46 x51 (kA N l l0 x43 x46 m) (decide (x43≤(mR y0 l0 x53.Prev.Tx 0)))
   else
    wI N l l0 x43 x46 x51 (kA N l l0 x43 x46 m) false
  else
   some (.brk ())
def gP (N:Nat)(l:List aD)(l0:List (List Int×Int)):Nat→Int→Option (LR (Unit) (Int))
 |0,_=>none
 |m+1,x43=>
  if decide (x43<(l.length:Int)) then
   (bB l x43).bind fun x46=>
   (kA N l l0 x43 x46 N 0).bind fun q=>match q with
    | .ret v=>some (.ret v)
    | .brk p9=>
     aCS N l l0 x43 (gP N l l0 m)
  else
   some (.brk ())
def aCL (N:Nat)(l:List aD)(l0:List (List Int×Int)):Option Int:=
 (gP N l l0 N 0).bind fun q=>match q with
  | .ret v=>some v
  | .brk p7=>
   aC6 N l
def nD (N:Nat)(l:List aD):Nat→Int→(List (List Int×Int))→Option (LR ((List (List Int×Int))) (Int))
 |0,_,_=>none
 |m+1,x23,l0_4=>
  if decide (x23<(l.length:Int)) then
   (bB l x23).bind fun x26=>
   (aNa N x26).bind fun x29=>
   (bH 32 x29).bind fun q_1=>
   if aEl y0 l0_4 x29 then
    some (.ret 91)
   else
    (nD N l m) (a1a.wrap (x23+1)) (uG y0 l0_4 x29 x23)
  else
   some (.brk l0_4)
def aHN (N:Nat)(l:List aD):Option Int:=
 (nD N l N 0 []).bind fun q=>match q with
  | .ret v=>some v
  | .brk p11=>
   aCL N l p11
def aIl (N:Nat)(t:aD):Option (List Int):=
 (aDV N t true).bind fun x4=>
 (bH 32 x4).bind fun q=>
 some x4
def aDI (N:Nat)(l vr:List Int):Option (List Int):=
 (bH 32 l).bind fun q=>
 (b9 1 [1] l).bind fun x9=>
 (bH 32 vr).bind fun q_1=>
 (b9 1 x9 vr).bind fun x12=>
 (aFE N x12).bind fun x14=>
 (bH 32 x14).bind fun q_2=>
 some x14
def aAT (N:Nat)(l0:List (List (List Int))):Option (List (List (List Int))):=
 some l0
def aA6 (N:Nat)(aR:List (List (List Int)))(rec:(List (List Int))→(List (List (List Int)))→Option (List (List (List Int))))(l1:List (List Int)):Option (List (List (List Int))):=
 (aHG 32 l1).bind fun q=>
 (b9 24 aR [l1]).bind fun x45=>
 rec l1 x45
def uP (N:Nat)(l_1:List (List Int))(aR:List (List (List Int)))(vi:Int)(rec:Int→(List (List Int))→Option (List (List Int)))(cE:List (List Int)):Option (List (List Int)):=
 rec (a1a.wrap (vi+2)) cE
def lU (N:Nat)(l_1:List (List Int))(aR:List (List (List Int))):Nat→Int→(List (List Int))→Option (List (List Int))
 |0,_,_=>none
 |m+1,vi,bJ=>
  if decide (vi<(l_1.length:Int)) then
   if decide ((a1a.wrap (vi+1))<(l_1.length:Int)) then
    (bB l_1 vi).bind fun x25=>
    (bH 32 x25).bind fun q_1=>
    (bB l_1 (a1a.wrap (vi+1))).bind fun x30=>
    (bH 32 x30).bind fun q_2=>
    (aDI N x25 x30).bind fun x32=>
    (bH 32 x32).bind fun q_3=>
    (b9 32 bJ [x32]).bind fun x34=>
    uP N l_1 aR vi (lU N l_1 aR m) x34
   else
    (bB l_1 vi).bind fun x38=>
    (bH 32 x38).bind fun q_4=>
    (b9 32 bJ [x38]).bind fun x41=>
    uP N l_1 aR vi (lU N l_1 aR m) x41
  else
   some bJ
def oZ (N:Nat):Nat→(List (List Int))→(List (List (List Int)))→Option (List (List (List Int)))
 |0,_,_=>none
 |m+1,l_1,aR=>
  if decide (1<(l_1.length:Int)) then
   (lU N l_1 aR N 0 []).bind fun p4=>
   aA6 N aR (oZ N m) p4
  else
   some aR
def aEQ (N:Nat)(l:List (List Int)):Option (List (List (List Int))):=
 (oZ N N l [l]).bind fun p2=>
 aAT N p2
def tA (N:Nat)(l:List (List Int))(x11:Bool):Option (List Int):=
 if x11 then
  some [0,0,0,0,0,0,0,0,0,0,0,0,0,0,0,0,0,0,0,0,0,0,0,0,0,0,0,0,0,0,0,0]
 else
  (aEQ N l).bind fun x14=>
  (bB x14 (a1a.wrap ((x14.length:Int)-1))).bind fun x19=>
  (bB x19 0).bind fun x21=>
  (bH 32 x21).bind fun q=>
  some x21
def aAi (N:Nat)(l:List (List Int)):Option (List Int):=
 if(l.length:Int) == 0 then
  tA N l true
 else
  tA N l (decide (1024<(l.length:Int)))
def aEh (N:Nat)(l1:List (List Int)):Option (List Int):=
 (aHG 32 l1).bind fun q=>
 (aAi N l1).bind fun x19=>
 (bH 32 x19).bind fun q_1=>
 some x19
def aAL (N:Nat)(l:List aD):Nat→Int→(List (List Int))→Option (List (List Int))
 |0,_,_=>none
 |m+1,x8,bJ=>
  if decide (x8<(l.length:Int)) then
   (bB l x8).bind fun x10=>
   (aIl N x10).bind fun x14=>
   (bH 32 x14).bind fun q_2=>
   (b9 32 bJ [x14]).bind fun x16=>
   (aAL N l m) (a1a.wrap (x8+1)) x16
  else
   some bJ
def aE9 (N:Nat)(l:List aD):Option (List Int):=
 (aAL N l N 0 []).bind fun p2=>
 aEh N p2
def zJ (N:Nat)(b:aH):Option Int:=
 (aHN N b.Txs).bind fun x52=>
 if x52 != 0 then
  some x52
 else
  (aE9 N b.Txs).bind fun x58=>
  (bH 32 b.Header.Root).bind fun q=>
  (bH 32 x58).bind fun q_1=>
  if !(x58 == b.Header.Root) then
   some 110
  else
   some 0
def sN (N:Nat)(b:aH):Nat→Int→Option (LR (Unit) (Int))
 |0,_=>none
 |m+1,x40=>
  if decide (x40<(b.Txs.length:Int)) then
   (bB b.Txs x40).bind fun x42=>
   (aIT N x42).bind fun x45=>
   if x45 != 0 then
    some (.ret x45)
   else
    (sN N b m) (a1a.wrap (x40+1))
  else
   some (.brk ())
def aC9 (N:Nat)(b:aH):Option Int:=
 (sN N b N 0).bind fun q=>match q with
  | .ret v=>some v
  | .brk p3=>
   zJ N b
def yO (N:Nat)(b:aH):Nat→Int→Option (LR (Unit) (Int))
 |0,_=>none
 |m+1,x26=>
  if decide (x26<(b.Txs.length:Int)) then
   (bB b.Txs x26).bind fun x29=>
   (vF N x29).bind fun x32=>
   if x32 != (x26 == 0) then
    some (.ret 111)
   else
    (yO N b m) (a1a.wrap (x26+1))
  else
   some (.brk ())
def aAv (N:Nat)(b:aH):Option Int:=
 (aCj N b).bind fun x13=>
 if x13.2 != 0 then
  some x13.2
 else
  if(b.Txs.length:Int) == 0 then
   some 93
  else
   (yO N b N 0).bind fun q=>match q with
    | .ret v=>some v
    | .brk p4=>
     aC9 N b
def aLH (N:Nat):Option Bool:=
 some true
def aLQ (N:Nat)(t:aD):Nat→Int→Option (LR (Unit) (Bool))
 |0,_=>none
 |m+1,x15=>
  if decide (x15<(t.Inputs.length:Int)) then
   (bB t.Inputs x15).bind fun x17=>
   if x17.Sequence != 4294967295 then
    some (.ret false)
   else
    (aLQ N t m) (a1a.wrap (x15+1))
  else
   some (.brk ())
def aP6 (N:Nat)(t:aD)(height:Int):Option Bool:=
 if decide ((a1a.wrap t.Lock)≤height) then
  some true
 else
  (aLQ N t N 0).bind fun q=>match q with
   | .ret v=>some v
   | .brk p2=>
    aLH N
def aDc (N:Nat)(l:aC)(b:aH)(x15:Bool):Option Int:=
 if x15 then
  some 6
 else
  if l.Height == 16777216 then
   some 4
  else
   (bH 32 b.Header.Prev).bind fun q=>
   (bH 32 l.Tip).bind fun q_1=>
   if !(b.Header.Prev == l.Tip) then
    some 144
   else
    (aAv N b).bind fun x26=>
    if x26 != 0 then
     some x26
    else
     (bB b.Txs 0).bind fun x32=>
     (bB x32.Inputs 0).bind fun x35=>
     if x35.Sequence != (a1c.wrap (a1a.wrap (l.Height+1))) then
      some 102
     else
      (aP6 N x32 (a1a.wrap (l.Height+1))).bind fun x50=>
      if !x50 then
       some 85
      else
       some 0
def aHr (N:Nat)(p:aL)(l:aC)(b:aH):Option Int:=
 (oM N p).bind fun x9=>
 if !x9 then
  aDc N l b true
 else
  (pP N l).bind fun x13=>
  aDc N l b (!x13)
def aHL (N:Nat)(va b:List Int):Option Bool:=
 some ((gM va).toList == (gM b).toList)
def dQ (N:Nat)(vs:List Int):Option ((List Int)):=(b9 1 [] vs).bind fun x7=>
 some x7
def iL (N:Nat)(c:aA):Option aA:=
 (dQ N c.Output.Script).bind fun x6=>
 some (aA.mk c.Out (aW.mk c.Output.Value x6) c.Height c.Coinbase)
def aJT (N:Nat)(aI:aL)(cH:Int)(cX:List (aB×aA))(bZ:List aA)(dH:Int)(t:aD):Nat→Option Unit
 |0=>none
 |m+1=>
  none
def aF4 (N:Nat)(aI:aL)(cH:Int)(cX:List (aB×aA))(bZ:List aA)(dH:Int)(t:aD):Option Int:=
 (aJT N aI cH cX bZ dH t N).bind fun p1=>
 none
def zQ (N:Nat)(l0:List aA):Option (List aA):=
 some l0
def rX (N:Nat)(t:aD)(height:Int)(jW:Bool)(x13:(List Int)):Nat→Int→(List aA)→Option (List aA)
 |0,_,_=>none
 |m+1,x17,aR=>
  if decide (x17<(t.Outputs.length:Int)) then
   (bB t.Outputs x17).bind fun x20=>
   (b9 88 aR [aA.mk (aB.mk x13 (a1c.wrap x17)) x20 height jW]).bind fun x33=>
   (rX N t height jW x13 m) (a1a.wrap (x17+1)) x33
  else
   some aR
def s9 (N:Nat)(t:aD)(height:Int)(jW:Bool):Option (List aA):=
 (aNa N t).bind fun x13=>
 (bH 32 x13).bind fun q=>
 (rX N t height jW x13 N 0 []).bind fun p2=>
 zQ N p2
def aCz (N:Nat)(aI:aL)(cH:Int)(bZ:List aA)(dH:Int)(l1:List (aB×aA)):Option (Int×(List (aB×aA))):=
 some (0,l1)
def aCB (N:Nat)(aI:aL)(cH:Int)(bZ:List aA)(dH:Int)(x17:(List aA)):Nat→Int→(List (aB×aA))→Option (LR ((List (aB×aA))) (Int×(List (aB×aA))))
 |0,_,_=>none
 |m+1,x19,bJ=>
  if decide (x19<(x17.length:Int)) then
   (bB x17 x19).bind fun x21=>
   if aEl r8 bJ x21.Out then
    some (.ret (91,bJ))
   else
    (aCB N aI cH bZ dH x17 m) (a1a.wrap (x19+1)) (uG r8 bJ x21.Out x21)
  else
   some (.brk bJ)
def aGL (N:Nat)(aI:aL)(cH:Int)(cX:List (aB×aA))(bZ:List aA)(dH:Int)(t:aD)(jW:Bool):Option (Int×(List (aB×aA))):=
 (s9 N t cH jW).bind fun x17=>
 (aCB N aI cH bZ dH x17 N 0 cX).bind fun q=>match q with
  | .ret v=>some v
  | .brk p2=>
   aCz N aI cH bZ dH p2
def rV (N:Nat)(p:aL)(height:Int)(x11:Bool):Option Int:=
 if x11 then
  some 0
 else
  (quo .i64 height p.Halving).bind fun x17=>
  (shr .i64 p.Subsidy x17).bind fun x18=>
  some x18
def tK (N:Nat)(p:aL)(height:Int):Option Int:=
 (oM N p).bind fun x6=>
 if !x6 then
  rV N p height true
 else
  rV N p height (decide (height<0))
def qX (N:Nat)(va b:aA):Option Int:=
 (zL N va.Out b.Out).bind fun x9=>
 some x9
def aAJ (N:Nat)(vs:List aA):Option (List aA):=mK vs
def rZ (N:Nat)(aI:aL)(cH:Int)(cX:List (aB×aA))(bZ:List aA)(dH:Int):Option ((List aA)):=if∀e∈cX,e.2.Output.Script.length≤100000 then mK (cX.map Prod.snd)else none
def aEZ (N:Nat)(p:aL)(l:aC)(b:aH)(fD:List (aB×aA))(dJ:Int):Option (aC×aM×Int):=
 (tK N p (a1a.wrap (l.Height+1))).bind fun aCl=>
 if decide ((a1a.wrap (aCl+0))<dJ) then
  some ((aC.mk 0 (a1d 32 0) []),aM.mk [],231)
 else
  (rZ N p (a1a.wrap (l.Height+1)) fD [] 0).bind fun aFP=>
  (yB N aFP).bind fun aX6=>
  if !aX6.2 then
   some ((aC.mk 0 (a1d 32 0) []),aM.mk [],90)
  else
   if decide (100000<(aFP.length:Int)) then
    some ((aC.mk 0 (a1d 32 0) []),aM.mk [],4)
   else
    (y8 N b.Header).bind fun aMn=>
    (bH 32 aMn).bind fun q=>
    some ((aC.mk (a1a.wrap (l.Height+1)) aMn aFP),aM.mk [],0)
def aE0 (N:Nat)(p:aL)(l:aC)(b:aH)(fD:List (aB×aA))(x85:aD):Nat→Int→Int→Option Int
 |0,_,_=>none
 |m+1,made_1,x89=>
  if decide (x89<(x85.Outputs.length:Int)) then
   (bB x85.Outputs x89).bind fun x91=>
   (aE0 N p l b fD x85 m) (a1a.wrap (made_1+x91.Value)) (a1a.wrap (x89+1))
  else
   some made_1
def aE4 (N:Nat)(p:aL)(l:aC)(b:aH)(fD:List (aB×aA)):Option (aC×aM×Int):=
 (bB b.Txs 0).bind fun x85=>
 (aE0 N p l b fD x85 N 0 0).bind fun p4=>
 aEZ N p l b fD p4
def zS (N:Nat)(p:aL)(l:aC)(b:aH)(x57:Int)(tE:List (aB×aA))(x60:aD)(rec:Int→(List (aB×aA))→Option (LR ((List (aB×aA))) (aC×aM×Int))):Option (LR ((List (aB×aA))) (aC×aM×Int)):=
 (aGL N p (a1a.wrap (l.Height+1)) tE [] 0 x60 (x57 == 0)).bind fun x76=>
 if x76.1 != 0 then
  some (.ret ((aC.mk 0 (a1d 32 0) []),aM.mk [],x76.1))
 else
  rec (a1a.wrap (x57+1)) x76.2
def r5 (N:Nat)(p:aL)(l:aC)(b:aH):Nat→Int→(List (aB×aA))→Option (LR ((List (aB×aA))) (aC×aM×Int))
 |0,_,_=>none
 |m+1,x57,tE=>
  if decide (x57<(b.Txs.length:Int)) then
   (bB b.Txs x57).bind fun x60=>
   if decide (0<x57) then
    (aF4 N p (a1a.wrap (l.Height+1)) tE [] 0 x60).bind fun x66=>
    if x66 != 0 then
     some (.ret ((aC.mk 0 (a1d 32 0) []),aM.mk [],x66))
    else
     zS N p l b x57 tE x60 (r5 N p l b m)
   else
    zS N p l b x57 tE x60 (r5 N p l b m)
  else
   some (.brk tE)
def aEW (N:Nat)(p:aL)(l:aC)(b:aH)(l5:List (aB×aA)):Option (aC×aM×Int):=
 (r5 N p l b N 0 l5).bind fun q=>match q with
  | .ret v=>some v
  | .brk p5=>
   aE4 N p l b p5
def aEX (N:Nat)(p:aL)(l:aC)(b:aH):Nat→Int→(List (aB×aA))→Option (List (aB×aA))
 |0,_,_=>none
 |m+1,x42,l5_3=>
  if decide (x42<(l.Coins.length:Int)) then
   (bB l.Coins x42).bind fun x44=>
   (aEX N p l b m) (a1a.wrap (x42+1)) (uG r8 l5_3 x44.Out x44)
  else
   some l5_3
def aHV (N:Nat)(p:aL)(l:aC)(b:aH):Option (aC×aM×Int):=
 (aHr N p l b).bind fun x26=>
 if x26 != 0 then
  some ((aC.mk 0 (a1d 32 0) []),aM.mk [],x26)
 else
  (aEX N p l b N 0 []).bind fun p7=>
  aEW N p l b p7
def aJK (N:Nat)(l:List aH)(c1:Int)(aCO:List Int)(aSR:List aA)(l2:List aM):Option (aC×(List aM)×Int×Int):=
 some ((aC.mk c1 aCO aSR),l2,(l.length:Int),0)
def aJw (N:Nat)(p:aL)(l:List aH):Nat→Int→Int→(List Int)→(List aA)→(List aM)→Option (Int×(List Int)×(List aA)×(List aM))
 |0,_,_,_,_,_=>none
 |m+1,x27,c2,c2_1,c2_2,l3=>
  if decide (x27<(l.length:Int)) then
   (bB l x27).bind fun x30=>
   (aHV N p (aC.mk c2 c2_1 c2_2) x30).bind fun x36=>
   if x36.2.2 != 0 then
    none
   else
    (b9 24 l3 [x36.2.1]).bind fun x50=>
    (aJw N p l m) (a1a.wrap (x27+1)) x36.1.Height x36.1.Tip x36.1.Coins x50
  else
   some (c2,c2_1,c2_2,l3)
def aFw (N:Nat)(p:aL)(l:List aH):Option (aC×(List aM)×Int×Int):=
 (aKd N p).bind fun x18=>
 if x18.2 != 0 then
  none
 else
  (aJw N p l N 0 x18.1.Height x18.1.Tip x18.1.Coins []).bind fun p2=>
  aJK N l p2.1 p2.2.1 p2.2.2.1 p2.2.2.2
def aKm (N:Nat)(l0:List aA):Option (List aA):=
 some l0
def aJ9 (N:Nat)(l:aC)(l1:List (ByteArray×Bool)):Nat→Int→(List aA)→Option (List aA)
 |0,_,_=>none
 |m+1,x25,bJ=>
  if decide (x25<(l.Coins.length:Int)) then
   (bB l.Coins x25).bind fun x27=>
   if(mR aPv l1 (gM x27.Output.Script) false) then
    (iL N x27).bind fun x37=>
    (b9 88 bJ [x37]).bind fun x39=>
    (aJ9 N l l1 m) (a1a.wrap (x25+1)) x39
   else
    none
  else
   some bJ
def aJW (N:Nat)(l:aC)(l1:List (ByteArray×Bool)):Option (List aA):=
 (aJ9 N l l1 N 0 []).bind fun p3=>
 aKm N p3
def aKD (N:Nat)(l:aC)(vI:List (List Int)):Nat→Int→(List (ByteArray×Bool))→Option (List (ByteArray×Bool))
 |0,_,_=>none
 |m+1,x14,cE=>
  if decide (x14<(vI.length:Int)) then
   (bB vI x14).bind fun x16=>
   (aKD N l vI m) (a1a.wrap (x14+1)) (uG aPv cE (gM x16) true)
  else
   some cE
def aHa (N:Nat)(l:aC)(vI:List (List Int)):Option (List aA):=
 (aKD N l vI N 0 []).bind fun p4=>
 aJW N l p4
def zN (N:Nat)(l:List aA):Option Int:=
 if decide (100000<(l.length:Int)) then
  some 0
 else
  (yB N l).bind fun x10=>
  some x10.1
def yP (N:Nat):Option Bool:=
 (zM N 0 [0]).bind fun x8=>
 (aFw N x8.Params x8.Blocks).bind fun x14=>
 (oD N 0).bind fun x20=>
 (aHa N x14.1 [x20]).bind fun x22=>
 if x14.2.2.2 == 0 then
  if x14.2.2.1 == 1 then
   if(x14.2.1.length:Int) == 1 then
    if(x22.length:Int) == 1 then
     (bB x22 0).bind fun x41=>
     if x41.Coinbase then
      (zN N x22).bind fun x47=>
      some (x47 == 1000)
     else
      none
    else
     none
   else
    none
  else
   none
 else
  none
def aKl (N:Nat)(l:List Int)(vn:Int):Option (List Int):=
 (sub l 0 (if vn<(l.length:Int)then vn else(l.length:Int))).bind fun x10=>
 some x10
def aDC (N:Nat)(v:Int)(nG:List Int):Option aV:=
 (aKl N nG 8).bind fun x7=>
 (zM N v x7).bind fun x8=>
 some x8
def lX (N:Nat)(x4:Bool):Option Bool:=
 some x4
def rT (N:Nat)(va b:aA):Option Bool:=
 if(fR va.Out.Tx b.Out.Tx ((va.Out.Index == b.Out.Index)&&true)) then
  if va.Output.Value == b.Output.Value then
   (aHL N va.Output.Script b.Output.Script).bind fun x26=>
   if x26 then
    if va.Height == b.Height then
     lX N (va.Coinbase == b.Coinbase)
    else
     lX N false
   else
    lX N false
  else
   lX N false
 else
  lX N false
def sI (N:Nat)(c:aA)(o:aB):Option Int:=
 (zL N c.Out o).bind fun x8=>
 some x8
def cN (N:Nat)(vi:Int)(x7:Bool):Option (Int×Bool):=
 some (vi,x7)
def dI (N:Nat)(x:List aA)(nU:aB)(vi:Int):Option (Int×Bool):=
 if decide (vi<(x.length:Int)) then
  (bB x vi).bind fun x43=>
  (sI N x43 nU).bind fun x46=>
  cN N vi (x46 == 0)
 else
  cN N vi false
def b8 (N:Nat)(x:List aA)(nU:aB):Nat→Int→Int→Option Int
 |0,_,_=>none
 |m+1,iV,vj=>
  if decide (iV<vj) then
   (shr .u64 (a1b.wrap (a1a.wrap (iV+vj))) 1).bind fun x22=>
   (bB x (a1a.wrap x22)).bind fun x27=>
   (sI N x27 nU).bind fun x30=>
   if decide (x30<0) then
    (b8 N x nU m) (a1a.wrap ((a1a.wrap x22)+1)) vj
   else
    (b8 N x nU m) iV (a1a.wrap x22)
  else
   some iV
def dW (N:Nat)(x:List aA)(nU:aB):Option (Int×Bool):=
 (b8 N x nU N 0 (x.length:Int)).bind fun p3=>
 dI N x nU p3
def o9 (N:Nat)(l:aC)(o:aB):Option Int:=
 (dW N l.Coins o).bind fun x11=>
 if !x11.2 then
  some (-1)
 else
  some x11.1
def xI (N:Nat)(u:aM)(dJ:List (aB×aA))(vn:Int)(l3:List aA):Option ((List aA)×Bool):=
 some (l3,vn == (u.Spent.length:Int))
def zP (N:Nat)(dJ:List (aB×aA))(l:aC)(l4:List (aB×Bool)):Option Bool:=
 mall (fun e=>if mR kH l4 e.1 false then some true else(o9 N l e.1).bind fun vO=>
  if decide (vO<0)then some false else(bB l.Coins vO).bind fun z7=>(rT N z7 e.2).bind fun aJe=>
  if !aJe then some false else some true) dJ
def yI (N:Nat)(l:aC)(u:aM)(dJ:List (aB×aA))(vn:Int)(l3:List aA)(l4:List (aB×Bool)):Option ((List aA)×Bool):=
 (zP N dJ l l4).bind fun q=>
 if q then
  xI N u dJ vn l3
 else
  some ([],false)
def yM (N:Nat)(l:aC)(u:aM)(dJ:List (aB×aA))(x26:List aD)(x28:Int)(rec:Int→Int→(List aA)→(List (aB×Bool))→Option (LR (Int×(List aA)×(List (aB×Bool))) ((List aA)×Bool)))(aSv:Int)(fN:List aA)(mT:List (aB×Bool)):Option (LR (Int×(List aA)×(List (aB×Bool))) ((List aA)×Bool)):=
 rec aSv (a1a.wrap (x28+1)) fN mT
def mU (N:Nat)(l:aC)(u:aM)(dJ:List (aB×aA))(x26:List aD)(x28:Int)(x30:aD)(mY x35:Int)(rec:Int→Int→(List aA)→(List (aB×Bool))→Option (LR (Int×(List aA)×(List (aB×Bool))) ((List aA)×Bool)))(aCH:List aA)(aGM:List (aB×Bool)):Option (LR (Int×(List aA)×(List (aB×Bool))) ((List aA)×Bool)):=
 rec (a1a.wrap (mY+1)) (a1a.wrap (x35+1)) aCH aGM
def kB (N:Nat)(l:aC)(u:aM)(dJ:List (aB×aA))(x26:List aD)(x28:Int)(x30:aD)(mY x35:Int)(iD:List aA)(iE:List (aB×Bool))(x58:aA)(rec:Int→Int→(List aA)→(List (aB×Bool))→Option (LR (Int×(List aA)×(List (aB×Bool))) ((List aA)×Bool)))(x93:Bool):Option (LR (Int×(List aA)×(List (aB×Bool))) ((List aA)×Bool)):=
 if x93 then
  some (.ret ([],false))
 else
  (iL N x58).bind fun x96=>
  (b9 88 iD [x96]).bind fun x98=>
  mU N l u dJ x26 x28 x30 mY x35 rec x98 iE
def rG (N:Nat)(l:aC)(u:aM)(dJ:List (aB×aA))(x26:List aD)(x28:Int)(x30:aD)(mY x35:Int)(iD:List aA)(iE:List (aB×Bool))(rec:Int→Int→(List aA)→(List (aB×Bool))→Option (LR (Int×(List aA)×(List (aB×Bool))) ((List aA)×Bool)))(x54:Bool):Option (LR (Int×(List aA)×(List (aB×Bool))) ((List aA)×Bool)):=
 if x54 then
  some (.ret ([],false))
 else
  (bB u.Spent mY).bind fun x58=>
  if aEl r8 dJ x58.Out then
   (rT N (mR r8 dJ x58.Out (aA.mk (aB.mk (a1d 32 0) 0) (aW.mk 0 []) 0 false)) x58).bind fun x72=>
   if !x72 then
    some (.ret ([],false))
   else
    mU N l u dJ x26 x28 x30 mY x35 rec iD (uG kH iE x58.Out true)
  else
   if decide (x58.Height<1) then
    kB N l u dJ x26 x28 x30 mY x35 iD iE x58 rec true
   else
    if decide (l.Height≤x58.Height) then
     kB N l u dJ x26 x28 x30 mY x35 iD iE x58 rec true
    else
     (o9 N l x58.Out).bind fun x91=>
     kB N l u dJ x26 x28 x30 mY x35 iD iE x58 rec (decide (0≤x91))
def dS (N:Nat)(l:aC)(u:aM)(dJ:List (aB×aA))(x26:List aD)(x28:Int)(x30:aD):Nat→Int→Int→(List aA)→(List (aB×Bool))→Option (LR (Int×(List aA)×(List (aB×Bool))) ((List aA)×Bool))
 |0,_,_,_,_=>none
 |m+1,mY,x35,iD,iE=>
  if decide (x35<(x30.Inputs.length:Int)) then
   (bB x30.Inputs x35).bind fun x37=>
   if decide ((u.Spent.length:Int)≤mY) then
    rG N l u dJ x26 x28 x30 mY x35 iD iE (dS N l u dJ x26 x28 x30 m) true
   else
    (bB u.Spent mY).bind fun x48=>
    rG N l u dJ x26 x28 x30 mY x35 iD iE (dS N l u dJ x26 x28 x30 m) (!(fR x48.Out.Tx x37.Prev.Tx ((x48.Out.Index == x37.Prev.Index)&&true)))
  else
   some (.brk (mY,iD,iE))
def eM (N:Nat)(l:aC)(u:aM)(dJ:List (aB×aA))(x26:List aD):Nat→Int→Int→(List aA)→(List (aB×Bool))→Option (LR (Int×(List aA)×(List (aB×Bool))) ((List aA)×Bool))
 |0,_,_,_,_=>none
 |m+1,vn_1,x28,dA,dN=>
  if decide (x28<(x26.length:Int)) then
   (bB x26 x28).bind fun x30=>
   (dS N l u dJ x26 x28 x30 N vn_1 0 dA dN).bind fun q=>match q with
    | .ret v=>some (.ret v)
    | .brk p5=>
     yM N l u dJ x26 x28 (eM N l u dJ x26 m) p5.1 p5.2.1 p5.2.2
  else
   some (.brk (vn_1,dA,dN))
def wF (N:Nat)(l:aC)(b:aH)(u:aM)(dJ:List (aB×aA)):Option ((List aA)×Bool):=
 (sub b.Txs 1 (b.Txs.length:Int)).bind fun x26=>
 (eM N l u dJ x26 N 0 0 [] []).bind fun q=>match q with
  | .ret v=>some v
  | .brk p3=>
   yI N l u dJ p3.1 p3.2.1 p3.2.2
def n9 (N:Nat)(l:aC)(b:aH)(l3:List aA):Option (Int×(List Int)×(List aA)×Int):=
 (aAJ N l3).bind fun aMp=>
 (bH 32 b.Header.Prev).bind fun q=>
 (pP N (aC.mk (a1a.wrap (l.Height-1)) b.Header.Prev aMp)).bind fun vO=>
 if !vO then
  some (0,a1d 32 0,[],232)
 else
  some (a1a.wrap (l.Height-1),b.Header.Prev,aMp,0)
def iR (N:Nat)(l:aC)(b:aH)(l4:List (aB×aA))(x83:Int)(rec:Int→(List aA)→Option (List aA))(mT:List aA):Option (List aA):=
 rec (a1a.wrap (x83+1)) mT
def eF (N:Nat)(l:aC)(b:aH)(l4:List (aB×aA)):Nat→Int→(List aA)→Option (List aA)
 |0,_,_=>none
 |m+1,x83,dN=>
  if decide (x83<(l.Coins.length:Int)) then
   (bB l.Coins x83).bind fun x85=>
   if !(aEl r8 l4 x85.Out) then
    (iL N x85).bind fun x98=>
    (b9 88 dN [x98]).bind fun aCy=>
    iR N l b l4 x83 (eF N l b l4 m) aCy
   else
    iR N l b l4 x83 (eF N l b l4 m) dN
  else
   some dN
def n8 (N:Nat)(l:aC)(b:aH)(u:aM)(l4:List (aB×aA)):Option (Int×(List Int)×(List aA)×Int):=
 (wF N l b u l4).bind fun x74=>
 if !x74.2 then
  some (0,a1d 32 0,[],232)
 else
  (eF N l b l4 N 0 x74.1).bind fun p4=>
  n9 N l b p4
def n5 (N:Nat)(l:aC)(b:aH)(u:aM)(x47:Int)(rec:Int→(List (aB×aA))→Option (List (aB×aA)))(aGM:List (aB×aA)):Option (List (aB×aA)):=
 rec (a1a.wrap (x47+1)) aGM
def iT (N:Nat)(l:aC)(b:aH)(u:aM)(x47:Int)(x57:(List aA)):Nat→Int→(List (aB×aA))→Option (List (aB×aA))
 |0,_,_=>none
 |m+1,x59,l4_5=>
  if decide (x59<(x57.length:Int)) then
   (bB x57 x59).bind fun x61=>
   (iT N l b u x47 x57 m) (a1a.wrap (x59+1)) (uG r8 l4_5 x61.Out x61)
  else
   some l4_5
def fB (N:Nat)(l:aC)(b:aH)(u:aM):Nat→Int→(List (aB×aA))→Option (List (aB×aA))
 |0,_,_=>none
 |m+1,x47,iE=>
  if decide (x47<(b.Txs.length:Int)) then
   (bB b.Txs x47).bind fun x50=>
   (s9 N x50 l.Height (x47 == 0)).bind fun x57=>
   (iT N l b u x47 x57 N 0 iE).bind fun p8=>
   n5 N l b u x47 (fB N l b u m) p8
  else
   some iE
def iS (N:Nat)(l:aC)(b:aH)(u:aM)(x35:Bool):Option (Int×(List Int)×(List aA)×Int):=
 if x35 then
  some (0,a1d 32 0,[],144)
 else
  (aAv N b).bind fun x38=>
  if x38 != 0 then
   some (0,a1d 32 0,[],x38)
  else
   (fB N l b u N 0 []).bind fun p6=>
   n8 N l b u p6
def nW (N:Nat)(l:aC)(b:aH)(u:aM):Option (Int×(List Int)×(List aA)×Int):=
 (pP N l).bind fun x22=>
 if !x22 then
  some (0,a1d 32 0,[],6)
 else
  if l.Height == 0 then
   iS N l b u true
  else
   (y8 N b.Header).bind fun x31=>
   (bH 32 l.Tip).bind fun q_1=>
   (bH 32 x31).bind fun q_2=>
   iS N l b u (!(x31 == l.Tip))
def uH (N:Nat)(x4:Bool):Option Bool:=
 some x4
def aEF (N:Nat)(va b:aW):Option Bool:=
 if va.Value == b.Value then
  (y6 N va.Script b.Script).bind fun x15=>
  uH N x15
 else
  uH N false
def k8 (N:Nat)(x4:Bool):Option Bool:=
 some x4
def oL (N:Nat)(va b:aA):Option Bool:=
 if(fR va.Out.Tx b.Out.Tx ((va.Out.Index == b.Out.Index)&&true)) then
  (aEF N va.Output b.Output).bind fun x15=>
  if x15 then
   if va.Height == b.Height then
    k8 N (va.Coinbase == b.Coinbase)
   else
    k8 N false
  else
   k8 N false
 else
  k8 N false
def aJy (N:Nat)(tM:List aA):Option ((List aA)×Bool):=
 some (tM,true)
def aAD (N:Nat)(l:aC)(u:aM)(l2:List aA)(x32:Int)(rec:(List aA)→Int→Option (LR ((List aA)) ((List aA)×Bool)))(gT:List aA):Option (LR ((List aA)) ((List aA)×Bool)):=
 rec gT (a1a.wrap (x32+1))
def u3 (N:Nat)(l:aC)(u:aM)(l2 jH:List aA)(x32:Int)(x34:aA)(rec:(List aA)→Int→Option (LR ((List aA)) ((List aA)×Bool)))(x58:Bool):Option (LR ((List aA)) ((List aA)×Bool)):=
 if x58 then
  some (.ret ([],false))
 else
  (t7 N jH x34).bind fun x61=>
  aAD N l u l2 x32 rec x61
def gB (N:Nat)(l:aC)(u:aM)(l2:List aA):Nat→(List aA)→Int→Option (LR ((List aA)) ((List aA)×Bool))
 |0,_,_=>none
 |m+1,jH,x32=>
  if decide (x32<(u.Spent.length:Int)) then
   (bB u.Spent x32).bind fun x34=>
   (kX N l2 x34.Out).bind fun x39=>
   if decide (0≤x39) then
    aAD N l u l2 x32 (gB N l u l2 m) jH
   else
    (kX N l.Coins x34.Out).bind fun x45=>
    if decide (0≤x45) then
     u3 N l u l2 jH x32 x34 (gB N l u l2 m) true
    else
     if decide (x34.Height<1) then
      u3 N l u l2 jH x32 x34 (gB N l u l2 m) true
     else
      u3 N l u l2 jH x32 x34 (gB N l u l2 m) (decide (l.Height≤x34.Height))
  else
   some (.brk jH)
def aER (N:Nat)(l:aC)(u:aM)(coins l2:List aA):Option ((List aA)×Bool):=
 (gB N l u l2 N coins 0).bind fun q=>match q with
  | .ret v=>some v
  | .brk p3=>
   aJy N p3
def uY (N:Nat)(l:aC)(b:aH)(u:aM)(coins:List aA):Nat→Int→(List aA)→Option (List aA)
 |0,_,_=>none
 |m+1,x18,eE=>
  if decide (x18<(b.Txs.length:Int)) then
   (bB b.Txs x18).bind fun x20=>
   (iM N x20 l.Height).bind fun x26=>
   (b9 88 eE x26).bind fun x27=>
   (uY N l b u coins m) (a1a.wrap (x18+1)) x27
  else
   some eE
def aIU (N:Nat)(l:aC)(b:aH)(u:aM)(coins:List aA):Option ((List aA)×Bool):=
 (uY N l b u coins N 0 []).bind fun p6=>
 aER N l u coins p6
def aBJ (N:Nat)(l:aC)(b:aH)(u:aM)(coins:List aA):Option ((List aA)×Bool):=
 (aIU N l b u coins).bind fun aYO=>
 some (aYO.1,aYO.2)
def aBT (N:Nat)(l:aC)(b:aH)(u:aM)(x69:Int)(rec:(List aA)→Int→Option (LR ((List aA)) ((List aA)×Bool)))(jH:List aA):Option (LR ((List aA)) ((List aA)×Bool)):=
 rec jH (a1a.wrap (x69+1))
def rC (N:Nat)(l:aC)(b:aH)(u:aM)(x69:Int)(x76:(List aA))(x78:Int)(rec:(List aA)→Int→Option (LR ((List aA)) ((List aA)×Bool)))(aLb:List aA):Option (LR ((List aA)) ((List aA)×Bool)):=
 rec aLb (a1a.wrap (x78+1))
def wW (N:Nat)(l:aC)(b:aH)(u:aM)(x69:Int)(x76:(List aA))(x78:Int)(rec:(List aA)→Int→Option (LR ((List aA)) ((List aA)×Bool)))(aLi:List aA):Option (LR ((List aA)) ((List aA)×Bool)):=
 rC N l b u x69 x76 x78 rec aLi
def wT (N:Nat)(l:aC)(b:aH)(u:aM)(x69:Int)(x76:(List aA))(gT:List aA)(x78 aEj:Int)(rec:(List aA)→Int→Option (LR ((List aA)) ((List aA)×Bool)))(z7:Bool):Option (LR ((List aA)) ((List aA)×Bool)):=
 if z7 then
  some (.ret ([],false))
 else
  (lE N gT aEj).bind fun aJe=>
  rC N l b u x69 x76 x78 rec aJe
def eR (N:Nat)(l:aC)(b:aH)(u:aM)(x69:Int)(x76:(List aA)):Nat→(List aA)→Int→Option (LR ((List aA)) ((List aA)×Bool))
 |0,_,_=>none
 |m+1,gT,x78=>
  if decide (x78<(x76.length:Int)) then
   (bB x76 x78).bind fun x80=>
   (kX N u.Spent x80.Out).bind fun x86=>
   if decide (0≤x86) then
    (bB u.Spent x86).bind fun x92=>
    (oL N x92 x80).bind fun x95=>
    if !x95 then
     some (.ret ([],false))
    else
     (kX N gT x80.Out).bind fun aCy=>
     if decide (0≤aCy) then
      (lE N gT aCy).bind fun aSM=>
      wW N l b u x69 x76 x78 (eR N l b u x69 x76 m) aSM
     else
      wW N l b u x69 x76 x78 (eR N l b u x69 x76 m) gT
   else
    (kX N gT x80.Out).bind fun aEj=>
    if decide (aEj<0) then
     wT N l b u x69 x76 gT x78 aEj (eR N l b u x69 x76 m) true
    else
     (bB gT aEj).bind fun a0U=>
     (oL N a0U x80).bind fun aQn=>
     wT N l b u x69 x76 gT x78 aEj (eR N l b u x69 x76 m) (!aQn)
  else
   some (.brk gT)
def kN (N:Nat)(l:aC)(b:aH)(u:aM):Nat→(List aA)→Int→Option (LR ((List aA)) ((List aA)×Bool))
 |0,_,_=>none
 |m+1,tM,x69=>
  if decide (x69<(b.Txs.length:Int)) then
   (bB b.Txs x69).bind fun x71=>
   (iM N x71 l.Height).bind fun x76=>
   (eR N l b u x69 x76 N tM 0).bind fun q=>match q with
    | .ret v=>some (.ret v)
    | .brk p6=>
     aBT N l b u x69 (kN N l b u m) p6
  else
   some (.brk tM)
def aBz (N:Nat)(l:aC)(b:aH)(u:aM):Option ((List aA)×Bool):=
 (kN N l b u N l.Coins 0).bind fun q=>match q with
  | .ret v=>some v
  | .brk p4=>
   aBJ N l b u p4
def gA (N:Nat)(l:aC)(b:aH)(u:aM)(l3:List aB):Nat→Int→Option (LR (Unit) ((List aA)×Bool))
 |0,_=>none
 |m+1,x51=>
  if decide (x51<(l3.length:Int)) then
   (bB u.Spent x51).bind fun x57=>
   (bB l3 x51).bind fun x62=>
   if !(fR x57.Out.Tx x62.Tx ((x57.Out.Index == x62.Index)&&true)) then
    some (.ret ([],false))
   else
    (gA N l b u l3 m) (a1a.wrap (x51+1))
  else
   some (.brk ())
def aCk (N:Nat)(l:aC)(b:aH)(u:aM)(l3:List aB):Option ((List aA)×Bool):=
 if(l3.length:Int) != (u.Spent.length:Int) then
  some ([],false)
 else
  (gA N l b u l3 N 0).bind fun q=>match q with
   | .ret v=>some v
   | .brk p10=>
    aBz N l b u
def aAS (N:Nat)(l:aC)(b:aH)(u:aM)(x23:List aD)(x25:Int)(rec:Int→(List aB)→Option (List aB))(fN:List aB):Option (List aB):=
 rec (a1a.wrap (x25+1)) fN
def lZ (N:Nat)(l:aC)(b:aH)(u:aM)(x23:List aD)(x25:Int)(x27:aD):Nat→Int→(List aB)→Option (List aB)
 |0,_,_=>none
 |m+1,x32,iD=>
  if decide (x32<(x27.Inputs.length:Int)) then
   (bB x27.Inputs x32).bind fun x34=>
   (b9 36 iD [x34.Prev]).bind fun x40=>
   (lZ N l b u x23 x25 x27 m) (a1a.wrap (x32+1)) x40
  else
   some iD
def lV (N:Nat)(l:aC)(b:aH)(u:aM)(x23:List aD):Nat→Int→(List aB)→Option (List aB)
 |0,_,_=>none
 |m+1,x25,dA=>
  if decide (x25<(x23.length:Int)) then
   (bB x23 x25).bind fun x27=>
   (lZ N l b u x23 x25 x27 N 0 dA).bind fun p13=>
   aAS N l b u x23 x25 (lV N l b u x23 m) p13
  else
   some dA
def aCe (N:Nat)(l:aC)(b:aH)(u:aM):Option ((List aA)×Bool):=
 (sub b.Txs 1 (b.Txs.length:Int)).bind fun x23=>
 (lV N l b u x23 N 0 []).bind fun p11=>
 aCk N l b u p11
def qG (N:Nat)(l:aC)(b:aH)(x38:(List aA)×Bool)(x55:Bool):Option (aC×Int):=
 if x55 then
  some ((aC.mk 0 (a1d 32 0) []),232)
 else
  some ((aC.mk (a1a.wrap (l.Height-1)) b.Header.Prev x38.1),0)
def lJ (N:Nat)(l:aC)(b:aH)(u:aM)(x26:Bool):Option (aC×Int):=
 if x26 then
  some ((aC.mk 0 (a1d 32 0) []),144)
 else
  (fF N b).bind fun x29=>
  if x29 != 0 then
   some ((aC.mk 0 (a1d 32 0) []),x29)
  else
   (aCe N l b u).bind fun x38=>
   (bH 32 b.Header.Prev).bind fun q=>
   if !x38.2 then
    qG N l b x38 true
   else
    (rQ N (aC.mk (a1a.wrap (l.Height-1)) b.Header.Prev x38.1)).bind fun x53=>
    qG N l b x38 (!x53)
def t6 (N:Nat)(l:aC)(b:aH)(u:aM):Option (aC×Int):=
 (rQ N l).bind fun x13=>
 if !x13 then
  some ((aC.mk 0 (a1d 32 0) []),6)
 else
  if l.Height == 0 then
   lJ N l b u true
  else
   (mH N b.Header).bind fun x22=>
   (bH 32 l.Tip).bind fun q_1=>
   (bH 32 x22).bind fun q_2=>
   lJ N l b u (!(x22 == l.Tip))
def yC (N:Nat):Option Bool:=
 some true
def kG (N:Nat)(va b:List aA):Nat→Int→Option (LR (Unit) (Bool))
 |0,_=>none
 |m+1,x13=>
  if decide (x13<(va.length:Int)) then
   (bB va x13).bind fun x18=>
   (bB b x13).bind fun x22=>
   (oL N x18 x22).bind fun x24=>
   if !x24 then
    some (.ret false)
   else
    (kG N va b m) (a1a.wrap (x13+1))
  else
   some (.brk ())
def aBq (N:Nat)(va b:List aA):Option Bool:=
 if(va.length:Int) != (b.length:Int) then
  some false
 else
  (kG N va b N 0).bind fun q=>match q with
   | .ret v=>some v
   | .brk p2=>
    yC N
def u1 (N:Nat)(x4:Bool):Option Bool:=
 some x4
def aFq (N:Nat)(va b:aC):Option Bool:=
 if va.Height == b.Height then
  (bH 32 va.Tip).bind fun q=>
  (bH 32 b.Tip).bind fun q_1=>
  if va.Tip == b.Tip then
   (aBq N va.Coins b.Coins).bind fun x22=>
   u1 N x22
  else
   u1 N false
 else
  u1 N false
def jQ (N:Nat)(x10:Bool):Option Bool:=
 some x10
def dC (N:Nat)(x36:aC)(x42:aH)(l4:List aA)(c0:List Int)(l3:List aA):Option Bool:=
 (nW N (aC.mk x36.Height c0 l3) x42 (aM.mk l4)).bind fun aHF=>
 (t6 N (aC.mk x36.Height c0 l3) x42 (aM.mk l4)).bind fun aP1=>
 if aHF.2.2.2 == aP1.2 then
  (aFq N (aC.mk aHF.1 aHF.2.1 aHF.2.2.1) aP1.1).bind fun aSP=>
  jQ N aSP
 else
  jQ N false
def e8 (N:Nat)(what vi vj:Int)(x36:aC)(x42:aH)(x55 l4:List aA)(aQq:Bool):Option Bool:=
 if aQq then
  (rem (a1a.wrap vi) (x55.length:Int)).bind fun aZs=>
  (sub x55 0 aZs).bind fun aQB=>
  dC N x36 x42 l4 x36.Tip aQB
 else
  if(a1g what 8) == 6 then
   (bH 32 x36.Tip).bind fun q=>
   (b7 32 x36.Tip 0).bind fun aMa=>
   dC N x36 x42 l4 (x36.Tip.set (a1e 0) (a1f.wrap (aMa+vj))) x55
  else
   dC N x36 x42 l4 x36.Tip x55
def e7 (N:Nat)(what vi vj:Int)(x36:aC)(x42:aH)(x55 l4:List aA)(aIP:Bool):Option Bool:=
 if aIP then
  (rem (a1a.wrap vi) (x55.length:Int)).bind fun aKz=>
  (bB x55 aKz).bind fun yL=>
  dC N x36 x42 l4 x36.Tip (x55.set (a1e aKz) (aA.mk yL.Out (aW.mk (a1a.wrap (yL.Output.Value+1)) yL.Output.Script) yL.Height yL.Coinbase))
 else
  if decide (0<(x55.length:Int)) then
   e8 N what vi vj x36 x42 x55 l4 ((a1g what 8) == 5)
  else
   e8 N what vi vj x36 x42 x55 l4 false
def cA (N:Nat)(what vi vj:Int)(x36:aC)(x42:aH)(x55 l4:List aA):Option Bool:=
 if decide (0<(x55.length:Int)) then
  e7 N what vi vj x36 x42 x55 l4 ((a1g what 8) == 4)
 else
  e7 N what vi vj x36 x42 x55 l4 false
def i6 (N:Nat)(v:Int)(nG:List Int)(what vi vj:Int):Option Bool:=
 (yP N).bind fun x23=>
 if !x23 then
  some false
 else
  (aDC N v nG).bind fun x27=>
  if(x27.Blocks.length:Int) == 0 then
   some true
  else
   (bB x27.Ledgers (x27.Blocks.length:Int)).bind fun x36=>
   (bB x27.Blocks (a1a.wrap ((x27.Blocks.length:Int)-1))).bind fun x42=>
   (bB x27.Undos (a1a.wrap ((x27.Blocks.length:Int)-1))).bind fun x48=>
   (b9 88 [] x48.Spent).bind fun x51=>
   (b9 88 [] x36.Coins).bind fun x55=>
   if decide (0<(x51.length:Int)) then
    (rem (a1a.wrap vi) (x51.length:Int)).bind fun x67=>
    (bB x51 x67).bind fun x68=>
    if(a1g what 8) == 0 then
     cA N what vi vj x36 x42 x55 (x51.set (a1e x67) (aA.mk x68.Out x68.Output (a1a.wrap (x68.Height+(a1a.wrap ((a1a.wrap vj)-3)))) x68.Coinbase))
    else
     if(a1g what 8) == 1 then
      cA N what vi vj x36 x42 x55 (x51.set (a1e x67) (aA.mk x68.Out (aW.mk (a1a.wrap (x68.Output.Value+(a1a.wrap vj))) x68.Output.Script) x68.Height x68.Coinbase))
     else
      if(a1g what 8) == 2 then
       (sub x51 0 x67).bind fun aCl=>
       cA N what vi vj x36 x42 x55 aCl
      else
       if(a1g what 8) == 3 then
        cA N what vi vj x36 x42 x55 (x51.set (a1e x67) (aA.mk (aB.mk x68.Out.Tx (a1c.wrap (x68.Out.Index+1))) x68.Output x68.Height x68.Coinbase))
       else
        cA N what vi vj x36 x42 x55 x51
   else
    cA N what vi vj x36 x42 x55 x51
end Go.Proofs.YtopdhljncajmpaaGreatDoor
namespace Go.Vm
open Go Go.ChangeShapes Go.WideShapes Go.ChangeAt Go.RowKit
end Go.Vm
namespace Go.Proofs.YtopdhljncajmpaaGreatDoor
open Go Go.Vm
open Go.ChangeShapes Go.WideShapes Go.ChangeAt Go.RowKit
end Go.Proofs.YtopdhljncajmpaaGreatDoor
