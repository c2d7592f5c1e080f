/- Texts of ours, joined. -/
import Derived.Test.YtopdhljncajmpaaGreatDoorQC2
import Derived.Test.YtopdhljncajmpaaGreatDoorQC3
import Derived.OpenShut
open Go.IntKind renaming i64 → a1K,u64 → a1L,u32 → a1M,u8 → a1P,max → a1S
open List renaming replicate → a1N
open Int renaming tmod → a1O,toNat → a1Q,tdiv → a1R
set_option linter.unusedVariables false
set_option linter.unusedSimpArgs false
set_option maxRecDepth 20000
set_option maxHeartbeats 8000000
namespace Go.Proofs.YtopdhljncajmpaaGreatDoor
open Go Go.Vm
structure bV where
 Version:Int
 Prev:List Int
 Root:List Int
 Time:Int
 Bits:Int
 Nonce:Int
abbrev sS (x:bV):List V:=((eI .u32 x.Version)::(aN (eI .u8) x.Prev (aN (eI .u8) x.Root [eI .u32 x.Time,eI .u32 x.Bits,eI .u32 x.Nonce])))
abbrev pD (x:bV):V:= .agg (sS x)
@[simp] theorem aMs {f:Nat→Nat}(l:List bV):V.rns f (l.flatMap sS)=l.flatMap sS:=cY (fun _=>rfl) l
@[simp] theorem aMp {f:Nat→Nat}(x:bV):V.rns f (sS x)=sS x:=rfl
structure pG where
 Height:Int
 Hash:List Int
abbrev pH (x:pG):List V:=((eI .i64 x.Height)::(aN (eI .u8) x.Hash []))
abbrev bB (x:pG):V:= .agg (pH x)
@[simp] theorem aIN {f:Nat→Nat}(l:List pG):V.rns f (l.flatMap pH)=l.flatMap pH:=cY (fun _=>rfl) l
@[simp] theorem aIP {f:Nat→Nat}(x:pG):V.rns f (pH x)=pH x:=rfl
structure aK where
 Genesis:bV
 Limit:List Int
 Window:Int
 Spacing:Int
 Future:Int
 Version:Int
 Checkpoints:List pG
 Subsidy:Int
 Halving:Int
 Maturity:Int
abbrev bG (x:aK):List V:=((eI .u32 x.Genesis.Version)::(aN (eI .u8) x.Genesis.Prev (aN (eI .u8) x.Genesis.Root ((eI .u32 x.Genesis.Time)::((eI .u32 x.Genesis.Bits)::((eI .u32 x.Genesis.Nonce)::(eG (eI .u64) x.Limit [eI .i64 x.Window,eI .u32 x.Spacing,eI .u32 x.Future,eI .u32 x.Version,.row none 33 (x.Checkpoints.map bB),eI .i64 x.Subsidy,eI .i64 x.Halving,eI .i64 x.Maturity])))))))
abbrev cU (x:aK):V:= .agg (bG x)
@[simp] theorem aMN {f:Nat→Nat}(l:List aK):V.rns f (l.flatMap bG)=l.flatMap bG:=cY (fun _=>rfl) l
@[simp] theorem aMT {f:Nat→Nat}(x:aK):V.rns f (bG x)=bG x:=rfl
structure aD where
 Tx:List Int
 Index:Int
abbrev cG (x:aD):List V:=(aN (eI .u8) x.Tx [eI .u32 x.Index])
abbrev cW (x:aD):V:= .agg (cG x)
@[simp] theorem aLl {f:Nat→Nat}(l:List aD):V.rns f (l.flatMap cG)=l.flatMap cG:=cY (fun _=>rfl) l
@[simp] theorem aLv {f:Nat→Nat}(x:aD):V.rns f (cG x)=cG x:=rfl
structure aI where
 Value:Int
 Script:List Int
abbrev aX (x:aI):List V:=[eI .i64 x.Value,.row none 1 (x.Script.map (eI .u8))]
abbrev b7 (x:aI):V:= .agg (aX x)
@[simp] theorem aMY {f:Nat→Nat}(l:List aI):V.rns f (l.flatMap aX)=l.flatMap aX:=cY (fun _=>rfl) l
@[simp] theorem aMx {f:Nat→Nat}(x:aI):V.rns f (aX x)=aX x:=rfl
structure aA where
 Out:aD
 Output:aI
 Height:Int
 Coinbase:Bool
abbrev aH (x:aA):List V:=(aN (eI .u8) x.Out.Tx [eI .u32 x.Out.Index,eI .i64 x.Output.Value,.row none 1 (x.Output.Script.map (eI .u8)),eI .i64 x.Height,eB x.Coinbase])
abbrev aP (x:aA):V:= .agg (aH x)
@[simp] theorem aOB {f:Nat→Nat}(l:List aA):V.rns f (l.flatMap aH)=l.flatMap aH:=cY (fun _=>rfl) l
@[simp] theorem aOi {f:Nat→Nat}(x:aA):V.rns f (aH x)=aH x:=rfl
structure aF where
 Height:Int
 Tip:List Int
 Coins:List aA
abbrev bD (x:aF):List V:=((eI .i64 x.Height)::(aN (eI .u8) x.Tip [.row none 37 (x.Coins.map aP)]))
abbrev dD (x:aF):V:= .agg (bD x)
@[simp] theorem aMX {f:Nat→Nat}(l:List aF):V.rns f (l.flatMap bD)=l.flatMap bD:=cY (fun _=>rfl) l
@[simp] theorem aMo {f:Nat→Nat}(x:aF):V.rns f (bD x)=bD x:=rfl
structure bA where
 Height:Int
 Hash:List Int
 Bits:Int
 First:Int
 Times:List Int
abbrev cF (x:bA):List V:=((eI .i64 x.Height)::(aN (eI .u8) x.Hash [eI .u32 x.Bits,eI .u32 x.First,.row none 1 (x.Times.map (eI .u32))]))
abbrev fH (x:bA):V:= .agg (cF x)
@[simp] theorem aLV {f:Nat→Nat}(l:List bA):V.rns f (l.flatMap cF)=l.flatMap cF:=cY (fun _=>rfl) l
@[simp] theorem aLU {f:Nat→Nat}(x:bA):V.rns f (cF x)=cF x:=rfl
structure aT where
 Prev:aD
 Sequence:Int
 Witness:List (List Int)
abbrev cP (x:aT):List V:=(aN (eI .u8) x.Prev.Tx [eI .u32 x.Prev.Index,eI .u32 x.Sequence,.row none 1 (x.Witness.map (eL 1 (eI .u8)))])
abbrev bU (x:aT):V:= .agg (cP x)
@[simp] theorem aM4 {f:Nat→Nat}(l:List aT):V.rns f (l.flatMap cP)=l.flatMap cP:=cY (fun _=>rfl) l
@[simp] theorem aNk {f:Nat→Nat}(x:aT):V.rns f (cP x)=cP x:=rfl
structure aB where
 Version:Int
 Inputs:List aT
 Outputs:List aI
 Lock:Int
abbrev aQ (x:aB):List V:=[eI .u32 x.Version,.row none 35 (x.Inputs.map bU),.row none 2 (x.Outputs.map b7),eI .u32 x.Lock]
abbrev aZ (x:aB):V:= .agg (aQ x)
@[simp] theorem aRn {f:Nat→Nat}(l:List aB):V.rns f (l.flatMap aQ)=l.flatMap aQ:=cY (fun _=>rfl) l
@[simp] theorem aRd {f:Nat→Nat}(x:aB):V.rns f (aQ x)=aQ x:=rfl
structure aJ where
 Header:bV
 Txs:List aB
abbrev aY (x:aJ):List V:=((eI .u32 x.Header.Version)::(aN (eI .u8) x.Header.Prev (aN (eI .u8) x.Header.Root [eI .u32 x.Header.Time,eI .u32 x.Header.Bits,eI .u32 x.Header.Nonce,.row none 4 (x.Txs.map aZ)])))
abbrev dZ (x:aJ):V:= .agg (aY x)
@[simp] theorem aNm {f:Nat→Nat}(l:List aJ):V.rns f (l.flatMap aY)=l.flatMap aY:=cY (fun _=>rfl) l
@[simp] theorem aM6 {f:Nat→Nat}(x:aJ):V.rns f (aY x)=aY x:=rfl
structure bH where
 Spent:List aA
abbrev cT (x:bH):List V:=[.row none 37 (x.Spent.map aP)]
abbrev aJw (x:bH):V:= .agg (cT x)
@[simp] theorem aOD {f:Nat→Nat}(l:List bH):V.rns f (l.flatMap cT)=l.flatMap cT:=cY (fun _=>rfl) l
@[simp] theorem aOa {f:Nat→Nat}(x:bH):V.rns f (cT x)=cT x:=rfl
structure aR where
 Params:aK
 Blocks:List aJ
 Ledgers:List aF
 Contexts:List bA
 Undos:List bH
abbrev eX (x:aR):List V:=((eI .u32 x.Params.Genesis.Version)::(aN (eI .u8) x.Params.Genesis.Prev (aN (eI .u8) x.Params.Genesis.Root ((eI .u32 x.Params.Genesis.Time)::((eI .u32 x.Params.Genesis.Bits)::((eI .u32 x.Params.Genesis.Nonce)::(eG (eI .u64) x.Params.Limit [eI .i64 x.Params.Window,eI .u32 x.Params.Spacing,eI .u32 x.Params.Future,eI .u32 x.Params.Version,.row none 33 (x.Params.Checkpoints.map bB),eI .i64 x.Params.Subsidy,eI .i64 x.Params.Halving,eI .i64 x.Params.Maturity,.row none 69 (x.Blocks.map dZ),.row none 34 (x.Ledgers.map dD),.row none 36 (x.Contexts.map fH),.row none 1 (x.Undos.map aJw)])))))))
abbrev fS (x:aR):V:= .agg (eX x)
@[simp] theorem aEe {f:Nat→Nat}(l:List aR):V.rns f (l.flatMap eX)=l.flatMap eX:=cY (fun _=>rfl) l
@[simp] theorem aEj {f:Nat→Nat}(x:aR):V.rns f (eX x)=eX x:=rfl
structure cM where
 Code:Int
 Data:List Int
 M:Int
 N:Int
abbrev eW (x:cM):List V:=[eI .i64 x.Code,.row none 1 (x.Data.map (eI .u8)),eI .i64 x.M,eI .i64 x.N]
abbrev kI (x:cM):V:= .agg (eW x)
@[simp] theorem aRf {f:Nat→Nat}(l:List cM):V.rns f (l.flatMap eW)=l.flatMap eW:=cY (fun _=>rfl) l
@[simp] theorem aQE {f:Nat→Nat}(x:cM):V.rns f (eW x)=eW x:=rfl
structure iB where
 reached:Bool
 done:Bool
abbrev iD (x:iB):List V:=[eB x.reached,eB x.done]
abbrev aGw (x:iB):V:= .agg (iD x)
@[simp] theorem aDH {f:Nat→Nat}(l:List iB):V.rns f (l.flatMap iD)=l.flatMap iD:=cY (fun _=>rfl) l
@[simp] theorem aC5 {f:Nat→Nat}(x:iB):V.rns f (iD x)=iD x:=rfl
structure aB1 where
 E:List Int
 S:List Int
abbrev wH (x:aB1):List V:=(eG (eI .u64) x.E (eG (eI .u64) x.S []))
@[simp] theorem aKl {f:Nat→Nat}(l:List aB1):V.rns f (l.flatMap wH)=l.flatMap wH:=cY (fun _=>rfl) l
@[simp] theorem aKm {f:Nat→Nat}(x:aB1):V.rns f (wH x)=wH x:=rfl
structure cI where
 Message:List Int
 Height:Int
 Age:Int
abbrev aBd (x:cI):List V:=(aN (eI .u8) x.Message [eI .i64 x.Height,eI .i64 x.Age])
abbrev aEk (x:cI):V:= .agg (aBd x)
@[simp] theorem aPD {f:Nat→Nat}(l:List cI):V.rns f (l.flatMap aBd)=l.flatMap aBd:=cY (fun _=>rfl) l
@[simp] theorem aPB {f:Nat→Nat}(x:cI):V.rns f (aBd x)=aBd x:=rfl
abbrev aHd (e:aD×Bool):List V:=cG e.1++[eB e.2]
def tY (a b:aD):Bool:=(iU a.Tx b.Tx ((a.Index == b.Index)&&true))
@[simp] theorem aUp {f:Nat→Nat}(l:List (aD×Bool)):V.rns f (l.flatMap aHd)=l.flatMap aHd:=cY (fun _=>rfl) l
abbrev aFa (e:(List Int)×Int):List V:=(dQ (eI .u8)) e.1++[(eI .i64) e.2]
def yY (a b:List Int):Bool:=(iU a b true)
@[simp] theorem aUt {f:Nat→Nat}(l:List (List Int×Int)):V.rns f (l.flatMap aFa)=l.flatMap aFa:=cY (fun _=>rfl) l
structure dK where
 outer:Bool
 taken:Bool
abbrev cK (x:dK):List V:=[eB x.outer,eB x.taken]
@[simp] theorem aKk {f:Nat→Nat}(l:List dK):V.rns f (l.flatMap cK)=l.flatMap cK:=cY (fun _=>rfl) l
@[simp] theorem aKn {f:Nat→Nat}(x:dK):V.rns f (cK x)=cK x:=rfl
abbrev fG (e:aD×aA):List V:=cG e.1++aH e.2
def iW (a b:aD):Bool:=(iU a.Tx b.Tx ((a.Index == b.Index)&&true))
@[simp] theorem aT8 {f:Nat→Nat}(l:List (aD×aA)):V.rns f (l.flatMap fG)=l.flatMap fG:=cY (fun _=>rfl) l
abbrev aLP (e:ByteArray×Bool):List V:=[eS e.1]++[eB e.2]
def aP5 (a b:ByteArray):Bool:=a == b
@[simp] theorem aTZ {f:Nat→Nat}(l:List (ByteArray×Bool)):V.rns f (l.flatMap aLP)=l.flatMap aLP:=cY (fun _=>rfl) l
def iG :List Int→List Int→Int
 |a::l,b::m=>if a<b then -1 else if b<a then 1 else iG l m
 |_,_=>0
def aOn (o:aD):List Int:=o.Tx++[o.Index]
def eY (a b:aD):Int:=iG (aOn a) (aOn b)
def k9 (c:aA):List aA→List aA
 | []=>[c]
 |d::ds=>if eY d.Out c.Out<0 then d::k9 c ds else c::d::ds
def aJy (o:aD):Bool:=decide (o.Tx.length=32)&&o.Tx.all fun x=>decide (0≤x∧x<256)
def lY (l:List aA):Option (List aA):=if l.length≤100000∧(∀c∈l,aJy c.Out=true)∧l.Pairwise (fun a b=>eY a.Out b.Out≠0)then some (l.foldr k9 [])else none
def aOS (N:Nat)(va:List Int):Option (List Int):=
 (cC 4 va 0).bind fun x3=>
 (cC 4 va 1).bind fun x6=>
 (cC 4 va 2).bind fun x9=>
 (cC 4 va 3).bind fun x12=>
 some [bits .xor .u64 (a1S .u64) x3,bits .xor .u64 (a1S .u64) x6,bits .xor .u64 (a1S .u64) x9,bits .xor .u64 (a1S .u64) x12]
def tL (N:Nat)(va:List Int)(vi:Int):Option Bool:=
 (cC 4 va (a1K.wrap (a1R vi 64))).bind fun x7=>
 (shr .u64 x7 (a1O vi 64)).bind fun x11=>
 some ((bits .and .u64 x11 1) == 1)
def aGl (N:Nat)(l1:List Int):Option (List Int):=
 (bM 4 l1).bind fun q_1=>
 some l1
def aBq (N:Nat)(va:List Int)(vn vi:Int)(rec:Int→(List Int)→Option (List Int))(fA:List Int):Option (List Int):=
 rec (a1K.wrap (vi+1)) fA
def pF (N:Nat)(va:List Int)(vn:Int):Nat→Int→(List Int)→Option (List Int)
 |0,_,_=>none
 |m+1,vi,l2=>
  if decide ((a1K.wrap (vi+vn))<256) then
   (bM 4 va).bind fun q_2=>
   (tL N va (a1K.wrap (vi+vn))).bind fun x23=>
   if x23 then
    (cC 4 l2 (a1K.wrap (a1R vi 64))).bind fun x26=>
    (shl .u64 1 (a1O vi 64)).bind fun x30=>
    aBq N va vn vi (pF N va vn m) (l2.set (a1Q (a1K.wrap (a1R vi 64))) (bits .or .u64 x26 x30))
   else
    aBq N va vn vi (pF N va vn m) l2
  else
   some l2
def tK (N:Nat)(va:List Int)(vn:Int):Option (List Int):=
 if decide (vn≤0) then
  (bM 4 va).bind fun q=>
  some va
 else
  if decide (256≤vn) then
   some [0,0,0,0]
  else
   (pF N va vn N 0 (a1N 4 0)).bind fun p2=>
   aGl N p2
def aDV (N:Nat)(v:Int):Option aK:=
 (aOS N [0,0,0,0]).bind fun x8=>
 (tK N x8 1).bind fun x9=>
 (bM 4 x9).bind fun q=>
 some (aK.mk (bV.mk 1 (a1N 32 0) (a1N 32 0) (a1M.wrap (1000+(a1M.wrap v))) 545259519 0) x9 (a1K.wrap (3+(a1K.wrap (a1O v 5)))) 5 600 1 [] 1000 (a1K.wrap (4+(a1K.wrap (a1O v 3)))) (a1K.wrap (a1O v 3)))
def nT (N:Nat)(va:List Int):Option Bool:=
 (bM 4 va).bind fun q=>
 some (va == [0,0,0,0])
def gL (N:Nat)(vn:Int):Option (List Int):=
 some [vn,0,0,0]
def aLm (N:Nat):Option Int:=
 some 0
def xV (N:Nat)(va:List Int):Nat→Int→Option (LR (Unit) (Int))
 |0,_=>none
 |m+1,vi=>
  if decide (0≤vi) then
   (bM 4 va).bind fun q=>
   (tL N va vi).bind fun x10=>
   if x10 then
    some (.ret (a1K.wrap (vi+1)))
   else
    (xV N va m) (a1K.wrap (vi-1))
  else
   some (.brk ())
def aEc (N:Nat)(va:List Int):Option Int:=
 (xV N va N 255).bind fun q=>match q with
  | .ret v=>some v
  | .brk p2=>
   aLm N
def mQ (N:Nat)(x y c:Int):Option (Int×Int):=aM8 x y c
def aGO (N:Nat)(aFh:Int)(l1:List Int):Option ((List Int)×Bool):=
 (bM 4 l1).bind fun q=>
 some (l1,aFh == 1)
def xD (N:Nat)(va b:List Int):Nat→Int→Int→(List Int)→Option (Int×(List Int))
 |0,_,_,_=>none
 |m+1,carry_1,x9,l3=>
  if decide (x9<4) then
   (cC 4 va x9).bind fun x15=>
   (cC 4 b x9).bind fun x18=>
   (mQ N x15 x18 carry_1).bind fun x21=>
   (cC 4 l3 x9).bind fun x24=>
   (xD N va b m) x21.2 (a1K.wrap (x9+1)) (l3.set (a1Q x9) x21.1)
  else
   some (carry_1,l3)
def aD9 (N:Nat)(va b:List Int):Option ((List Int)×Bool):=
 (xD N va b N 0 0 (a1N 4 0)).bind fun p2=>
 aGO N p2.1 p2.2
def aGF (N:Nat)(l0:List Int):Option (List Int):=
 (bM 4 l0).bind fun q=>
 some l0
def xI (N:Nat):Nat→Int→(List Int)→Option (List Int)
 |0,_,_=>none
 |m+1,vn_1,aO=>
  if decide (0<vn_1) then
   (bM 4 aO).bind fun q_1=>
   (aD9 N aO aO).bind fun x15=>
   (bM 4 x15.1).bind fun q_2=>
   (xI N m) (a1K.wrap (vn_1-1)) x15.1
  else
   some aO
def aD6 (N:Nat)(va:List Int)(vn:Int):Option (List Int):=
 if decide (256≤vn) then
  some [0,0,0,0]
 else
  (xI N N vn va).bind fun p2=>
  aGF N p2
def rD (N:Nat)(l1:List Int):Option ((List Int)×Int):=
 (bM 4 l1).bind fun q_1=>
 (nT N l1).bind fun x45=>
 if x45 then
  some ([0,0,0,0],120)
 else
  some (l1,0)
def rI (N:Nat)(x8:Int)(x13:(List Int))(x37:Bool):Option ((List Int)×Int):=
 if x37 then
  some ([0,0,0,0],120)
 else
  (aD6 N x13 (a1K.wrap (8*(a1K.wrap ((a1K.wrap x8)-3))))).bind fun x43=>
  (bM 4 x43).bind fun q_3=>
  rD N x43
def oS (N:Nat)(kS:Int):Option ((List Int)×Int):=
 (shr .u32 kS 24).bind fun x8=>
 (gL N (a1L.wrap (bits .and .u32 kS 16777215))).bind fun x13=>
 (bM 4 x13).bind fun q=>
 if(bits .and .u32 kS 8388608) != 0 then
  some ([0,0,0,0],120)
 else
  if decide ((a1K.wrap x8)<3) then
   (tK N x13 (a1K.wrap (8*(a1K.wrap (3-(a1K.wrap x8)))))).bind fun x25=>
   (bM 4 x25).bind fun q_2=>
   rD N x25
  else
   (nT N x13).bind fun x27=>
   if !x27 then
    (aEc N x13).bind fun x31=>
    rI N x8 x13 (decide (256<(a1K.wrap (x31+(a1K.wrap (8*(a1K.wrap ((a1K.wrap x8)-3))))))))
   else
    rI N x8 x13 false
def aKJ (N:Nat):Option Int:=
 some 0
def yJ (N:Nat)(va b:List Int):Nat→Int→Option (LR (Unit) (Int))
 |0,_=>none
 |m+1,vi=>
  if decide (0≤vi) then
   (cC 4 va vi).bind fun x11=>
   (cC 4 b vi).bind fun x14=>
   if decide (x11<x14) then
    some (.ret (-1))
   else
    if decide (x14<x11) then
     some (.ret 1)
    else
     (yJ N va b m) (a1K.wrap (vi-1))
  else
   some (.brk ())
def n4 (N:Nat)(va b:List Int):Option Int:=
 (yJ N va b N 3).bind fun q=>match q with
  | .ret v=>some v
  | .brk p2=>
   aKJ N
def aDy (N:Nat)(p:aK):Option Bool:=
 (oS N p.Genesis.Bits).bind fun x95=>
 (bM 4 x95.1).bind fun q_1=>
 if x95.2 == 0 then
  (n4 N x95.1 p.Limit).bind fun aLo=>
  some (decide (aLo≤0))
 else
  none
def aDB (N:Nat)(p:aK):Nat→Option Unit
 |0=>none
 |m+1=>
  if decide (0<(p.Checkpoints.length:Int)) then
   none
  else
   some ()
def jB (N:Nat)(p:aK):Option Bool:=
 (bM 4 p.Limit).bind fun q=>
 (nT N p.Limit).bind fun x9=>
 if x9 then
  none
 else
  if decide (p.Window<1) then
   none
  else
   if decide (4096<p.Window) then
    none
   else
    if decide (p.Spacing<1) then
     none
    else
     if decide (1048576<p.Spacing) then
      none
     else
      if decide (p.Subsidy<0) then
       none
      else
       if decide (2100000000000000<p.Subsidy) then
        none
       else
        if decide (p.Halving<1) then
         none
        else
         if decide (16777216<p.Halving) then
          none
         else
          if decide (p.Maturity<0) then
           none
          else
           if decide (16777216<p.Maturity) then
            none
           else
            (aDB N p N).bind fun p2=>
            aDy N p
def aB6 (N:Nat)(l0:List Int):Option (List Int):=
 some l0
def q8 (N:Nat)(v:Int)(x8:List Int):Nat→Int→(List Int)→Option (List Int)
 |0,_,_=>none
 |m+1,x11,aO=>
  if decide (x11<(x8.length:Int)) then
   (shr .u64 v (a1K.wrap (8*x11))).bind fun x19=>
   (aW aO x11).bind fun x21=>
   (q8 N v x8 m) (a1K.wrap (x11+1)) (aO.set (a1Q x11) (a1P.wrap x19))
  else
   some aO
def kM (N:Nat)(v vn:Int):Option (List Int):=
 (mks 1 0 vn).bind fun x8=>
 (q8 N v x8 N 0 x8).bind fun p2=>
 aB6 N p2
def eQ (N:Nat)(va b:List Int):Option (List Int):=
 (mks 1 0 (a1K.wrap ((va.length:Int)+(b.length:Int)))).bind fun x11=>
 (b6 1 (x11.take 0) va).bind fun x14=>
 (b6 1 x14 b).bind fun x16=>
 some x16
def dW (N:Nat)(b:List Int)(vn:Int):Option (List Int):=
 (kM N (a1L.wrap vn) 4).bind fun x8=>
 (eQ N b x8).bind fun x9=>
 some x9
def e7 (N:Nat)(b vh:List Int):Option (List Int):=
 (bM 32 vh).bind fun q=>
 (eQ N b vh).bind fun x7=>
 some x7
def aBj (N:Nat)(l0:List Int):Option (List Int):=
 some l0
def mW (N:Nat)(vh:bV):Nat→Int→(List Int)→Option (List Int)
 |0,_,_=>none
 |m+1,x24,aO=>
  if decide (x24<(3:Int)) then
   (aW [vh.Time,vh.Bits,vh.Nonce] x24).bind fun x26=>
   (dW N aO x26).bind fun x30=>
   (mW N vh m) (a1K.wrap (x24+1)) x30
  else
   some aO
def mD (N:Nat)(vh:bV):Option (List Int):=
 (dW N [] vh.Version).bind fun x8=>
 (bM 32 vh.Prev).bind fun q=>
 (e7 N x8 vh.Prev).bind fun x12=>
 (bM 32 vh.Root).bind fun q_1=>
 (e7 N x12 vh.Root).bind fun x15=>
 (mW N vh N 0 x15).bind fun p2=>
 aBj N p2
def aLs (N:Nat)(aO:List Int):Option (List Int):=
 some aO
def xP (N:Nat)(vn:Int):Nat→Int→(List Int)→Option (List Int)
 |0,_,_=>none
 |m+1,vi,d8=>
  if decide (0≤vi) then
   (shr .u64 (a1L.wrap (8*vn)) (a1K.wrap (8*vi))).bind fun x26=>
   (b6 1 d8 [a1P.wrap x26]).bind fun x29=>
   (xP N vn m) (a1K.wrap (vi-1)) x29
  else
   some d8
def aGN (N:Nat)(vn:Int)(l0:List Int):Option (List Int):=
 (xP N vn N 7 l0).bind fun p3=>
 aLs N p3
def aB4 (N:Nat)(vn:Int):Nat→(List Int)→Option (List Int)
 |0,_=>none
 |m+1,gY=>
  if(a1O (a1L.wrap ((a1L.wrap (vn+(a1L.wrap (gY.length:Int))))+8)) 64) != 0 then
   (b6 1 gY [0]).bind fun x16=>
   (aB4 N vn m) x16
  else
   some gY
def aG9 (N:Nat)(vn:Int):Option (List Int):=
 (aB4 N vn N [128]).bind fun p4=>
 aGN N vn p4
def aAw (N:Nat):Option (List Int):=
 some [1779033703,3144134277,1013904242,2773480762,1359893119,2600822924,528734635,1541459225]
def lX (N:Nat)(x k:Int):Option Int:=
 (shl .u32 x (bits .and .u64 (a1L.wrap k) 31)).bind fun x11=>
 (shr .u32 x (a1L.wrap (32-(bits .and .u64 (a1L.wrap k) 31)))).bind fun x15=>
 some (bits .or .u32 x11 x15)
def jH (N:Nat)(x vn:Int):Option Int:=
 (lX N x (a1K.wrap (0-vn))).bind fun x8=>
 some x8
def zZ (N:Nat)(bL:List Int):Option (List Int):=
 (bM 64 bL).bind fun q=>
 some bL
def r8 (N:Nat):Nat→Int→(List Int)→Option (List Int)
 |0,_,_=>none
 |m+1,vi,cL=>
  if decide (vi<64) then
   (cC 64 cL (a1K.wrap (vi-15))).bind fun x49=>
   (jH N x49 7).bind fun x51=>
   (jH N x49 18).bind fun x56=>
   (shr .u32 x49 3).bind fun x62=>
   (cC 64 cL (a1K.wrap (vi-2))).bind fun x66=>
   (jH N x66 17).bind fun x68=>
   (jH N x66 19).bind fun x73=>
   (shr .u32 x66 10).bind fun x79=>
   (cC 64 cL (a1K.wrap (vi-16))).bind fun x84=>
   (cC 64 cL (a1K.wrap (vi-7))).bind fun x90=>
   (cC 64 cL vi).bind fun x95=>
   (r8 N m) (a1K.wrap (vi+1)) (cL.set (a1Q vi) (a1M.wrap ((a1M.wrap ((a1M.wrap (x84+(bits .xor .u32 (bits .xor .u32 x51 x56) x62)))+x90))+(bits .xor .u32 (bits .xor .u32 x68 x73) x79))))
  else
   some cL
def aAc (N:Nat)(l1:List Int):Option (List Int):=
 (r8 N N 16 l1).bind fun p3=>
 zZ N p3
def kV (N:Nat)(block:List Int):Nat→Int→(List Int)→Option (List Int)
 |0,_,_=>none
 |m+1,nF,l2=>
  if decide (nF<16) then
   (cC 64 block (a1K.wrap (4*nF))).bind fun x15=>
   (shl .u32 (a1M.wrap x15) 24).bind fun x18=>
   (cC 64 block (a1K.wrap ((a1K.wrap (4*nF))+1))).bind fun x22=>
   (shl .u32 (a1M.wrap x22) 16).bind fun x25=>
   (cC 64 block (a1K.wrap ((a1K.wrap (4*nF))+2))).bind fun x30=>
   (shl .u32 (a1M.wrap x30) 8).bind fun x33=>
   (cC 64 block (a1K.wrap ((a1K.wrap (4*nF))+3))).bind fun x38=>
   (cC 64 l2 nF).bind fun x42=>
   (kV N block m) (a1K.wrap (nF+1)) (l2.set (a1Q nF) (bits .or .u32 (bits .or .u32 (bits .or .u32 x18 x25) x33) (a1M.wrap x38)))
  else
   some l2
def zC (N:Nat)(block:List Int):Option (List Int):=
 (kV N block N 0 (a1N 64 0)).bind fun p4=>
 aAc N p4
def vS (N:Nat):Option (List Int):=
 some [1116352408,1899447441,3049323471,3921009573,961987163,1508970993,2453635748,2870763221,3624381080,310598401,607225278,1426881987,1925078388,2162078206,2614888103,3248222580,3835390401,4022224774,264347078,604807628,770255983,1249150122,1555081692,1996064986,2554220882,2821834349,2952996808,3210313671,3336571891,3584528711,113926993,338241895,666307205,773529912,1294757372,1396182291,1695183700,1986661051,2177026350,2456956037,2730485921,2820302411,3259730800,3345764771,3516065817,3600352804,4094571909,275423344,430227734,506948616,659060556,883997877,958139571,1322822218,1537002063,1747873779,1955562222,2024104815,2227730452,2361852424,2428436474,2756734187,3204031479,3329325298]
def aAe (N:Nat)(cX:List Int)(va b c d ve f g vh:Int):Option (List Int):=
 (cC 8 cX 0).bind fun aOE=>
 (cC 8 cX 1).bind fun aLo=>
 (cC 8 cX 2).bind fun aV9=>
 (cC 8 cX 3).bind fun aVc=>
 (cC 8 cX 4).bind fun aU1=>
 (cC 8 cX 5).bind fun aVs=>
 (cC 8 cX 6).bind fun aVw=>
 (cC 8 cX 7).bind fun aVj=>
 some [a1M.wrap (aOE+va),a1M.wrap (aLo+b),a1M.wrap (aV9+c),a1M.wrap (aVc+d),a1M.wrap (aU1+ve),a1M.wrap (aVs+f),a1M.wrap (aVw+g),a1M.wrap (aVj+vh)]
def sB (N:Nat)(cX:List Int)(x19 x20:(List Int)):Nat→Int→Int→Int→Int→Int→Int→Int→Int→Int→Option (Int×Int×Int×Int×Int×Int×Int×Int)
 |0,_,_,_,_,_,_,_,_,_=>none
 |m+1,va_1,b_1,c_1,d_1,ve_1,f_1,g_1,vh_1,vi=>
  if decide (vi<64) then
   (jH N ve_1 6).bind fun x43=>
   (jH N ve_1 11).bind fun x45=>
   (jH N ve_1 25).bind fun x48=>
   (cC 64 x20 vi).bind fun x61=>
   (cC 64 x19 vi).bind fun x65=>
   (jH N va_1 2).bind fun x69=>
   (jH N va_1 13).bind fun x71=>
   (jH N va_1 22).bind fun x74=>
   (sB N cX x19 x20 m) (a1M.wrap ((a1M.wrap ((a1M.wrap ((a1M.wrap ((a1M.wrap (vh_1+(bits .xor .u32 (bits .xor .u32 x43 x45) x48)))+(bits .xor .u32 (bits .and .u32 ve_1 f_1) (bits .and .u32 (bits .xor .u32 (a1S .u32) ve_1) g_1))))+x61))+x65))+(a1M.wrap ((bits .xor .u32 (bits .xor .u32 x69 x71) x74)+(bits .xor .u32 (bits .xor .u32 (bits .and .u32 va_1 b_1) (bits .and .u32 va_1 c_1)) (bits .and .u32 b_1 c_1)))))) va_1 b_1 c_1 (a1M.wrap (d_1+(a1M.wrap ((a1M.wrap ((a1M.wrap ((a1M.wrap (vh_1+(bits .xor .u32 (bits .xor .u32 x43 x45) x48)))+(bits .xor .u32 (bits .and .u32 ve_1 f_1) (bits .and .u32 (bits .xor .u32 (a1S .u32) ve_1) g_1))))+x61))+x65)))) ve_1 f_1 g_1 (a1K.wrap (vi+1))
  else
   some (va_1,b_1,c_1,d_1,ve_1,f_1,g_1,vh_1)
def tH (N:Nat)(cX block:List Int):Option (List Int):=
 (bM 64 block).bind fun q=>
 (zC N block).bind fun x19=>
 (vS N).bind fun x20=>
 (bM 64 x19).bind fun q_1=>
 (bM 64 x20).bind fun q_2=>
 (cC 8 cX 0).bind fun x21=>
 (cC 8 cX 1).bind fun x23=>
 (cC 8 cX 2).bind fun x25=>
 (cC 8 cX 3).bind fun x27=>
 (cC 8 cX 4).bind fun x29=>
 (cC 8 cX 5).bind fun x31=>
 (cC 8 cX 6).bind fun x33=>
 (cC 8 cX 7).bind fun x35=>
 (sB N cX x19 x20 N x21 x23 x25 x27 x29 x31 x33 x35 0).bind fun p2=>
 aAe N cX p2.1 p2.2.1 p2.2.2.1 p2.2.2.2.1 p2.2.2.2.2.1 p2.2.2.2.2.2.1 p2.2.2.2.2.2.2.1 p2.2.2.2.2.2.2.2
def aGg (N:Nat)(bL:List Int):Option (List Int):=
 (bM 32 bL).bind fun q_1=>
 some bL
def aBF (N:Nat)(l1:List Int):Nat→Int→(List Int)→Option (List Int)
 |0,_,_=>none
 |m+1,x34,cL=>
  if decide (x34<8) then
   (cC 8 l1 x34).bind fun x37=>
   (shr .u32 x37 24).bind fun x50=>
   (shr .u32 x37 16).bind fun x53=>
   (shr .u32 x37 8).bind fun x56=>
   (cC 32 cL (a1K.wrap (4*x34))).bind fun x60=>
   (cC 32 (cL.set (a1Q (a1K.wrap (4*x34))) (a1P.wrap x50)) (a1K.wrap ((a1K.wrap (4*x34))+1))).bind fun x61=>
   (cC 32 ((cL.set (a1Q (a1K.wrap (4*x34))) (a1P.wrap x50)).set (a1Q (a1K.wrap ((a1K.wrap (4*x34))+1))) (a1P.wrap x53)) (a1K.wrap ((a1K.wrap (4*x34))+2))).bind fun x62=>
   (cC 32 (((cL.set (a1Q (a1K.wrap (4*x34))) (a1P.wrap x50)).set (a1Q (a1K.wrap ((a1K.wrap (4*x34))+1))) (a1P.wrap x53)).set (a1Q (a1K.wrap ((a1K.wrap (4*x34))+2))) (a1P.wrap x56)) (a1K.wrap ((a1K.wrap (4*x34))+3))).bind fun x63=>
   (aBF N l1 m) (a1K.wrap (x34+1)) ((((cL.set (a1Q (a1K.wrap (4*x34))) (a1P.wrap x50)).set (a1Q (a1K.wrap ((a1K.wrap (4*x34))+1))) (a1P.wrap x53)).set (a1Q (a1K.wrap ((a1K.wrap (4*x34))+2))) (a1P.wrap x56)).set (a1Q (a1K.wrap ((a1K.wrap (4*x34))+3))) (a1P.wrap x37))
  else
   some cL
def aF2 (N:Nat)(l1:List Int):Option (List Int):=
 (bM 8 l1).bind fun q_2=>
 (aBF N l1 N 0 (a1N 32 0)).bind fun p3=>
 aGg N p3
def aBC (N:Nat)(x16:List Int):Nat→Int→(List Int)→Option (List Int)
 |0,_,_=>none
 |m+1,vi,l1_3=>
  if decide ((a1K.wrap (vi+64))≤(x16.length:Int)) then
   (sub x16 vi (x16.length:Int)).bind fun x28=>
   (bM 8 l1_3).bind fun q_3=>
   (bM 64 (cpy (a1N 64 0) x28)).bind fun q_4=>
   (tH N l1_3 (cpy (a1N 64 0) x28)).bind fun x32=>
   (bM 8 x32).bind fun q_5=>
   (aBC N x16 m) (a1K.wrap (vi+64)) x32
  else
   some l1_3
def mE (N:Nat)(b:List Int):Option (List Int):=
 (b6 1 [] b).bind fun x11=>
 (aG9 N (a1L.wrap (b.length:Int))).bind fun x15=>
 (b6 1 x11 x15).bind fun x16=>
 (aAw N).bind fun x17=>
 (bM 8 x17).bind fun q=>
 (aBC N x16 N 0 x17).bind fun p4=>
 aF2 N p4
def pI (N:Nat)(b:List Int):Option (List Int):=
 (mE N b).bind fun x5=>
 (bM 32 x5).bind fun q=>
 (mE N x5).bind fun x7=>
 (bM 32 x7).bind fun q_1=>
 some x7
def nW (N:Nat)(vh:bV):Option (List Int):=
 (mD N vh).bind fun x4=>
 (pI N x4).bind fun x5=>
 (bM 32 x5).bind fun q=>
 some x5
def aHB (N:Nat)(p:aK):Option (aF×Int):=
 (jB N p).bind fun x5=>
 if !x5 then
  some ((aF.mk 0 (a1N 32 0) []),6)
 else
  (nW N p.Genesis).bind fun x10=>
  (bM 32 x10).bind fun q=>
  some ((aF.mk 0 x10 []),0)
def aHP (N:Nat)(p:aK):Option (bA×Int):=
 (jB N p).bind fun x6=>
 if !x6 then
  some ((bA.mk 0 (a1N 32 0) 0 0 []),6)
 else
  (nW N p.Genesis).bind fun x12=>
  (bM 32 x12).bind fun q=>
  some ((bA.mk 0 x12 p.Genesis.Bits p.Genesis.Time [p.Genesis.Time]),0)
def aFi (N:Nat)(v:Int):Option aR:=
 (aDV N v).bind fun x9=>
 (aHB N x9).bind fun x12=>
 (aHP N x9).bind fun x17=>
 some (aR.mk x9 [] [x12.1] [x17.1] [])
def aQ8 (N:Nat)(script:List Int):Option (List (List Int)):=
 if(script.length:Int) != 4 then
  some []
 else
  (aW script 2).bind fun x7=>
  some [[x7]]
def nZ (N:Nat)(vj:Int):Option (List Int):=
 some [1,1,a1P.wrap (1+(a1O vj 6)),5]
def uV (N:Nat)(c:aA)(vs:Int)(x29:(List (List Int)))(first:Int)(l3:List aI):Option (Int×(List aT)×(List aI)×Int×Int):=
 (nZ N (a1P.wrap (a1R vs 4))).bind fun x56=>
 (b6 32 l3 [aI.mk first x56]).bind fun x59=>
 some (1,[aT.mk c.Out (a1M.wrap vs) x29],x59,0,if c.Output.Value<(a1K.wrap (a1O vs 3))then c.Output.Value else(a1K.wrap (a1O vs 3)))
def aFr (N:Nat)(c:aA)(vs:Int):Option (Int×(List aT)×(List aI)×Int×Int):=
 (aQ8 N c.Output.Script).bind fun x29=>
 if(a1O vs 2) == 1 then
  (nZ N (a1P.wrap (a1R vs 2))).bind fun x46=>
  (b6 32 [] [aI.mk (a1K.wrap ((a1K.wrap (c.Output.Value-(if c.Output.Value<(a1K.wrap (a1O vs 3))then c.Output.Value else(a1K.wrap (a1O vs 3)))))-(a1K.wrap (a1R (a1K.wrap (c.Output.Value-(if c.Output.Value<(a1K.wrap (a1O vs 3))then c.Output.Value else(a1K.wrap (a1O vs 3))))) 3)))) x46]).bind fun x49=>
  uV N c vs x29 (a1K.wrap (a1R (a1K.wrap (c.Output.Value-(if c.Output.Value<(a1K.wrap (a1O vs 3))then c.Output.Value else(a1K.wrap (a1O vs 3))))) 3)) x49
 else
  uV N c vs x29 (a1K.wrap (c.Output.Value-(if c.Output.Value<(a1K.wrap (a1O vs 3))then c.Output.Value else(a1K.wrap (a1O vs 3))))) []
def hP (N:Nat)(b:List Int)(vn:Int):Option (List Int):=
 if decide (vn<253) then
  (kM N vn 1).bind fun x10=>
  (eQ N b x10).bind fun x11=>
  some x11
 else
  if decide (vn<65536) then
   (kM N vn 2).bind fun x18=>
   (eQ N [253] x18).bind fun x19=>
   (eQ N b x19).bind fun x20=>
   some x20
  else
   if decide (vn<4294967296) then
    (kM N vn 4).bind fun x27=>
    (eQ N [254] x27).bind fun x28=>
    (eQ N b x28).bind fun x29=>
    some x29
   else
    (kM N vn 8).bind fun x33=>
    (eQ N [255] x33).bind fun x34=>
    (eQ N b x34).bind fun x35=>
    some x35
def aAs (N:Nat)(o:aD):Option (List Int):=
 (bM 32 o.Tx).bind fun q=>
 (e7 N [] o.Tx).bind fun x5=>
 (dW N x5 o.Index).bind fun x8=>
 some x8
def vY (N:Nat)(b:List Int)(vn:Int):Option (List Int):=
 (kM N vn 8).bind fun x7=>
 (eQ N b x7).bind fun x8=>
 some x8
def nN (N:Nat)(b vs:List Int):Option (List Int):=
 (hP N b (a1L.wrap (vs.length:Int))).bind fun x9=>
 (eQ N x9 vs).bind fun x11=>
 some x11
def aBh (N:Nat)(o:aI):Option (List Int):=
 (vY N [] (a1L.wrap o.Value)).bind fun x6=>
 (nN N x6 o.Script).bind fun x9=>
 some x9
def aBo (N:Nat)(l0:List Int):Option (List Int):=
 some l0
def aCA (N:Nat)(t:aB)(bI:Bool)(x64:Int)(rec:Int→(List Int)→Option (List Int))(d8:List Int):Option (List Int):=
 rec (a1K.wrap (x64+1)) d8
def mO (N:Nat)(t:aB)(bI:Bool)(x64:Int)(x66:aT):Nat→Int→(List Int)→Option (List Int)
 |0,_,_=>none
 |m+1,x79,gY=>
  if decide (x79<(x66.Witness.length:Int)) then
   (aW x66.Witness x79).bind fun x81=>
   (nN N gY x81).bind fun x85=>
   (mO N t bI x64 x66 m) (a1K.wrap (x79+1)) x85
  else
   some gY
def eZ (N:Nat)(t:aB)(bI:Bool):Nat→Int→(List Int)→Option (List Int)
 |0,_,_=>none
 |m+1,x64,aO=>
  if decide (x64<(t.Inputs.length:Int)) then
   (aW t.Inputs x64).bind fun x66=>
   if !bI then
    some aO
   else
    (hP N aO (a1L.wrap (x66.Witness.length:Int))).bind fun x75=>
    (mO N t bI x64 x66 N 0 x75).bind fun p6=>
    aCA N t bI x64 (eZ N t bI m) p6
  else
   some aO
def vZ (N:Nat)(t:aB)(bI:Bool)(bL:List Int):Option (List Int):=
 (dW N bL t.Lock).bind fun x60=>
 (eZ N t bI N 0 x60).bind fun p4=>
 aBo N p4
def mL (N:Nat)(t:aB)(bI:Bool):Nat→Int→(List Int)→Option (List Int)
 |0,_,_=>none
 |m+1,x48,cL=>
  if decide (x48<(t.Outputs.length:Int)) then
   (aW t.Outputs x48).bind fun x50=>
   (aBh N x50).bind fun x54=>
   (b6 1 cL x54).bind fun x55=>
   (mL N t bI m) (a1K.wrap (x48+1)) x55
  else
   some cL
def v7 (N:Nat)(t:aB)(bI:Bool)(l1:List Int):Option (List Int):=
 (hP N l1 (a1L.wrap (t.Outputs.length:Int))).bind fun x44=>
 (mL N t bI N 0 x44).bind fun p7=>
 vZ N t bI p7
def mV (N:Nat)(t:aB)(bI:Bool):Nat→Int→(List Int)→Option (List Int)
 |0,_,_=>none
 |m+1,x26,l1_3=>
  if decide (x26<(t.Inputs.length:Int)) then
   (aW t.Inputs x26).bind fun x28=>
   (aAs N x28.Prev).bind fun x33=>
   (b6 1 l1_3 x33).bind fun x34=>
   (dW N x34 x28.Sequence).bind fun x37=>
   (mV N t bI m) (a1K.wrap (x26+1)) x37
  else
   some l1_3
def g8 (N:Nat)(t:aB)(bI:Bool):Option (List Int):=
 (dW N [] t.Version).bind fun x16=>
 (hP N x16 (a1L.wrap (t.Inputs.length:Int))).bind fun x22=>
 (mV N t bI N 0 x22).bind fun p8=>
 v7 N t bI p8
def aAN (N:Nat)(t:aB):Option Bool:=
 (g8 N t true).bind fun x60=>
 some (decide ((x60.length:Int)≤20000))
def aAA (N:Nat)(t:aB)(x39:Int)(rec:Int→Option (LR (Unit) (Bool))):Option (LR (Unit) (Bool)):=
 rec (a1K.wrap (x39+1))
def kZ (N:Nat)(t:aB)(x39:Int)(x41:aT):Nat→Int→Option (LR (Unit) (Bool))
 |0,_=>none
 |m+1,x50=>
  if decide (x50<(x41.Witness.length:Int)) then
   (aW x41.Witness x50).bind fun x52=>
   if decide (520<(x52.length:Int)) then
    some (.ret false)
   else
    (kZ N t x39 x41 m) (a1K.wrap (x50+1))
  else
   some (.brk ())
def jG (N:Nat)(t:aB):Nat→Int→Option (LR (Unit) (Bool))
 |0,_=>none
 |m+1,x39=>
  if decide (x39<(t.Inputs.length:Int)) then
   (aW t.Inputs x39).bind fun x41=>
   if decide (32<(x41.Witness.length:Int)) then
    some (.ret false)
   else
    (kZ N t x39 x41 N 0).bind fun q=>match q with
     | .ret v=>some (.ret v)
     | .brk p6=>
      aAA N t x39 (jG N t m)
  else
   some (.brk ())
def u1 (N:Nat)(t:aB):Option Bool:=
 (jG N t N 0).bind fun q=>match q with
  | .ret v=>some v
  | .brk p4=>
   aAN N t
def u4 (N:Nat)(t:aB)(x22:Int)(rec:Int→Option (LR (Unit) (Bool)))(x34:Bool):Option (LR (Unit) (Bool)):=
 if x34 then
  some (.ret false)
 else
  rec (a1K.wrap (x22+1))
def iF (N:Nat)(t:aB):Nat→Int→Option (LR (Unit) (Bool))
 |0,_=>none
 |m+1,x22=>
  if decide (x22<(t.Outputs.length:Int)) then
   (aW t.Outputs x22).bind fun x24=>
   if decide (x24.Value<0) then
    u4 N t x22 (iF N t m) true
   else
    u4 N t x22 (iF N t m) (decide (520<(x24.Script.length:Int)))
  else
   some (.brk ())
def qK (N:Nat)(t:aB)(x18:Bool):Option Bool:=
 if x18 then
  some false
 else
  (iF N t N 0).bind fun q=>match q with
   | .ret v=>some v
   | .brk p7=>
    u1 N t
def gP (N:Nat)(t:aB):Option Bool:=
 if decide (64<(t.Inputs.length:Int)) then
  qK N t true
 else
  qK N t (decide (64<(t.Outputs.length:Int)))
def aBa (N:Nat)(t:aB):Option (List Int):=
 (gP N t).bind fun x4=>
 if !x4 then
  some [0,0,0,0,0,0,0,0,0,0,0,0,0,0,0,0,0,0,0,0,0,0,0,0,0,0,0,0,0,0,0,0]
 else
  (g8 N t false).bind fun x8=>
  (pI N x8).bind fun x9=>
  (bM 32 x9).bind fun q=>
  some x9
def aBx (N:Nat)(fees:Int)(l0:List aB):Option ((List aB)×Int):=
 some (l0,fees)
def tZ (N:Nat)(p:aK)(l:aF)(vs k:Int)(rec:Int→Int→(List aB)→(List aA)→Option (Int×(List aB)))(aM1:Int)(fA:List aB)(eH:List aA):Option (Int×(List aB)):=
 rec aM1 (a1P.wrap (k+1)) fA eH
def tR (N:Nat)(p:aK)(l:aF)(vs dI k:Int)(l2:List aB)(l3:List aA)(vi:Int)(rec:Int→Option (Int×(List aB)×(List aA))):Option (Int×(List aB)×(List aA)):=
 rec (a1K.wrap (vi+1))
def uG (N:Nat)(p:aK)(l:aF)(vs dI k:Int)(x69:Int×(List aT)×(List aI)×Int×Int)(x75:List aB)(rec:Int→Option (Int×(List aB)×(List aA)))(aQz:List aA):Option (Int×(List aB)×(List aA)):=
 some (a1K.wrap (dI+x69.2.2.2.2),x75,aQz)
def kL (N:Nat)(p:aK)(l:aF)(vs dI k:Int)(x69:Int×(List aT)×(List aI)×Int×Int)(x75:List aB)(x89:(List Int)):Nat→Int→(List aA)→Option (List aA)
 |0,_,_=>none
 |m+1,x93,l3_4=>
  if decide (x93<(x69.2.2.1.length:Int)) then
   (aW x69.2.2.1 x93).bind fun x96=>
   (b6 88 l3_4 [aA.mk (aD.mk x89 (a1M.wrap x93)) x96 (a1K.wrap (l.Height+1)) false]).bind fun aYi=>
   (kL N p l vs dI k x69 x75 x89 m) (a1K.wrap (x93+1)) aYi
  else
   some l3_4
def kH (N:Nat)(p:aK)(l:aF)(vs dI k:Int)(x69:Int×(List aT)×(List aI)×Int×Int)(x75:List aB)(rec:Int→Option (Int×(List aB)×(List aA)))(kB:List aA):Option (Int×(List aB)×(List aA)):=
 (aBa N (aB.mk x69.1 x69.2.1 x69.2.2.1 x69.2.2.2.1)).bind fun x89=>
 (bM 32 x89).bind fun q=>
 (kL N p l vs dI k x69 x75 x89 N 0 kB).bind fun p9=>
 uG N p l vs dI k x69 x75 rec p9
def kG (N:Nat)(p:aK)(l:aF)(vs dI k:Int)(l2:List aB)(l3:List aA)(vi x46:Int)(x49:aA)(rec:Int→Option (Int×(List aB)×(List aA)))(x63:Bool):Option (Int×(List aB)×(List aA)):=
 if x63 then
  tR N p l vs dI k l2 l3 vi rec
 else
  (aFr N x49 (a1P.wrap (vs+k))).bind fun x69=>
  (b6 64 l2 [aB.mk x69.1 x69.2.1 x69.2.2.1 x69.2.2.2.1]).bind fun x75=>
  if decide (a1K.wrap (x46+1)=(l3.length:Int)) then
   (sub l3 0 x46).bind fun x82=>
   (b6 88 x82 []).bind fun x87=>
   kH N p l vs dI k x69 x75 rec x87
  else
   (sub l3 0 x46).bind fun aWZ=>
   (sub l3 (a1K.wrap (x46+1)) (l3.length:Int)).bind fun x86=>
   (b6 88 aWZ x86).bind fun aP9=>
   kH N p l vs dI k x69 x75 rec aP9
def dE (N:Nat)(p:aK)(l:aF)(vs dI k:Int)(l2:List aB)(l3:List aA):Nat→Int→Option (Int×(List aB)×(List aA))
 |0,_=>none
 |m+1,vi=>
  if decide (vi<(l3.length:Int)) then
   (rem (a1K.wrap ((a1K.wrap ((a1K.wrap (a1P.wrap (a1R vs 4)))+(a1K.wrap k)))+vi)) (l3.length:Int)).bind fun x46=>
   (aW l3 x46).bind fun x49=>
   if x49.Coinbase then
    kG N p l vs dI k l2 l3 vi x46 x49 (dE N p l vs dI k l2 l3 m) (decide ((a1K.wrap ((a1K.wrap (l.Height+1))-x49.Height))<p.Maturity))
   else
    kG N p l vs dI k l2 l3 vi x46 x49 (dE N p l vs dI k l2 l3 m) false
  else
   some (dI,l2,l3)
def iO (N:Nat)(p:aK)(l:aF)(vs:Int):Nat→Int→Int→(List aB)→(List aA)→Option (Int×(List aB))
 |0,_,_,_,_=>none
 |m+1,dI,k,l2,l3=>
  if decide (k<(a1O vs 4)) then
   (dE N p l vs dI k l2 l3 N 0).bind fun p4=>
   tZ N p l vs k (iO N p l vs m) p4.1 p4.2.1 p4.2.2
  else
   some (dI,l2)
def rY (N:Nat)(p:aK)(l:aF)(vs:Int):Option ((List aB)×Int):=
 (b6 88 [] l.Coins).bind fun x23=>
 (iO N p l vs N 0 0 [] x23).bind fun p2=>
 aBx N p2.1 p2.2
def aGi (N:Nat)(vs:Int):Option Int:=
 some vs
def uK (N:Nat)(sZ vn:Int)(rec:Int→Int→Option Int)(x25:Bool):Option Int:=
 if x25 then
  rec (a1K.wrap (a1R sZ 2)) (a1K.wrap (vn-1))
 else
  some sZ
def jO (N:Nat):Nat→Int→Int→Option Int
 |0,_,_=>none
 |m+1,sZ,vn=>
  if decide (0<vn) then
   uK N sZ vn (jO N m) (decide (0<sZ))
  else
   uK N sZ vn (jO N m) false
def o9 (N:Nat)(p:aK)(height:Int)(x13:Bool):Option Int:=
 if x13 then
  some 0
 else
  (quo .i64 height p.Halving).bind fun x19=>
  (jO N N p.Subsidy x19).bind fun p3=>
  aGi N p3
def nB (N:Nat)(p:aK)(height:Int):Option Int:=
 (jB N p).bind fun x8=>
 if !x8 then
  o9 N p height true
 else
  o9 N p height (decide (height<0))
def aPs (N:Nat):Option aD:=
 some (aD.mk (a1N 32 0) 4294967295)
def uZ (N:Nat)(height value:Int)(script:List Int):Option aB:=
 (aPs N).bind fun x7=>
 some (aB.mk 1 [aT.mk x7 (a1M.wrap height) []] [aI.mk value script] 0)
def y8 (N:Nat)(t:aB):Option (List Int):=
 (gP N t).bind fun x4=>
 if !x4 then
  some [0,0,0,0,0,0,0,0,0,0,0,0,0,0,0,0,0,0,0,0,0,0,0,0,0,0,0,0,0,0,0,0]
 else
  (g8 N t true).bind fun x8=>
  (pI N x8).bind fun x9=>
  (bM 32 x9).bind fun q=>
  some x9
def aJV (N:Nat)(l0:List Int):Option (List Int):=
 some l0
def u9 (N:Nat)(l:List (List Int)):Nat→Int→(List Int)→Option (List Int)
 |0,_,_=>none
 |m+1,x8,aO=>
  if decide (x8<(l.length:Int)) then
   (aW l x8).bind fun x10=>
   (eQ N aO x10).bind fun x14=>
   (u9 N l m) (a1K.wrap (x8+1)) x14
  else
   some aO
def nX (N:Nat)(l:List (List Int)):Option (List Int):=
 (u9 N l N 0 []).bind fun p2=>
 aJV N p2
def yR (N:Nat)(l vr:List Int):Option (List Int):=
 (bM 32 l).bind fun q=>
 (bM 32 vr).bind fun q_1=>
 (nX N [[1],l,vr]).bind fun x9=>
 (mE N x9).bind fun x10=>
 (bM 32 x10).bind fun q_2=>
 some x10
def aCi (N:Nat)(l0:List (List (List Int))):Option (List (List (List Int))):=
 some l0
def vU (N:Nat)(aO:List (List (List Int)))(rec:(List (List Int))→(List (List (List Int)))→Option (List (List (List Int))))(l1:List (List Int)):Option (List (List (List Int))):=
 (aHW 32 l1).bind fun q=>
 (b6 24 aO [l1]).bind fun x45=>
 rec l1 x45
def kN (N:Nat)(l_1:List (List Int))(aO:List (List (List Int)))(vi:Int)(rec:Int→(List (List Int))→Option (List (List Int)))(cL:List (List Int)):Option (List (List Int)):=
 rec (a1K.wrap (vi+2)) cL
def dS (N:Nat)(l_1:List (List Int))(aO:List (List (List Int))):Nat→Int→(List (List Int))→Option (List (List Int))
 |0,_,_=>none
 |m+1,vi,bL=>
  if decide (vi<(l_1.length:Int)) then
   if decide ((a1K.wrap (vi+1))<(l_1.length:Int)) then
    (aW l_1 vi).bind fun x25=>
    (bM 32 x25).bind fun q_1=>
    (aW l_1 (a1K.wrap (vi+1))).bind fun x30=>
    (bM 32 x30).bind fun q_2=>
    (yR N x25 x30).bind fun x32=>
    (bM 32 x32).bind fun q_3=>
    (b6 32 bL [x32]).bind fun x34=>
    kN N l_1 aO vi (dS N l_1 aO m) x34
   else
    (aW l_1 vi).bind fun x38=>
    (bM 32 x38).bind fun q_4=>
    (b6 32 bL [x38]).bind fun x41=>
    kN N l_1 aO vi (dS N l_1 aO m) x41
  else
   some bL
def iT (N:Nat):Nat→(List (List Int))→(List (List (List Int)))→Option (List (List (List Int)))
 |0,_,_=>none
 |m+1,l_1,aO=>
  if decide (1<(l_1.length:Int)) then
   (dS N l_1 aO N 0 []).bind fun p4=>
   vU N aO (iT N m) p4
  else
   some aO
def aBS (N:Nat)(l:List (List Int)):Option (List (List (List Int))):=
 (iT N N l [l]).bind fun p2=>
 aCi N p2
def nA (N:Nat)(l:List (List Int))(x11:Bool):Option (List Int):=
 if x11 then
  some [0,0,0,0,0,0,0,0,0,0,0,0,0,0,0,0,0,0,0,0,0,0,0,0,0,0,0,0,0,0,0,0]
 else
  (aBS N l).bind fun x14=>
  (aW x14 (a1K.wrap ((x14.length:Int)-1))).bind fun x19=>
  (aW x19 0).bind fun x21=>
  (bM 32 x21).bind fun q=>
  some x21
def uP (N:Nat)(l:List (List Int)):Option (List Int):=
 if(l.length:Int) == 0 then
  nA N l true
 else
  nA N l (decide (1024<(l.length:Int)))
def aAM (N:Nat)(l1:List (List Int)):Option (List Int):=
 (aHW 32 l1).bind fun q=>
 (uP N l1).bind fun x19=>
 (bM 32 x19).bind fun q_1=>
 some x19
def fZ (N:Nat)(l:List aB):Nat→Int→(List (List Int))→Option (List (List Int))
 |0,_,_=>none
 |m+1,x8,bL=>
  if decide (x8<(l.length:Int)) then
   (aW l x8).bind fun x10=>
   (y8 N x10).bind fun x14=>
   (bM 32 x14).bind fun q_2=>
   (b6 32 bL [x14]).bind fun x16=>
   (fZ N l m) (a1K.wrap (x8+1)) x16
  else
   some bL
def qQ (N:Nat)(l:List aB):Option (List Int):=
 (fZ N l N 0 []).bind fun p2=>
 aAM N p2
def aFM (N:Nat)(vs:Int):Option Int:=
 some (a1M.wrap (20+(a1M.wrap ((a1M.wrap (a1O vs 8))*15))))
def wE (N:Nat)(x y:Int):Option (Int×Int):=
 (shr .u64 x 32).bind fun x17=>
 (shr .u64 y 32).bind fun x21=>
 (shr .u64 (a1L.wrap ((bits .and .u64 x 4294967295)*(bits .and .u64 y 4294967295))) 32).bind fun x29=>
 (shr .u64 (a1L.wrap ((a1L.wrap (x17*(bits .and .u64 y 4294967295)))+x29)) 32).bind fun x34=>
 (shr .u64 (a1L.wrap ((bits .and .u64 (a1L.wrap ((a1L.wrap (x17*(bits .and .u64 y 4294967295)))+x29)) 4294967295)+(a1L.wrap ((bits .and .u64 x 4294967295)*x21)))) 32).bind fun x46=>
 some (a1L.wrap ((a1L.wrap ((a1L.wrap (x17*x21))+x34))+x46),a1L.wrap (x*y))
def aKx (N:Nat)(l2:List Int):Option ((List Int)×(List Int)):=
 (bM 8 l2).bind fun q=>
 (aOj l2 0 4).bind fun x64=>
 (aOj l2 4 8).bind fun x67=>
 (bM 4 (cpy (a1N 4 0) x67)).bind fun q_1=>
 (bM 4 (cpy (a1N 4 0) x64)).bind fun q_2=>
 some (cpy (a1N 4 0) x67,cpy (a1N 4 0) x64)
def aF5 (N:Nat)(va b:List Int)(x15:Int)(rec:Int→(List Int)→Option (List Int))(dR:List Int):Option (List Int):=
 rec (a1K.wrap (x15+1)) dR
def aFN (N:Nat)(va b:List Int)(x15:Int)(rec:Int→(List Int)→Option (List Int))(aFh:Int)(rO:List Int):Option (List Int):=
 (cC 8 rO (a1K.wrap (x15+4))).bind fun x61=>
 aF5 N va b x15 rec (rO.set (a1Q (a1K.wrap (x15+4))) aFh)
def wT (N:Nat)(va b:List Int)(x15:Int):Nat→Int→Int→(List Int)→Option (Int×(List Int))
 |0,_,_,_=>none
 |m+1,carry_1,x18,l4_3=>
  if decide (x18<4) then
   (cC 4 va x15).bind fun x23=>
   (cC 4 b x18).bind fun x26=>
   (wE N x23 x26).bind fun x28=>
   (cC 8 l4_3 (a1K.wrap (x15+x18))).bind fun x35=>
   (mQ N x35 x28.2 0).bind fun x38=>
   (mQ N x38.1 carry_1 0).bind fun x44=>
   (wT N va b x15 m) (a1L.wrap ((a1L.wrap (x28.1+x38.2))+x44.2)) (a1K.wrap (x18+1)) (l4_3.set (a1Q (a1K.wrap (x15+x18))) x44.1)
  else
   some (carry_1,l4_3)
def oO (N:Nat)(va b:List Int):Nat→Int→(List Int)→Option (List Int)
 |0,_,_=>none
 |m+1,x15,l4=>
  if decide (x15<4) then
   (wT N va b x15 N 0 0 l4).bind fun p5=>
   aFN N va b x15 (oO N va b m) p5.1 p5.2
  else
   some l4
def aHx (N:Nat)(va b:List Int):Option ((List Int)×(List Int)):=
 (oO N va b N 0 (a1N 8 0)).bind fun p2=>
 aKx N p2
def aCF (N:Nat)(x y c:Int):Option (Int×Int):=aNj x y c
def aGB (N:Nat)(borrow:Int)(l1:List Int):Option ((List Int)×Bool):=
 (bM 4 l1).bind fun q=>
 some (l1,borrow == 1)
def w8 (N:Nat)(va b:List Int):Nat→Int→Int→(List Int)→Option (Int×(List Int))
 |0,_,_,_=>none
 |m+1,borrow_1,x9,l3=>
  if decide (x9<4) then
   (cC 4 va x9).bind fun x15=>
   (cC 4 b x9).bind fun x18=>
   (aCF N x15 x18 borrow_1).bind fun x21=>
   (cC 4 l3 x9).bind fun x24=>
   (w8 N va b m) x21.2 (a1K.wrap (x9+1)) (l3.set (a1Q x9) x21.1)
  else
   some (borrow_1,l3)
def aHb (N:Nat)(va b:List Int):Option ((List Int)×Bool):=
 (w8 N va b N 0 0 (a1N 4 0)).bind fun p2=>
 aGB N p2.1 p2.2
def aFO (N:Nat)(l0 l1:List Int):Option ((List Int)×(List Int)×Bool):=
 (bM 4 l0).bind fun q_2=>
 (bM 4 l1).bind fun q_3=>
 some (l0,l1,true)
def aCz (N:Nat)(lo b:List Int)(vi:Int)(rec:Int→(List Int)→(List Int)→Option ((List Int)×(List Int)))(fA eH:List Int):Option ((List Int)×(List Int)):=
 rec (a1K.wrap (vi-1)) fA eH
def xQ (N:Nat)(lo b:List Int)(vi:Int)(l2 kB:List Int)(rec:Int→(List Int)→(List Int)→Option ((List Int)×(List Int)))(x43:Bool):Option ((List Int)×(List Int)):=
 if x43 then
  (bM 4 kB).bind fun q_6=>
  (aHb N kB b).bind fun x47=>
  (bM 4 x47.1).bind fun q_7=>
  (cC 4 l2 (a1K.wrap (a1R vi 64))).bind fun x52=>
  (shl .u64 1 (a1O vi 64)).bind fun x56=>
  aCz N lo b vi rec (l2.set (a1Q (a1K.wrap (a1R vi 64))) (bits .or .u64 x52 x56)) x47.1
 else
  aCz N lo b vi rec l2 kB
def xH (N:Nat)(lo b:List Int)(vi:Int)(l2:List Int)(x23:Bool)(rec:Int→(List Int)→(List Int)→Option ((List Int)×(List Int)))(kB:List Int):Option ((List Int)×(List Int)):=
 if x23 then
  xQ N lo b vi l2 kB rec true
 else
  (bM 4 kB).bind fun q_8=>
  (n4 N kB b).bind fun x41=>
  xQ N lo b vi l2 kB rec (decide (0≤x41))
def g7 (N:Nat)(lo b:List Int):Nat→Int→(List Int)→(List Int)→Option ((List Int)×(List Int))
 |0,_,_,_=>none
 |m+1,vi,l2,l3=>
  if decide (0≤vi) then
   (bM 4 l3).bind fun q_4=>
   (tL N l3 255).bind fun x23=>
   (aD9 N l3 l3).bind fun x27=>
   (bM 4 x27.1).bind fun q_5=>
   (bM 4 lo).bind fun q_9=>
   (tL N lo vi).bind fun x32=>
   if x32 then
    (cC 4 x27.1 0).bind fun x33=>
    xH N lo b vi l2 x23 (g7 N lo b m) (x27.1.set (a1Q 0) (bits .or .u64 x33 1))
   else
    xH N lo b vi l2 x23 (g7 N lo b m) x27.1
  else
   some (l2,l3)
def aHi (N:Nat)(hi lo b:List Int):Option ((List Int)×(List Int)×Bool):=
 (bM 4 b).bind fun q=>
 (bM 4 hi).bind fun q_1=>
 (n4 N b hi).bind fun x13=>
 if decide (x13≤0) then
  some (a1N 4 0,a1N 4 0,false)
 else
  (g7 N lo b N 255 (a1N 4 0) hi).bind fun p2=>
  aFO N p2.1 p2.2
def pQ (N:Nat)(t:List Int)(x:Int)(rec:Int→Option (LR (Unit) (Int))):Option (LR (Unit) (Int)):=
 rec (a1K.wrap (x+1))
def o7 (N:Nat)(t:List Int)(x:Int)(rec:Int→Option (LR (Unit) (Int)))(l1:List Int):Option (LR (Unit) (Int)):=
 (bM 4 l1).bind fun q_1=>
 (aEc N l1).bind fun x31=>
 if decide (x31≤23) then
  (shl .u32 (a1M.wrap x) 24).bind fun x35=>
  (cC 4 l1 0).bind fun x36=>
  some (.ret (bits .or .u32 x35 (a1M.wrap x36)))
 else
  pQ N t x rec
def eD (N:Nat)(t:List Int):Nat→Int→Option (LR (Unit) (Int))
 |0,_=>none
 |m+1,x=>
  if decide (x≤3) then
   (aD6 N t (a1K.wrap (8*(a1K.wrap (3-x))))).bind fun x16=>
   (bM 4 x16).bind fun q_2=>
   (tK N x16 (a1K.wrap (8*(a1K.wrap (3-x))))).bind fun x21=>
   (n4 N x21 t).bind fun x23=>
   if x23 != 0 then
    pQ N t x (eD N t m)
   else
    o7 N t x (eD N t m) x16
  else
   (tK N t (a1K.wrap (8*(a1K.wrap (x-3))))).bind fun x29=>
   (bM 4 x29).bind fun q_3=>
   o7 N t x (eD N t m) x29
def aAB (N:Nat)(t:List Int):Option Int:=
 (bM 4 t).bind fun q=>
 (nT N t).bind fun x6=>
 if x6 then
  some 0
 else
  (eD N t N 1).bind fun q=>match q with
   | .ret v=>some v
   | .brk p1=>
    none
def qX (N:Nat)(aO:List Int):Option (Int×Int):=
 (bM 4 aO).bind fun q_5=>
 (aAB N aO).bind fun x82=>
 some (x82,0)
def qO (N:Nat)(l0:List Int):Option (Int×Int):=
 (bM 4 l0).bind fun q_6=>
 (nT N l0).bind fun x79=>
 if x79 then
  (gL N 1).bind fun x80=>
  (bM 4 x80).bind fun q_7=>
  qX N x80
 else
  qX N l0
def qS (N:Nat)(p:aK)(x63:(List Int)×(List Int)×Bool)(x75:Bool):Option (Int×Int):=
 if x75 then
  (bM 4 p.Limit).bind fun q_8=>
  qO N p.Limit
 else
  qO N x63.1
def qR (N:Nat)(p:aK)(x24:(List Int)×Int)(vK:Int):Option (Int×Int):=
 (gL N (if(a1L.wrap (4*(a1L.wrap ((a1L.wrap p.Window)*(a1L.wrap p.Spacing)))))<(if(a1L.wrap (a1R (a1L.wrap ((a1L.wrap p.Window)*(a1L.wrap p.Spacing))) 4))>vK then(a1L.wrap (a1R (a1L.wrap ((a1L.wrap p.Window)*(a1L.wrap p.Spacing))) 4))else vK)then(a1L.wrap (4*(a1L.wrap ((a1L.wrap p.Window)*(a1L.wrap p.Spacing)))))else(if(a1L.wrap (a1R (a1L.wrap ((a1L.wrap p.Window)*(a1L.wrap p.Spacing))) 4))>vK then(a1L.wrap (a1R (a1L.wrap ((a1L.wrap p.Window)*(a1L.wrap p.Spacing))) 4))else vK))).bind fun x54=>
 (aHx N x24.1 x54).bind fun x55=>
 (bM 4 x55.1).bind fun q_1=>
 (bM 4 x55.2).bind fun q_2=>
 (gL N (a1L.wrap ((a1L.wrap p.Window)*(a1L.wrap p.Spacing)))).bind fun x62=>
 (aHi N x55.1 x55.2 x62).bind fun x63=>
 (bM 4 x63.1).bind fun q_3=>
 (bM 4 x63.2.1).bind fun q_4=>
 if !x63.2.2 then
  qS N p x63 true
 else
  (bM 4 p.Limit).bind fun q_9=>
  (n4 N x63.1 p.Limit).bind fun x73=>
  qS N p x63 (decide (0<x73))
def aBy (N:Nat)(p:aK)(kS first last:Int):Option (Int×Int):=
 (jB N p).bind fun x20=>
 if !x20 then
  some (0,6)
 else
  (oS N kS).bind fun x24=>
  (bM 4 x24.1).bind fun q=>
  if x24.2 != 0 then
   some (0,x24.2)
  else
   if decide (first<last) then
    qR N p x24 (a1L.wrap (a1M.wrap (last-first)))
   else
    qR N p x24 0
def k6 (N:Nat)(p:aK)(c:bA)(x30:Bool):Option (Int×Int):=
 if x30 then
  some (0,6)
 else
  (rem (a1K.wrap (c.Height+1)) p.Window).bind fun x36=>
  if x36 != 0 then
   some (c.Bits,0)
  else
   (aW c.Times (a1K.wrap ((c.Times.length:Int)-1))).bind fun x51=>
   (aBy N p c.Bits c.First x51).bind fun x53=>
   some (x53.1,x53.2)
def y0 (N:Nat)(p:aK)(c:bA):Option (Int×Int):=
 (jB N p).bind fun x7=>
 if !x7 then
  k6 N p c true
 else
  if decide (c.Height<0) then
   k6 N p c true
  else
   if decide (16777216<c.Height) then
    k6 N p c true
   else
    if(c.Times.length:Int) == 0 then
     k6 N p c true
    else
     k6 N p c (decide (11<(c.Times.length:Int)))
def aBP (N:Nat)(l0:List Int):Option Int:=
 if(l0.length:Int) == 0 then
  some 0
 else
  (aW l0 (a1K.wrap (a1R (l0.length:Int) 2))).bind fun x46=>
  some x46
def aCf (N:Nat)(l:List Int)(x9:Int)(rec:Int→(List Int)→Option (List Int))(d8:List Int):Option (List Int):=
 rec (a1K.wrap (x9+1)) d8
def wI (N:Nat)(l:List Int)(x9:Int)(aO:List Int)(x11:Int)(rec:Int→(List Int)→Option (List Int))(vi:Int):Option (List Int):=
 (sub aO 0 vi).bind fun x30=>
 (sub aO vi (aO.length:Int)).bind fun x35=>
 (b6 4 [x11] x35).bind fun x36=>
 (b6 4 x30 x36).bind fun x37=>
 aCf N l x9 rec x37
def qZ (N:Nat)(l:List Int)(x9:Int)(aO:List Int)(x11 nF:Int)(rec:Int→Option Int)(x24:Bool):Option Int:=
 if x24 then
  rec (a1K.wrap (nF+1))
 else
  some nF
def iY (N:Nat)(l:List Int)(x9:Int)(aO:List Int)(x11:Int):Nat→Int→Option Int
 |0,_=>none
 |m+1,nF=>
  if decide (nF<(aO.length:Int)) then
   (aW aO nF).bind fun x20=>
   qZ N l x9 aO x11 nF (iY N l x9 aO x11 m) (decide (x20≤x11))
  else
   qZ N l x9 aO x11 nF (iY N l x9 aO x11 m) false
def iV (N:Nat)(l:List Int):Nat→Int→(List Int)→Option (List Int)
 |0,_,_=>none
 |m+1,x9,aO=>
  if decide (x9<(l.length:Int)) then
   (aW l x9).bind fun x11=>
   (iY N l x9 aO x11 N 0).bind fun p5=>
   wI N l x9 aO x11 (iV N l m) p5
  else
   some aO
def s0 (N:Nat)(l:List Int):Option Int:=
 (iV N l N 0 []).bind fun p2=>
 aBP N p2
def xR (N:Nat)(l1:List Int):Option (List Int):=
 (bM 4 l1).bind fun q=>
 some l1
def mC (N:Nat)(vh:List Int):Nat→Int→(List Int)→Option (List Int)
 |0,_,_=>none
 |m+1,x6,l2=>
  if decide (x6<32) then
   (cC 4 l2 (a1K.wrap (a1R (a1K.wrap (31-x6)) 8))).bind fun x13=>
   (cC 32 vh x6).bind fun x16=>
   (shl .u64 (a1L.wrap x16) (a1K.wrap (8*(a1O (a1K.wrap (31-x6)) 8)))).bind fun x22=>
   (mC N vh m) (a1K.wrap (x6+1)) (l2.set (a1Q (a1K.wrap (a1R (a1K.wrap (31-x6)) 8))) (bits .or .u64 x13 x22))
  else
   some l2
def wL (N:Nat)(vh:List Int):Option (List Int):=
 (mC N vh N 0 (a1N 4 0)).bind fun p2=>
 xR N p2
def aC4 (N:Nat)(x4:Bool):Option Bool:=
 some x4
def aAq (N:Nat)(vh:List Int)(kS:Int):Option Bool:=
 (oS N kS).bind fun x9=>
 (bM 4 x9.1).bind fun q=>
 if x9.2 == 0 then
  (bM 32 vh).bind fun q_1=>
  (wL N vh).bind fun x16=>
  (n4 N x16 x9.1).bind fun x18=>
  aC4 N (decide (x18≤0))
 else
  aC4 N false
def aKI (N:Nat)(p:aK)(c:bA)(nV:List Int)(vby:Int)(x15:Int×Int)(x25 c1:Int):Option bV:=
 some (bV.mk p.Version c.Hash nV (a1M.wrap ((a1M.wrap (x25+1))+vby)) x15.1 c1)
def xF (N:Nat)(p:aK)(c:bA)(nV:List Int)(vby:Int)(x15:Int×Int)(x25:Int):Nat→Int→Option (LR (Int) (bV))
 |0,_=>none
 |m+1,aCV=>
  if decide (aCV<20000) then
   (nW N (bV.mk p.Version c.Hash nV (a1M.wrap ((a1M.wrap (x25+1))+vby)) x15.1 aCV)).bind fun x40=>
   (aAq N x40 x15.1).bind fun x42=>
   if x42 then
    some (.ret (bV.mk p.Version c.Hash nV (a1M.wrap ((a1M.wrap (x25+1))+vby)) x15.1 aCV))
   else
    (xF N p c nV vby x15 x25 m) (a1M.wrap (aCV+1))
  else
   some (.brk aCV)
def aG4 (N:Nat)(p:aK)(c:bA)(nV:List Int)(vby:Int):Option bV:=
 (y0 N p c).bind fun x15=>
 (bM 32 c.Hash).bind fun q=>
 (bM 32 nV).bind fun q_1=>
 (s0 N c.Times).bind fun x25=>
 (xF N p c nV vby x15 x25 N 0).bind fun q=>match q with
  | .ret v=>some v
  | .brk p2=>
   aKI N p c nV vby x15 x25 p2
def tT (N:Nat)(p:aK)(l:aF)(c:bA)(vs:Int):Option aJ:=
 (rY N p l vs).bind fun x16=>
 (nB N p (a1K.wrap (l.Height+1))).bind fun x26=>
 (nZ N (a1P.wrap (a1R vs 8))).bind fun x31=>
 (uZ N (a1K.wrap (l.Height+1)) (a1K.wrap (x26+x16.2)) x31).bind fun x32=>
 (b6 64 [x32] x16.1).bind fun x35=>
 (qQ N x35).bind fun x41=>
 (aFM N vs).bind fun x43=>
 (aG4 N p c x41 x43).bind fun x44=>
 some (aJ.mk x44 x35)
def aA2 (N:Nat)(va b:aD):Option Int:=
 if decide (va.Index<b.Index) then
  some (-1)
 else
  if decide (b.Index<va.Index) then
   some 1
  else
   some 0
def t7 (N:Nat)(va b:aD):Nat→Int→Option (LR (Unit) (Int))
 |0,_=>none
 |m+1,x6=>
  if decide (x6<32) then
   (cC 32 va.Tx x6).bind fun x11=>
   (cC 32 b.Tx x6).bind fun x15=>
   if decide (x11<x15) then
    some (.ret (-1))
   else
    if decide (x15<x11) then
     some (.ret 1)
    else
     (t7 N va b m) (a1K.wrap (x6+1))
  else
   some (.brk ())
def u2 (N:Nat)(va b:aD):Option Int:=
 (t7 N va b N 0).bind fun q=>match q with
  | .ret v=>some v
  | .brk p2=>
   aA2 N va b
def aH5 (N:Nat):Option Bool:=
 some true
def oC (N:Nat)(l:aF)(sum x23:Int)(x26:aA)(rec:Int→Int→Option (LR (Unit) (Bool)))(x71:Bool):Option (LR (Unit) (Bool)):=
 if x71 then
  some (.ret false)
 else
  if decide (2100000000000000<(a1K.wrap (sum+x26.Output.Value))) then
   some (.ret false)
  else
   rec (a1K.wrap (sum+x26.Output.Value)) (a1K.wrap (x23+1))
def iH (N:Nat)(l:aF)(sum x23:Int)(x26:aA)(rec:Int→Int→Option (LR (Unit) (Bool)))(x54:Bool):Option (LR (Unit) (Bool)):=
 if x54 then
  some (.ret false)
 else
  if decide (x26.Output.Value<0) then
   oC N l sum x23 x26 rec true
  else
   if decide (2100000000000000<x26.Output.Value) then
    oC N l sum x23 x26 rec true
   else
    oC N l sum x23 x26 rec (decide (520<(x26.Output.Script.length:Int)))
def eP (N:Nat)(l:aF):Nat→Int→Int→Option (LR (Unit) (Bool))
 |0,_,_=>none
 |m+1,sum,x23=>
  if decide (x23<(l.Coins.length:Int)) then
   (aW l.Coins x23).bind fun x26=>
   if decide (0<x23) then
    (aW l.Coins (a1K.wrap (x23-1))).bind fun x35=>
    (u2 N x35.Out x26.Out).bind fun x40=>
    if decide (0≤x40) then
     iH N l sum x23 x26 (eP N l m) true
    else
     if decide (x26.Height<1) then
      iH N l sum x23 x26 (eP N l m) true
     else
      iH N l sum x23 x26 (eP N l m) (decide (l.Height<x26.Height))
   else
    if decide (x26.Height<1) then
     iH N l sum x23 x26 (eP N l m) true
    else
     iH N l sum x23 x26 (eP N l m) (decide (l.Height<x26.Height))
  else
   some (.brk ())
def lT (N:Nat)(l:aF)(x19:Bool):Option Bool:=
 if x19 then
  some false
 else
  (eP N l N 0 0).bind fun q=>match q with
   | .ret v=>some v
   | .brk p3=>
    aH5 N
def aAl (N:Nat)(l:aF):Option Bool:=
 if decide (l.Height<0) then
  lT N l true
 else
  if decide (16777216<l.Height) then
   lT N l true
  else
   lT N l (decide (100000<(l.Coins.length:Int)))
def aBk (N:Nat)(t:aB)(bI:Bool):Option ((List Int)×Int):=
 (gP N t).bind fun x7=>
 if !x7 then
  some ([],4)
 else
  (g8 N t bI).bind fun x11=>
  some (x11,0)
def aCC (N:Nat)(l0:List Int):Option (List Int):=
 some l0
def wA (N:Nat)(b:aJ):Nat→Int→(List Int)→Option (List Int)
 |0,_,_=>none
 |m+1,x19,aO=>
  if decide (x19<(b.Txs.length:Int)) then
   (aW b.Txs x19).bind fun x21=>
   (aBk N x21 true).bind fun x25=>
   (b6 1 aO x25.1).bind fun x30=>
   (wA N b m) (a1K.wrap (x19+1)) x30
  else
   some aO
def aGC (N:Nat)(b:aJ):Option (List Int):=
 (mD N b.Header).bind fun x10=>
 (hP N x10 (a1L.wrap (b.Txs.length:Int))).bind fun x15=>
 (wA N b N 0 x15).bind fun p2=>
 aCC N p2
def aEI (N:Nat)(b:aJ):Option Bool:=
 (aGC N b).bind fun x21=>
 some (decide ((x21.length:Int)≤100000))
def uS (N:Nat)(b:aJ):Nat→Int→Option (LR (Unit) (Bool))
 |0,_=>none
 |m+1,x12=>
  if decide (x12<(b.Txs.length:Int)) then
   (aW b.Txs x12).bind fun x14=>
   (gP N x14).bind fun x17=>
   if !x17 then
    some (.ret false)
   else
    (uS N b m) (a1K.wrap (x12+1))
  else
   some (.brk ())
def aFp (N:Nat)(b:aJ):Option Bool:=
 if decide (256<(b.Txs.length:Int)) then
  some false
 else
  (uS N b N 0).bind fun q=>match q with
   | .ret v=>some v
   | .brk p2=>
    aEI N b
def rG (N:Nat)(o:aD):Option Bool:=
 some (iU o.Tx (a1N 32 0) ((o.Index == 4294967295)&&true))
def sA (N:Nat)(x2:Bool):Option Bool:=
 some x2
def c5 (N:Nat)(t:aB):Option Bool:=
 if(t.Inputs.length:Int) == 1 then
  (aW t.Inputs 0).bind fun x10=>
  (rG N x10.Prev).bind fun x13=>
  sA N x13
 else
  sA N false
def aIy (N:Nat):Option Int:=
 some 0
def oB (N:Nat)(t:aB)(x68:Int)(rec:Int→Option (LR (Unit) (Int)))(x79:Bool):Option (LR (Unit) (Int)):=
 if x79 then
  some (.ret 92)
 else
  rec (a1K.wrap (x68+1))
def gG (N:Nat)(t:aB):Nat→Int→Option (LR (Unit) (Int))
 |0,_=>none
 |m+1,x68=>
  if decide (x68<(t.Inputs.length:Int)) then
   (aW t.Inputs x68).bind fun x70=>
   (rG N x70.Prev).bind fun x74=>
   if x74 then
    (c5 N t).bind fun x77=>
    oB N t x68 (gG N t m) (!x77)
   else
    oB N t x68 (gG N t m) false
  else
   some (.brk ())
def sK (N:Nat)(t:aB):Option Int:=
 (gG N t N 0).bind fun q=>match q with
  | .ret v=>some v
  | .brk p5=>
   aIy N
def yU (N:Nat)(t:aB)(x43:Int)(rec:Int→Option (LR (Unit) (Int))):Option (LR (Unit) (Int)):=
 rec (a1K.wrap (x43+1))
def oI (N:Nat)(t:aB)(x43:Int):Nat→Int→Option (LR (Unit) (Int))
 |0,_=>none
 |m+1,k=>
  if decide (k<x43) then
   (aW t.Inputs x43).bind fun x54=>
   (aW t.Inputs k).bind fun x60=>
   if(iU x54.Prev.Tx x60.Prev.Tx ((x54.Prev.Index == x60.Prev.Index)&&true)) then
    some (.ret 91)
   else
    (oI N t x43 m) (a1K.wrap (k+1))
  else
   some (.brk ())
def jZ (N:Nat)(t:aB):Nat→Int→Option (LR (Unit) (Int))
 |0,_=>none
 |m+1,x43=>
  if decide (x43<(t.Inputs.length:Int)) then
   (oI N t x43 N 0).bind fun q=>match q with
    | .ret v=>some (.ret v)
    | .brk p9=>
     yU N t x43 (jZ N t m)
  else
   some (.brk ())
def sH (N:Nat)(t:aB)(sum:Int):Option Int:=
 if decide (2100000000000000<sum) then
  some 90
 else
  (jZ N t N 0).bind fun q=>match q with
   | .ret v=>some v
   | .brk p7=>
    sK N t
def gX (N:Nat)(t:aB):Nat→Int→Int→Option (LR (Int) (Int))
 |0,_,_=>none
 |m+1,gB,x26=>
  if decide (x26<(t.Outputs.length:Int)) then
   (aW t.Outputs x26).bind fun x28=>
   if decide (2100000000000000<x28.Value) then
    some (.ret 90)
   else
    (gX N t m) (a1K.wrap (gB+x28.Value)) (a1K.wrap (x26+1))
  else
   some (.brk gB)
def oK (N:Nat)(t:aB)(x22:Bool):Option Int:=
 if x22 then
  some 93
 else
  (gX N t N 0 0).bind fun q=>match q with
   | .ret v=>some v
   | .brk p10=>
    sH N t p10
def rU (N:Nat)(t:aB):Option Int:=
 (gP N t).bind fun x11=>
 if !x11 then
  some 4
 else
  if(t.Inputs.length:Int) == 0 then
   oK N t true
  else
   oK N t ((t.Outputs.length:Int) == 0)
def aC1 (N:Nat):Option Int:=
 some (-1)
def zJ (N:Nat)(ids:List (List Int))(vid:List Int):Nat→Int→Option (LR (Unit) (Int))
 |0,_=>none
 |m+1,x8=>
  if decide (x8<(ids.length:Int)) then
   (aW ids x8).bind fun x13=>
   (bM 32 x13).bind fun q=>
   (bM 32 vid).bind fun q_1=>
   if x13 == vid then
    some (.ret x8)
   else
    (zJ N ids vid m) (a1K.wrap (x8+1))
  else
   some (.brk ())
def aDR (N:Nat)(ids:List (List Int))(vid:List Int):Option Int:=
 (zJ N ids vid N 0).bind fun q=>match q with
  | .ret v=>some v
  | .brk p2=>
   aC1 N
def aF1 (N:Nat):Option Bool:=
 some false
def aA1 (N:Nat)(b:aJ)(ids:List (List Int))(x12:Int)(rec:Int→Option (LR (Unit) (Bool))):Option (LR (Unit) (Bool)):=
 rec (a1K.wrap (x12+1))
def lG (N:Nat)(b:aJ)(ids:List (List Int))(x12:Int)(x15:aB):Nat→Int→Option (LR (Unit) (Bool))
 |0,_=>none
 |m+1,x20=>
  if decide (x20<(x15.Inputs.length:Int)) then
   (aW x15.Inputs x20).bind fun x22=>
   (bM 32 x22.Prev.Tx).bind fun q=>
   (aDR N ids x22.Prev.Tx).bind fun x28=>
   if decide (x12≤x28) then
    some (.ret true)
   else
    (lG N b ids x12 x15 m) (a1K.wrap (x20+1))
  else
   some (.brk ())
def e8 (N:Nat)(b:aJ)(ids:List (List Int)):Nat→Int→Option (LR (Unit) (Bool))
 |0,_=>none
 |m+1,x12=>
  if decide (x12<(b.Txs.length:Int)) then
   (aW b.Txs x12).bind fun x15=>
   (lG N b ids x12 x15 N 0).bind fun q=>match q with
    | .ret v=>some (.ret v)
    | .brk p4=>
     aA1 N b ids x12 (e8 N b ids m)
  else
   some (.brk ())
def aAI (N:Nat)(b:aJ)(ids:List (List Int)):Option Bool:=
 (e8 N b ids N 0).bind fun q=>match q with
  | .ret v=>some v
  | .brk p2=>
   aF1 N
def aIn (N:Nat):Option Bool:=
 some false
def aDr (N:Nat)(b:aJ)(x13:Int)(rec:Int→(List aD)→Option (LR (Unit) (Bool)))(aO:List aD):Option (LR (Unit) (Bool)):=
 rec (a1K.wrap (x13+1)) aO
def aC2 (N:Nat)(b:aJ)(x13:Int)(x15:aB)(x20:Int)(rec:Int→(List aD)→Option (LR ((List aD)) (Bool)))(gY:List aD):Option (LR ((List aD)) (Bool)):=
 rec (a1K.wrap (x20+1)) gY
def aDi (N:Nat)(b:aJ)(x13:Int)(x15:aB)(x20:Int)(d8:List aD)(x22:aT)(rec:Int→(List aD)→Option (LR ((List aD)) (Bool))):Option (LR ((List aD)) (Bool)):=
 (b6 36 d8 [x22.Prev]).bind fun x39=>
 aC2 N b x13 x15 x20 rec x39
def oD (N:Nat)(b:aJ)(x13:Int)(x15:aB)(x20:Int)(d8:List aD)(x22:aT):Nat→Int→Option (LR (Unit) (Bool))
 |0,_=>none
 |m+1,x26=>
  if decide (x26<(d8.length:Int)) then
   (aW d8 x26).bind fun x28=>
   if(iU x28.Tx x22.Prev.Tx ((x28.Index == x22.Prev.Index)&&true)) then
    some (.ret true)
   else
    (oD N b x13 x15 x20 d8 x22 m) (a1K.wrap (x26+1))
  else
   some (.brk ())
def jY (N:Nat)(b:aJ)(x13:Int)(x15:aB):Nat→Int→(List aD)→Option (LR ((List aD)) (Bool))
 |0,_,_=>none
 |m+1,x20,d8=>
  if decide (x20<(x15.Inputs.length:Int)) then
   (aW x15.Inputs x20).bind fun x22=>
   (oD N b x13 x15 x20 d8 x22 N 0).bind fun q=>match q with
    | .ret v=>some (.ret v)
    | .brk p7=>
     aDi N b x13 x15 x20 d8 x22 (jY N b x13 x15 m)
  else
   some (.brk d8)
def lB (N:Nat)(b:aJ):Nat→Int→(List aD)→Option (LR (Unit) (Bool))
 |0,_,_=>none
 |m+1,x13,l0=>
  if decide (x13<(b.Txs.length:Int)) then
   (aW b.Txs x13).bind fun x15=>
   (jY N b x13 x15 N 0 l0).bind fun q=>match q with
    | .ret v=>some (.ret v)
    | .brk p4=>
     aDr N b x13 (lB N b m) p4
  else
   some (.brk ())
def aDS (N:Nat)(b:aJ):Option Bool:=
 (lB N b N 0 []).bind fun q=>match q with
  | .ret v=>some v
  | .brk p2=>
   aIn N
def tG (N:Nat)(b:aJ)(l1:List (List Int)):Option Int:=
 (aHW 32 l1).bind fun q=>
 (aAI N b l1).bind fun x67=>
 if x67 then
  some 101
 else
  (aDS N b).bind fun x70=>
  if x70 then
   some 91
  else
   (qQ N b.Txs).bind fun x74=>
   (bM 32 b.Header.Root).bind fun q_1=>
   (bM 32 x74).bind fun q_2=>
   if !(x74 == b.Header.Root) then
    some 110
   else
    some 0
def n8 (N:Nat)(b:aJ):Nat→Int→(List (List Int))→Option (LR ((List (List Int))) (Int))
 |0,_,_=>none
 |m+1,x49,bL=>
  if decide (x49<(b.Txs.length:Int)) then
   (aW b.Txs x49).bind fun x51=>
   (aBa N x51).bind fun x54=>
   (bM 32 x54).bind fun q_3=>
   (aHW 32 bL).bind fun q_4=>
   (aDR N bL x54).bind fun x57=>
   if decide (0≤x57) then
    some (.ret 91)
   else
    (b6 32 bL [x54]).bind fun x62=>
    (n8 N b m) (a1K.wrap (x49+1)) x62
  else
   some (.brk bL)
def tE (N:Nat)(b:aJ):Option Int:=
 (n8 N b N 0 []).bind fun q=>match q with
  | .ret v=>some v
  | .brk p4=>
   tG N b p4
def jW (N:Nat)(b:aJ):Nat→Int→Option (LR (Unit) (Int))
 |0,_=>none
 |m+1,x36=>
  if decide (x36<(b.Txs.length:Int)) then
   (aW b.Txs x36).bind fun x38=>
   (rU N x38).bind fun x41=>
   if x41 != 0 then
    some (.ret x41)
   else
    (jW N b m) (a1K.wrap (x36+1))
  else
   some (.brk ())
def sE (N:Nat)(b:aJ):Option Int:=
 (jW N b N 0).bind fun q=>match q with
  | .ret v=>some v
  | .brk p5=>
   tE N b
def dX (N:Nat)(b:aJ):Nat→Int→Option (LR (Unit) (Int))
 |0,_=>none
 |m+1,x22=>
  if decide (x22<(b.Txs.length:Int)) then
   (aW b.Txs x22).bind fun x25=>
   (c5 N x25).bind fun x28=>
   if x28 != (x22 == 0) then
    some (.ret 111)
   else
    (dX N b m) (a1K.wrap (x22+1))
  else
   some (.brk ())
def iE (N:Nat)(b:aJ):Option Int:=
 (aFp N b).bind fun x13=>
 if !x13 then
  some 4
 else
  if(b.Txs.length:Int) == 0 then
   some 93
  else
   (dX N b N 0).bind fun q=>match q with
    | .ret v=>some v
    | .brk p6=>
     sE N b
def aCM (N:Nat):Option Bool:=
 some true
def lL (N:Nat)(t:aB):Nat→Int→Option (LR (Unit) (Bool))
 |0,_=>none
 |m+1,x15=>
  if decide (x15<(t.Inputs.length:Int)) then
   (aW t.Inputs x15).bind fun x17=>
   if x17.Sequence != 4294967295 then
    some (.ret false)
   else
    (lL N t m) (a1K.wrap (x15+1))
  else
   some (.brk ())
def rR (N:Nat)(t:aB)(height:Int):Option Bool:=
 if decide ((a1K.wrap t.Lock)≤height) then
  some true
 else
  (lL N t N 0).bind fun q=>match q with
   | .ret v=>some v
   | .brk p2=>
    aCM N
def iI (N:Nat)(l:aF)(b:aJ)(x8:Bool):Option Int:=
 if x8 then
  some 6
 else
  if l.Height == 16777216 then
   some 4
  else
   (bM 32 b.Header.Prev).bind fun q=>
   (bM 32 l.Tip).bind fun q_1=>
   if !(b.Header.Prev == l.Tip) then
    some 144
   else
    (iE N b).bind fun x29=>
    if x29 != 0 then
     some x29
    else
     (aW b.Txs 0).bind fun x35=>
     (aW x35.Inputs 0).bind fun x38=>
     if(a1K.wrap x38.Sequence) != (a1K.wrap (l.Height+1)) then
      some 102
     else
      (rR N x35 (a1K.wrap (l.Height+1))).bind fun x53=>
      if !x53 then
       some 85
      else
       some 0
def nY (N:Nat)(p:aK)(l:aF)(b:aJ):Option Int:=
 (jB N p).bind fun x10=>
 if !x10 then
  iI N l b true
 else
  (aAl N l).bind fun x14=>
  iI N l b (!x14)
def aEv (N:Nat):Option Int:=
 some (-1)
def aAx (N:Nat)(l:List aA)(o:aD):Nat→Int→Option (LR (Unit) (Int))
 |0,_=>none
 |m+1,x8=>
  if decide (x8<(l.length:Int)) then
   (aW l x8).bind fun x13=>
   if(iU x13.Out.Tx o.Tx ((x13.Out.Index == o.Index)&&true)) then
    some (.ret x8)
   else
    (aAx N l o m) (a1K.wrap (x8+1))
  else
   some (.brk ())
def y7 (N:Nat)(l:List aA)(o:aD):Option Int:=
 (aAx N l o N 0).bind fun q=>match q with
  | .ret v=>some v
  | .brk p2=>
   aEv N
def lD (N:Nat)(c:aA):Option aA:=
 (nX N [c.Output.Script]).bind fun x7=>
 some (aA.mk c.Out (aI.mk c.Output.Value x7) c.Height c.Coinbase)
def aIr (N:Nat)(l1:List aA):Option ((List aA)×Int):=
 some (l1,0)
def yZ (N:Nat)(p:aK)(height:Int)(l1:List aA)(x40:Int)(rec:Int→Option (LR (Unit) ((List aA)×Int)))(x54:Bool):Option (LR (Unit) ((List aA)×Int)):=
 if x54 then
  some (.ret ([],230))
 else
  rec (a1K.wrap (x40+1))
def jR (N:Nat)(p:aK)(height:Int)(l1:List aA):Nat→Int→Option (LR (Unit) ((List aA)×Int))
 |0,_=>none
 |m+1,x40=>
  if decide (x40<(l1.length:Int)) then
   (aW l1 x40).bind fun x42=>
   if x42.Coinbase then
    yZ N p height l1 x40 (jR N p height l1 m) (decide ((a1K.wrap (height-x42.Height))<p.Maturity))
   else
    yZ N p height l1 x40 (jR N p height l1 m) false
  else
   some (.brk ())
def aDt (N:Nat)(p:aK)(height:Int)(l1:List aA):Option ((List aA)×Int):=
 (jR N p height l1 N 0).bind fun q=>match q with
  | .ret v=>some v
  | .brk p3=>
   aIr N l1
def oF (N:Nat)(p:aK)(l:List aA)(t:aB)(height:Int):Nat→Int→(List aA)→Option (LR ((List aA)) ((List aA)×Int))
 |0,_,_=>none
 |m+1,x19,bL=>
  if decide (x19<(t.Inputs.length:Int)) then
   (aW t.Inputs x19).bind fun x21=>
   (y7 N l x21.Prev).bind fun x26=>
   if decide (x26<0) then
    some (.ret ([],101))
   else
    (aW l x26).bind fun x32=>
    (lD N x32).bind fun x34=>
    (b6 88 bL [x34]).bind fun x36=>
    (oF N p l t height m) (a1K.wrap (x19+1)) x36
  else
   some (.brk bL)
def aAg (N:Nat)(p:aK)(l:List aA)(t:aB)(height:Int):Option ((List aA)×Int):=
 (oF N p l t height N 0 []).bind fun q=>match q with
  | .ret v=>some v
  | .brk p5=>
   aDt N p height p5
def aBn (N:Nat)(gB:Int):Option (Int×Int):=
 if decide (gB<0) then
  some (0,100)
 else
  some (gB,0)
def jE (N:Nat)(t:aB):Nat→Int→Int→Option Int
 |0,_,_=>none
 |m+1,sum_2,x69=>
  if decide (x69<(t.Outputs.length:Int)) then
   (aW t.Outputs x69).bind fun x71=>
   (jE N t m) (a1K.wrap (sum_2-x71.Value)) (a1K.wrap (x69+1))
  else
   some sum_2
def pO (N:Nat)(t:aB)(sum:Int):Option (Int×Int):=
 if decide (2100000000000000<sum) then
  some (0,90)
 else
  (jE N t N sum 0).bind fun p4=>
  aBn N p4
def sU (N:Nat)(t:aB)(l:List aA)(aBv x44:Int)(x46:aA)(rec:Int→Int→Option (LR (Int) (Int×Int)))(x57:Bool):Option (LR (Int) (Int×Int)):=
 if x57 then
  some (.ret (0,90))
 else
  rec (a1K.wrap (aBv+x46.Output.Value)) (a1K.wrap (x44+1))
def f9 (N:Nat)(t:aB)(l:List aA):Nat→Int→Int→Option (LR (Int) (Int×Int))
 |0,_,_=>none
 |m+1,aBv,x44=>
  if decide (x44<(l.length:Int)) then
   (aW l x44).bind fun x46=>
   if decide (x46.Output.Value<0) then
    sU N t l aBv x44 x46 (f9 N t l m) true
   else
    sU N t l aBv x44 x46 (f9 N t l m) (decide (2100000000000000<x46.Output.Value))
  else
   some (.brk aBv)
def tC (N:Nat)(t:aB)(l:List aA):Option (Int×Int):=
 (f9 N t l N 0 0).bind fun q=>match q with
  | .ret v=>some v
  | .brk p5=>
   pO N t p5
def i8 (N:Nat)(t:aB)(l:List aA):Nat→Int→Option (LR (Unit) (Int×Int))
 |0,_=>none
 |m+1,x26=>
  if decide (x26<(l.length:Int)) then
   (aW l x26).bind fun x31=>
   (aW t.Inputs x26).bind fun x37=>
   if !(iU x31.Out.Tx x37.Prev.Tx ((x31.Out.Index == x37.Prev.Index)&&true)) then
    some (.ret (0,101))
   else
    (i8 N t l m) (a1K.wrap (x26+1))
  else
   some (.brk ())
def tI (N:Nat)(t:aB)(l:List aA):Option (Int×Int):=
 (rU N t).bind fun x14=>
 if x14 != 0 then
  some (0,x14)
 else
  if(l.length:Int) != (t.Inputs.length:Int) then
   some (0,8)
  else
   (i8 N t l N 0).bind fun q=>match q with
    | .ret v=>some v
    | .brk p7=>
     tC N t l
def aCc (N:Nat)(tag:ByteArray)(b:List Int):Option (List Int):=
 (stb tag).bind fun x7=>
 (mE N x7).bind fun x8=>
 (bM 32 x8).bind fun q=>
 (b6 1 [] x8).bind fun x10=>
 (b6 1 x10 x8).bind fun x12=>
 (b6 1 x12 b).bind fun x14=>
 (mE N x14).bind fun x15=>
 (bM 32 x15).bind fun q_1=>
 some x15
def pV (N:Nat)(t:aB)(vi:Int)(o:aI)(l3 l4 l5:List Int):Option ((List Int)×Int):=
 (dW N [] t.Version).bind fun x72=>
 (mE N l3).bind fun x75=>
 (e7 N x72 x75).bind fun x76=>
 (mE N l4).bind fun x79=>
 (e7 N x76 x79).bind fun x80=>
 (mE N l5).bind fun x83=>
 (e7 N x80 x83).bind fun x84=>
 (dW N x84 t.Lock).bind fun x88=>
 (dW N x88 (a1M.wrap vi)).bind fun x92=>
 (aBh N o).bind fun x95=>
 (b6 1 x92 x95).bind fun x96=>
 (aCc N (⟨#[108,105,103,104,116,99,108,105,101,110,116,47,115,112,101,110,100]⟩) x96).bind fun x97=>
 (bM 32 x97).bind fun q=>
 some (x97,0)
def pK (N:Nat)(t:aB)(vi:Int)(o:aI)(l3 l4:List Int):Nat→Int→(List Int)→Option (List Int)
 |0,_,_=>none
 |m+1,x61,eE=>
  if decide (x61<(t.Outputs.length:Int)) then
   (aW t.Outputs x61).bind fun x63=>
   (aBh N x63).bind fun x67=>
   (b6 1 eE x67).bind fun x68=>
   (pK N t vi o l3 l4 m) (a1K.wrap (x61+1)) x68
  else
   some eE
def oT (N:Nat)(t:aB)(vi:Int)(o:aI)(l3 l4:List Int):Option ((List Int)×Int):=
 (pK N t vi o l3 l4 N 0 []).bind fun p5=>
 pV N t vi o l3 l4 p5
def oZ (N:Nat)(t:aB)(vi:Int)(o:aI):Nat→Int→(List Int)→(List Int)→Option ((List Int)×(List Int))
 |0,_,_,_=>none
 |m+1,x44,eH,dR=>
  if decide (x44<(t.Inputs.length:Int)) then
   (aW t.Inputs x44).bind fun x46=>
   (aAs N x46.Prev).bind fun x51=>
   (b6 1 eH x51).bind fun x52=>
   (dW N dR x46.Sequence).bind fun x56=>
   (oZ N t vi o m) (a1K.wrap (x44+1)) x52 x56
  else
   some (eH,dR)
def lU (N:Nat)(t:aB)(vi:Int)(o:aI)(x39:Bool):Option ((List Int)×Int):=
 if x39 then
  some ([0,0,0,0,0,0,0,0,0,0,0,0,0,0,0,0,0,0,0,0,0,0,0,0,0,0,0,0,0,0,0,0],5)
 else
  (oZ N t vi o N 0 [] []).bind fun p6=>
  oT N t vi o p6.1 p6.2
def jJ (N:Nat)(t:aB)(vi:Int)(o:aI)(x29:Bool):Option ((List Int)×Int):=
 if x29 then
  some ([0,0,0,0,0,0,0,0,0,0,0,0,0,0,0,0,0,0,0,0,0,0,0,0,0,0,0,0,0,0,0,0],4)
 else
  if decide (vi<0) then
   lU N t vi o true
  else
   lU N t vi o (decide ((t.Inputs.length:Int)≤vi))
def u6 (N:Nat)(t:aB)(vi:Int)(o:aI):Option ((List Int)×Int):=
 (gP N t).bind fun x17=>
 if !x17 then
  jJ N t vi o true
 else
  if decide (o.Value<0) then
   jJ N t vi o true
  else
   jJ N t vi o (decide (520<(o.Script.length:Int)))
def aDI (N:Nat)(o:cM)(x12:Bool):Option Int:=
 if x12 then
  none
 else
  if o.M != 0 then
   none
  else
   if o.N != 0 then
    none
   else
    if decide (255<(o.Data.length:Int)) then
     none
    else
     if o.Code == 11 then
      none
     else
      some 0
def aMn (N:Nat)(o:cM):Option Int:=
 if decide (o.Code<1) then
  none
 else
  if decide (17<o.Code) then
   none
  else
   if decide (0<(o.Data.length:Int)) then
    aDI N o (o.Code != 1)
   else
    aDI N o false
def aGD (N:Nat)(x8:Int)(b_1 l2:List Int):Option (Int×(List Int)×Int×Int×(List Int)×Int):=
 (aMn N (cM.mk (a1K.wrap x8) l2 0 0)).bind fun x76=>
 some (a1K.wrap x8,l2,0,0,b_1,x76)
def aO0 (N:Nat)(b:List Int):Option (Int×(List Int)×Int×Int×(List Int)×Int):=
 (aW b 0).bind fun x8=>
 if decide ((a1K.wrap x8)<1) then
  none
 else
  if decide (17<(a1K.wrap x8)) then
   none
  else
   (sub b 1 (b.length:Int)).bind fun x22=>
   if(a1K.wrap x8) == 1 then
    if(x22.length:Int) == 0 then
     none
    else
     (aW x22 0).bind fun x35=>
     if decide ((a1K.wrap ((x22.length:Int)-1))<(a1K.wrap x35)) then
      none
     else
      (sub x22 1 (a1K.wrap (1+(a1K.wrap x35)))).bind fun x48=>
      (nX N [x48]).bind fun x50=>
      (sub x22 (a1K.wrap (1+(a1K.wrap x35))) (x22.length:Int)).bind fun x53=>
      aGD N x8 x53 x50
   else
    if(a1K.wrap x8) == 11 then
     none
    else
     aGD N x8 x22 []
def aIB (N:Nat)(l0:List cM):Option ((List cM)×Int):=
 some (l0,0)
def aIM (N:Nat):Nat→(List Int)→(List cM)→Option (LR ((List cM)) ((List cM)×Int))
 |0,_,_=>none
 |m+1,b_1,aO=>
  if decide (0<(b_1.length:Int)) then
   (aO0 N b_1).bind fun x16=>
   if x16.2.2.2.2.2 != 0 then
    some (.ret ([],x16.2.2.2.2.2))
   else
    (b6 48 aO [cM.mk x16.1 x16.2.1 x16.2.2.1 x16.2.2.2.1]).bind fun x26=>
    (aIM N m) x16.2.2.2.2.1 x26
  else
   some (.brk aO)
def aHQ (N:Nat)(b:List Int):Option ((List cM)×Int):=
 if decide (520<(b.length:Int)) then
  some ([],4)
 else
  (aIM N N b []).bind fun q=>match q with
   | .ret v=>some v
   | .brk p2=>
    aIB N p2
def aHe (N:Nat):Option Bool:=
 some (((([]:List Int).length:Nat):Int) == 0)
def aHm (N:Nat)(l:List cM):Nat→Int→Option Unit
 |0,_=>none
 |m+1,x8=>
  if decide (x8<(l.length:Int)) then
   (aW l x8).bind fun x10=>
   if x10.Code == 14 then
    none
   else
    if x10.Code == 15 then
     none
    else
     if x10.Code == 16 then
      none
     else
      (aHm N l m) (a1K.wrap (x8+1))
  else
   some ()
def xB (N:Nat)(l:List cM):Option Bool:=
 (aHm N l N 0).bind fun p2=>
 aHe N
def aKd (N:Nat):Option Bool:=
 some false
def aJ7 (N:Nat)(vs:List (List Int)):Nat→Int→Option (LR (Unit) (Bool))
 |0,_=>none
 |m+1,x10=>
  if decide (x10<(vs.length:Int)) then
   (aW vs x10).bind fun x12=>
   if decide (520<(x12.length:Int)) then
    some (.ret true)
   else
    (aJ7 N vs m) (a1K.wrap (x10+1))
  else
   some (.brk ())
def aBG (N:Nat)(vs:List (List Int)):Option Bool:=
 if decide (64<(vs.length:Int)) then
  some true
 else
  (aJ7 N vs N 0).bind fun q=>match q with
   | .ret v=>some v
   | .brk p2=>
    aKd N
def aG2 (N:Nat)(l0:List (List Int)):Option (List (List Int)):=
 some l0
def aGW (N:Nat)(l:List (List Int)):Nat→Int→(List (List Int))→Option (List (List Int))
 |0,_,_=>none
 |m+1,x11,aO=>
  if decide (x11<(l.length:Int)) then
   (aW l x11).bind fun x13=>
   (nX N [x13]).bind fun x18=>
   (b6 24 aO [x18]).bind fun x20=>
   (aGW N l m) (a1K.wrap (x11+1)) x20
  else
   some aO
def wX (N:Nat)(l:List (List Int)):Option (List (List Int)):=
 (mks 24 ([]:List Int) (l.length:Int)).bind fun x8=>
 (aGW N l N 0 []).bind fun p2=>
 aG2 N p2
def vX (N:Nat)(x2:Bool):Option Bool:=
 some x2
def aGL (N:Nat)(l:List iB):Option Bool:=
 if(l.length:Int) == 0 then
  vX N true
 else
  (aW l (a1K.wrap ((l.length:Int)-1))).bind fun x11=>
  if x11.reached then
   vX N x11.done
  else
   vX N false
def aMe (N:Nat)(o:cM):Option Int:=
 if o.Code == 8 then
  some 6
 else
  if o.Code == 10 then
   some 21
  else
   if o.Code == 11 then
    some (a1K.wrap (1+(a1K.wrap (20*o.N))))
   else
    some 1
def aCX (N:Nat)(o:cM)(x15:Bool):Option Int:=
 if x15 then
  some 2
 else
  if o.Code == 11 then
   none
  else
   some 0
def aL5 (N:Nat)(o:cM):Option Int:=
 if o.Code == 2 then
  none
 else
  if o.Code == 3 then
   none
  else
   if o.Code == 6 then
    none
   else
    if o.Code == 7 then
     none
    else
     if o.Code == 8 then
      none
     else
      if o.Code == 9 then
       none
      else
       if o.Code == 12 then
        none
       else
        if o.Code == 13 then
         none
        else
         if o.Code == 14 then
          none
         else
          if o.Code == 4 then
           none
          else
           if o.Code == 5 then
            aCX N o (o.Code == 5)
           else
            aCX N o (o.Code == 10)
def aJX (N:Nat):Option Bool:=
 some false
def aKe (N:Nat)(b:List Int):Nat→Int→Option (LR (Unit) (Bool))
 |0,_=>none
 |m+1,x7=>
  if decide (x7<(b.length:Int)) then
   (aW b x7).bind fun x9=>
   if x9 != 0 then
    some (.ret true)
   else
    (aKe N b m) (a1K.wrap (x7+1))
  else
   some (.brk ())
def aCb (N:Nat)(b:List Int):Option Bool:=
 (aKe N b N 0).bind fun q=>match q with
  | .ret v=>some v
  | .brk p2=>
   aJX N
def aKo (N:Nat)(vs:List (List Int))(nC:List Int):Option ((List (List Int))×Int):=
 if decide (64≤(vs.length:Int)) then
  some ([],4)
 else
  (sub vs 0 (vs.length:Int)).bind fun x14=>
  (b6 24 x14 [nC]).bind fun x17=>
  some (x17,0)
def q9 (N:Nat)(va b:List Int):Option Bool:=
 some ((iL va).toList == (iL b).toList)
def aKg (N:Nat)(l0:List Int):Option (List Int):=
 some l0
def aJ0 (N:Nat):Nat→Int→(List Int)→Option (List Int)
 |0,_,_=>none
 |m+1,vn_1,aO=>
  if decide (0<vn_1) then
   (b6 1 aO [a1P.wrap vn_1]).bind fun x12=>
   (aJ0 N m) (a1M.wrap (a1R vn_1 256)) x12
  else
   some aO
def aJn (N:Nat)(vn:Int):Option (List Int):=
 (aJ0 N N vn []).bind fun p2=>
 aKg N p2
def aDZ (N:Nat)(b:Bool):Option (List Int):=
 if b then
  (aJn N 1).bind fun x4=>
  some x4
 else
  (aJn N 0).bind fun x5=>
  some x5
def aCk (N:Nat)(o:cM)(vs:List (List Int))(v:cI):Option ((List (List Int))×Int):=
 if o.Code == 1 then
  (nX N [o.Data]).bind fun x25=>
  (aKo N vs x25).bind fun x26=>
  some (x26.1,x26.2)
 else
  if o.Code == 2 then
   none
  else
   if o.Code == 3 then
    none
   else
    if o.Code == 4 then
     none
    else
     if o.Code == 5 then
      (sub vs 0 (a1K.wrap ((vs.length:Int)-2))).bind fun x73=>
      (aW vs (a1K.wrap ((vs.length:Int)-2))).bind fun x77=>
      (aW vs (a1K.wrap ((vs.length:Int)-1))).bind fun x82=>
      (q9 N x77 x82).bind fun x84=>
      (aDZ N x84).bind fun x85=>
      (b6 24 x73 [x85]).bind fun x87=>
      some (x87,0)
     else
      none
def aKM (N:Nat)(vs:List (List Int))(cost:Int):Option ((List (List Int))×Int×Int):=
 some (vs,cost,0)
def kJ (N:Nat)(v:cI)(x20:(List cM)×Int):Nat→(List (List Int))→Int→Int→Option (LR ((List (List Int))×Int) ((List (List Int))×Int×Int))
 |0,_,_,_=>none
 |m+1,sZ,cost_1,x35=>
  if decide (x35<(x20.1.length:Int)) then
   (aW x20.1 x35).bind fun x37=>
   (aGL N []).bind fun x40=>
   if x37.Code == 15 then
    none
   else
    if x37.Code == 16 then
     none
    else
     if x40 then
      (aMe N x37).bind fun x59=>
      if decide (500<(a1K.wrap (cost_1+x59))) then
       none
      else
       (aL5 N x37).bind fun x66=>
       if decide ((sZ.length:Int)<x66) then
        some (.ret ([],0,81))
       else
        if x37.Code == 14 then
         none
        else
         (aCk N x37 sZ v).bind fun aQf=>
         if aQf.2 != 0 then
          none
         else
          (kJ N v x20 m) aQf.1 (a1K.wrap (cost_1+x59)) (a1K.wrap (x35+1))
     else
      none
  else
   some (.brk (sZ,cost_1))
def yB (N:Nat)(b:List Int)(stack:List (List Int))(v:cI):Option ((List (List Int))×Int×Int):=
 (aHQ N b).bind fun x20=>
 if x20.2 != 0 then
  none
 else
  (xB N x20.1).bind fun x27=>
  if !x27 then
   none
  else
   (aBG N stack).bind fun x30=>
   if x30 then
    none
   else
    (wX N stack).bind fun x32=>
    (kJ N v x20 N x32 0 0).bind fun q=>match q with
     | .ret v=>some v
     | .brk p2=>
      aKM N p2.1 p2.2
def fO (N:Nat)(b:List Int)(bI:List (List Int))(v:cI):Option Int:=
 (yB N b bI v).bind fun x14=>
 if x14.2.2 != 0 then
  some x14.2.2
 else
  if(x14.1.length:Int) != 1 then
   some 81
  else
   (aW x14.1 0).bind fun x28=>
   (aCb N x28).bind fun x30=>
   if !x30 then
    some 84
   else
    some 0
def jT (N:Nat)(t:aB)(vi:Int)(c:aA)(height:Int)(x16:(List Int)×Int)(x43:Bool):Option Int:=
 if x43 then
  some 102
 else
  (aW t.Inputs vi).bind fun x50=>
  (fO N c.Output.Script x50.Witness (cI.mk x16.1 height (a1K.wrap (height-c.Height)))).bind fun x60=>
  some x60
def vE (N:Nat)(t:aB)(vi:Int)(c:aA)(height:Int):Option Int:=
 (u6 N t vi c.Output).bind fun x16=>
 (bM 32 x16.1).bind fun q=>
 if x16.2 != 0 then
  some x16.2
 else
  (aW t.Inputs vi).bind fun x25=>
  if !(iU x25.Prev.Tx c.Out.Tx ((x25.Prev.Index == c.Out.Index)&&true)) then
   some 101
  else
   if decide (16777216<height) then
    jT N t vi c height x16 true
   else
    if decide (c.Height<0) then
     jT N t vi c height x16 true
    else
     jT N t vi c height x16 (decide (height<c.Height))
def aId (N:Nat)(x17:Int×Int):Option (Int×Int):=
 some (x17.1,0)
def gF (N:Nat)(t:aB)(l:List aA)(height:Int)(x17:Int×Int):Nat→Int→Option (LR (Unit) (Int×Int))
 |0,_=>none
 |m+1,x29=>
  if decide (x29<(l.length:Int)) then
   (aW l x29).bind fun x36=>
   (vE N t x29 x36 height).bind fun x39=>
   if x39 != 0 then
    some (.ret (0,x39))
   else
    (gF N t l height x17 m) (a1K.wrap (x29+1))
  else
   some (.brk ())
def kD (N:Nat)(t:aB)(l:List aA)(height:Int):Option (Int×Int):=
 (c5 N t).bind fun x13=>
 if x13 then
  some (0,92)
 else
  (tI N t l).bind fun x17=>
  if x17.2 != 0 then
   some (0,x17.2)
  else
   (rR N t height).bind fun x25=>
   if !x25 then
    some (0,85)
   else
    (gF N t l height x17 N 0).bind fun q=>match q with
     | .ret v=>some v
     | .brk p2=>
      aId N x17
def aAD (N:Nat)(l:List aA)(vi:Int):Option (List aA):=
 (sub l 0 vi).bind fun x7=>
 (b6 88 [] x7).bind fun x8=>
 (sub l (a1K.wrap (vi+1)) (l.length:Int)).bind fun x12=>
 (b6 88 x8 x12).bind fun x13=>
 some x13
def aA0 (N:Nat)(l0:List aA):Option (List aA):=
 some l0
def uF (N:Nat)(t:aB)(height:Int)(x10:(List Int)):Nat→Int→(List aA)→Option (List aA)
 |0,_,_=>none
 |m+1,x14,l1=>
  if decide (x14<(t.Outputs.length:Int)) then
   (aW t.Outputs x14).bind fun x17=>
   (c5 N t).bind fun x27=>
   (b6 88 l1 [aA.mk (aD.mk x10 (a1M.wrap x14)) x17 height x27]).bind fun x30=>
   (uF N t height x10 m) (a1K.wrap (x14+1)) x30
  else
   some l1
def qM (N:Nat)(t:aB)(height:Int):Option (List aA):=
 (aBa N t).bind fun x10=>
 (bM 32 x10).bind fun q=>
 (uF N t height x10 N 0 []).bind fun p2=>
 aA0 N p2
def aEV (N:Nat)(l:List aA)(c:aA)(l1:List aA):Option (List aA):=
 (lD N c).bind fun x31=>
 (b6 88 l1 [x31]).bind fun x33=>
 (sub l (l1.length:Int) (l.length:Int)).bind fun x37=>
 (b6 88 x33 x37).bind fun x38=>
 some x38
def aAJ (N:Nat)(l:List aA)(c:aA)(x9:Int)(rec:Int→(List aA)→Option (List aA))(cL:List aA):Option (List aA):=
 rec (a1K.wrap (x9+1)) cL
def nH (N:Nat)(l:List aA)(c:aA):Nat→Int→(List aA)→Option (List aA)
 |0,_,_=>none
 |m+1,x9,bL=>
  if decide (x9<(l.length:Int)) then
   (aW l x9).bind fun x14=>
   (u2 N x14.Out c.Out).bind fun x19=>
   if decide (x19<0) then
    (b6 88 bL [x14]).bind fun x27=>
    aAJ N l c x9 (nH N l c m) x27
   else
    aAJ N l c x9 (nH N l c m) bL
  else
   some bL
def y4 (N:Nat)(l:List aA)(c:aA):Option (List aA):=
 (nH N l c N 0 []).bind fun p2=>
 aEV N l c p2
def aLx (N:Nat)(l_1:List aA):Option ((List aA)×Int):=
 some (l_1,0)
def aBU (N:Nat)(x28:(List aA)):Nat→(List aA)→Int→Option (List aA)
 |0,_,_=>none
 |m+1,l_2,x30=>
  if decide (x30<(x28.length:Int)) then
   (aW x28 x30).bind fun x32=>
   (y4 N l_2 x32).bind fun x36=>
   (aBU N x28 m) x36 (a1K.wrap (x30+1))
  else
   some l_2
def aBV (N:Nat)(l:List aA)(t:aB)(height:Int):Option ((List aA)×Int):=
 (qM N t height).bind fun x28=>
 (aBU N x28 N l 0).bind fun p3=>
 aLx N p3
def xJ (N:Nat)(l:List aA)(t:aB)(height:Int)(x14:(List aA)):Nat→Int→Option (LR (Unit) ((List aA)×Int))
 |0,_=>none
 |m+1,x16=>
  if decide (x16<(x14.length:Int)) then
   (aW x14 x16).bind fun x18=>
   (y7 N l x18.Out).bind fun x23=>
   if decide (0≤x23) then
    some (.ret ([],91))
   else
    (xJ N l t height x14 m) (a1K.wrap (x16+1))
  else
   some (.brk ())
def aD8 (N:Nat)(l:List aA)(t:aB)(height:Int):Option ((List aA)×Int):=
 (qM N t height).bind fun x14=>
 (xJ N l t height x14 N 0).bind fun q=>match q with
  | .ret v=>some v
  | .brk p4=>
   aBV N l t height
def aIj (N:Nat)(sum:Int):Option Int:=
 some sum
def sM (N:Nat)(l:List aA):Nat→Int→Int→Option Int
 |0,_,_=>none
 |m+1,gB,x8=>
  if decide (x8<(l.length:Int)) then
   (aW l x8).bind fun x10=>
   (sM N l m) (a1K.wrap (gB+x10.Output.Value)) (a1K.wrap (x8+1))
  else
   some gB
def vC (N:Nat)(l:List aA):Option Int:=
 (sM N l N 0 0).bind fun p2=>
 aIj N p2
def uM (N:Nat)(l:aF)(b:aJ)(x36:(List Int))(most:Int)(c3 l5:List aA):Option (aF×bH×Int):=
 (aW b.Txs 0).bind fun aZI=>
 (qM N aZI (a1K.wrap (l.Height+1))).bind fun aZc=>
 (vC N aZc).bind fun aY9=>
 if decide (most<aY9) then
  some ((aF.mk 0 (a1N 32 0) []),bH.mk [],231)
 else
  (vC N c3).bind fun aYo=>
  if decide (2100000000000000<aYo) then
   some ((aF.mk 0 (a1N 32 0) []),bH.mk [],90)
  else
   if decide (100000<(c3.length:Int)) then
    some ((aF.mk 0 (a1N 32 0) []),bH.mk [],4)
   else
    some ((aF.mk (a1K.wrap (l.Height+1)) x36 c3),bH.mk l5,0)
def pR (N:Nat)(p:aK)(l:aF)(b:aJ)(x36:(List Int))(x48:Int)(x51:aB)(rec:Int→Int→(List aA)→(List aA)→Option (LR (Int×(List aA)×(List aA)) (aF×bH×Int)))(aNO:Int)(aEt l7:List aA):Option (LR (Int×(List aA)×(List aA)) (aF×bH×Int)):=
 (aD8 N aEt x51 (a1K.wrap (l.Height+1))).bind fun aUL=>
 if aUL.2 != 0 then
  some (.ret ((aF.mk 0 (a1N 32 0) []),bH.mk [],aUL.2))
 else
  rec aNO (a1K.wrap (x48+1)) aUL.1 l7
def aA9 (N:Nat)(p:aK)(l:aF)(b:aJ)(x36:(List Int))(oY x48:Int)(l6:List aA)(x51:aB)(x62:(List aA)×Int)(x75:Int×Int)(rec:Int→Int→(List aA)→(List aA)→Option (LR (Int×(List aA)×(List aA)) (aF×bH×Int)))(aHR:List aA):Option (LR (Int×(List aA)×(List aA)) (aF×bH×Int)):=
 (b6 88 l6 x62.1).bind fun aS6=>
 pR N p l b x36 x48 x51 rec (a1K.wrap (oY+x75.1)) aHR aS6
def hJ (N:Nat)(p:aK)(l:aF)(b:aJ)(x36:(List Int))(oY x48:Int)(l6:List aA)(x51:aB)(x62:(List aA)×Int)(x75:Int×Int):Nat→Int→(List aA)→Option (List aA)
 |0,_,_=>none
 |m+1,x85,c4_3=>
  if decide (x85<(x62.1.length:Int)) then
   (aW x62.1 x85).bind fun x87=>
   (y7 N c4_3 x87.Out).bind fun x95=>
   (aAD N c4_3 x95).bind fun x96=>
   (hJ N p l b x36 oY x48 l6 x51 x62 x75 m) (a1K.wrap (x85+1)) x96
  else
   some c4_3
def iA (N:Nat)(p:aK)(l:aF)(b:aJ)(x36:(List Int)):Nat→Int→Int→(List aA)→(List aA)→Option (LR (Int×(List aA)×(List aA)) (aF×bH×Int))
 |0,_,_,_,_=>none
 |m+1,oY,x48,c4,l6=>
  if decide (x48<(b.Txs.length:Int)) then
   (aW b.Txs x48).bind fun x51=>
   if decide (0<x48) then
    (aAg N p c4 x51 (a1K.wrap (l.Height+1))).bind fun x62=>
    if x62.2 != 0 then
     some (.ret ((aF.mk 0 (a1N 32 0) []),bH.mk [],x62.2))
    else
     (kD N x51 x62.1 (a1K.wrap (l.Height+1))).bind fun x75=>
     if x75.2 != 0 then
      some (.ret ((aF.mk 0 (a1N 32 0) []),bH.mk [],x75.2))
     else
      (hJ N p l b x36 oY x48 l6 x51 x62 x75 N 0 c4).bind fun p5=>
      aA9 N p l b x36 oY x48 l6 x51 x62 x75 (iA N p l b x36 m) p5
   else
    pR N p l b x36 x48 x51 (iA N p l b x36 m) oY c4 l6
  else
   some (.brk (oY,c4,l6))
def qL (N:Nat)(p:aK)(l:aF)(b:aJ):Option (aF×bH×Int):=
 (nY N p l b).bind fun x25=>
 if x25 != 0 then
  some ((aF.mk 0 (a1N 32 0) []),bH.mk [],x25)
 else
  (nW N b.Header).bind fun x36=>
  (bM 32 x36).bind fun q=>
  (nB N p (a1K.wrap (l.Height+1))).bind fun x44=>
  (iA N p l b x36 N x44 0 l.Coins []).bind fun q=>match q with
   | .ret v=>some v
   | .brk p2=>
    uM N l b x36 p2.1 p2.2.1 p2.2.2
def qI (N:Nat)(x4:Bool):Option Bool:=
 some x4
def aJA (N:Nat)(p:aK)(c:bA):Option Bool:=
 (jB N p).bind fun x6=>
 if x6 then
  if decide (0≤c.Height) then
   if decide (c.Height≤16777216) then
    qI N ((c.Times.length:Int) == (if 11<(a1K.wrap (c.Height+1))then 11 else(a1K.wrap (c.Height+1))))
   else
    qI N false
  else
   qI N false
 else
  qI N false
def tP (N:Nat)(c:bA)(vh:bV)(x22:(List Int))(c3:Int)(c1:List Int):Option (bA×Int):=
 some ((bA.mk (a1K.wrap (c.Height+1)) x22 vh.Bits c3 c1),0)
def pL (N:Nat)(c:bA)(vh:bV)(x22:(List Int))(c3:Int):Option (bA×Int):=
 (b6 4 [] c.Times).bind fun x39=>
 (b6 4 x39 [vh.Time]).bind fun x43=>
 if decide (11<(x43.length:Int)) then
  (sub x43 1 (x43.length:Int)).bind fun x51=>
  tP N c vh x22 c3 x51
 else
  tP N c vh x22 c3 x43
def uU (N:Nat)(p:aK)(c:bA)(vh:bV):Option (bA×Int):=
 (aJA N p c).bind fun x11=>
 if !x11 then
  some ((bA.mk 0 (a1N 32 0) 0 0 []),6)
 else
  if c.Height == 16777216 then
   some ((bA.mk 0 (a1N 32 0) 0 0 []),4)
  else
   (nW N vh).bind fun x22=>
   (bM 32 x22).bind fun q=>
   (rem (a1K.wrap (c.Height+1)) p.Window).bind fun x32=>
   if x32 == 0 then
    pL N c vh x22 vh.Time
   else
    pL N c vh x22 c.First
def aIz (N:Nat):Option Int:=
 some 0
def aC8 (N:Nat)(p:aK)(x18:bA×Int)(x76:Int)(rec:Int→Option (LR (Unit) (Int)))(x91:Bool):Option (LR (Unit) (Int)):=
 if x91 then
  some (.ret 143)
 else
  rec (a1K.wrap (x76+1))
def oH (N:Nat)(p:aK)(x18:bA×Int):Nat→Int→Option (LR (Unit) (Int))
 |0,_=>none
 |m+1,x76=>
  if decide (x76<(p.Checkpoints.length:Int)) then
   (aW p.Checkpoints x76).bind fun x78=>
   if x78.Height == x18.1.Height then
    (bM 32 x78.Hash).bind fun q_3=>
    aC8 N p x18 x76 (oH N p x18 m) (!(x78.Hash == x18.1.Hash))
   else
    aC8 N p x18 x76 (oH N p x18 m) false
  else
   some (.brk ())
def aDJ (N:Nat)(p:aK)(c:bA)(vh:bV)(now:Int):Option Int:=
 (uU N p c vh).bind fun x18=>
 if x18.2 != 0 then
  some x18.2
 else
  (bM 32 vh.Prev).bind fun q=>
  (bM 32 c.Hash).bind fun q_1=>
  if !(vh.Prev == c.Hash) then
   some 144
  else
   if decide (vh.Version<p.Version) then
    some 142
   else
    (y0 N p c).bind fun x37=>
    if x37.2 != 0 then
     some x37.2
    else
     if vh.Bits != x37.1 then
      some 130
     else
      (bM 32 x18.1.Hash).bind fun q_2=>
      (aAq N x18.1.Hash vh.Bits).bind fun x53=>
      if !x53 then
       some 121
      else
       (s0 N c.Times).bind fun x60=>
       if decide (vh.Time≤x60) then
        some 140
       else
        if decide ((a1L.wrap ((a1L.wrap now)+(a1L.wrap p.Future)))<(a1L.wrap vh.Time)) then
         some 141
        else
         (oH N p x18 N 0).bind fun q=>match q with
          | .ret v=>some v
          | .brk p2=>
           aIz N
def aGq (N:Nat)(vw:aR)(l2:List aJ)(l3:List aF)(l4:List bA)(l5:List bH):Option aR:=
 some (aR.mk vw.Params l2 l3 l4 l5)
def wR (N:Nat)(vw:aR)(l:List Int)(x31:Int)(rec:Int→(List aJ)→(List aF)→(List bA)→(List bH)→Option ((List aJ)×(List aF)×(List bA)×(List bH)))(aB9:List aJ)(kB:List aF)(rO:List bA)(aA7:List bH):Option ((List aJ)×(List aF)×(List bA)×(List bH)):=
 rec (a1K.wrap (x31+1)) aB9 kB rO aA7
def s7 (N:Nat)(vw:aR)(l:List Int)(x31:Int)(fA:List aJ)(eH:List aF)(dR:List bA)(eE:List bH)(x49:bA)(x56:aJ)(x62:aF×bH×Int)(rec:Int→(List aJ)→(List aF)→(List bA)→(List bH)→Option ((List aJ)×(List aF)×(List bA)×(List bH)))(x76:Bool):Option ((List aJ)×(List aF)×(List bA)×(List bH)):=
 if x76 then
  wR N vw l x31 rec fA eH dR eE
 else
  (uU N vw.Params x49 x56.Header).bind fun x83=>
  (b6 104 fA [x56]).bind fun x90=>
  (b6 64 eH [x62.1]).bind fun x95=>
  (b6 72 dR [x83.1]).bind fun aJc=>
  (b6 24 eE [x62.2.1]).bind fun aQ6=>
  wR N vw l x31 rec x90 x95 aJc aQ6
def g9 (N:Nat)(vw:aR)(l:List Int):Nat→Int→(List aJ)→(List aF)→(List bA)→(List bH)→Option ((List aJ)×(List aF)×(List bA)×(List bH))
 |0,_,_,_,_,_=>none
 |m+1,x31,fA,eH,dR,eE=>
  if decide (x31<(l.length:Int)) then
   (aW l x31).bind fun x33=>
   (aW eH (a1K.wrap ((eH.length:Int)-1))).bind fun x41=>
   (aW dR (a1K.wrap ((dR.length:Int)-1))).bind fun x49=>
   (tT N vw.Params x41 x49 x33).bind fun x56=>
   (qL N vw.Params x41 x56).bind fun x62=>
   if x62.2.2 != 0 then
    s7 N vw l x31 fA eH dR eE x49 x56 x62 (g9 N vw l m) true
   else
    (aDJ N vw.Params x49 x56.Header 1073741824).bind fun x74=>
    s7 N vw l x31 fA eH dR eE x49 x56 x62 (g9 N vw l m) (x74 != 0)
  else
   some (fA,eH,dR,eE)
def aEa (N:Nat)(vw:aR)(l:List Int):Option aR:=
 (b6 104 [] vw.Blocks).bind fun x15=>
 (b6 24 [] vw.Undos).bind fun x18=>
 (b6 64 [] vw.Ledgers).bind fun x23=>
 (b6 72 [] vw.Contexts).bind fun x26=>
 (g9 N vw l N 0 x15 x23 x26 x18).bind fun p2=>
 aGq N vw p2.1 p2.2.1 p2.2.2.1 p2.2.2.2
def zN (N:Nat)(v:Int)(l:List Int):Option aR:=
 (aFi N v).bind fun x6=>
 (aEa N x6 l).bind fun x8=>
 some x8
def aEN (N:Nat)(vn:Int):Option (List Int):=
 some [vn,0,0,0]
def aG6 (N:Nat)(x:Int):Option Int:=
 if decide (4294967296≤x) then
  none
 else
  if decide (65536≤x) then
   (shr .u64 x 16).bind fun x10=>
   if decide (256≤x10) then
    none
   else
    (aVF (⟨#[0,1,2,2,3,3,3,3,4,4,4,4,4,4,4,4,5,5,5,5,5,5,5,5,5,5,5,5,5,5,5,5,6,6,6,6,6,6,6,6,6,6,6,6,6,6,6,6,6,6,6,6,6,6,6,6,6,6,6,6,6,6,6,6,7,7,7,7,7,7,7,7,7,7,7,7,7,7,7,7,7,7,7,7,7,7,7,7,7,7,7,7,7,7,7,7,7,7,7,7,7,7,7,7,7,7,7,7,7,7,7,7,7,7,7,7,7,7,7,7,7,7,7,7,7,7,7,7,8,8,8,8,8,8,8,8,8,8,8,8,8,8,8,8,8,8,8,8,8,8,8,8,8,8,8,8,8,8,8,8,8,8,8,8,8,8,8,8,8,8,8,8,8,8,8,8,8,8,8,8,8,8,8,8,8,8,8,8,8,8,8,8,8,8,8,8,8,8,8,8,8,8,8,8,8,8,8,8,8,8,8,8,8,8,8,8,8,8,8,8,8,8,8,8,8,8,8,8,8,8,8,8,8,8,8,8,8,8,8,8,8,8,8,8,8,8,8,8,8,8,8,8,8,8,8,8]⟩) (a1P.wrap x10)).bind fun x22=>
    some (a1K.wrap ((a1K.wrap (0+16))+(a1K.wrap x22)))
  else
   none
def aLX (N:Nat)(va:List Int):Nat→Int→Option (LR (Unit) (Int))
 |0,_=>none
 |m+1,vi=>
  if decide (0≤vi) then
   (cC 4 va vi).bind fun x9=>
   if x9 != 0 then
    (aG6 N x9).bind fun x17=>
    some (.ret (a1K.wrap ((a1K.wrap (64*vi))+x17)))
   else
    (aLX N va m) (a1K.wrap (vi-1))
  else
   none
def aRJ (N:Nat)(va:List Int):Option Int:=
 (aLX N va N 3).bind fun q=>match q with
  | .ret v=>some v
  | .brk p1=>
   none
def aMk (N:Nat)(l1:List Int):Option (List Int):=
 (bM 4 l1).bind fun q=>
 some l1
def aL2 (N:Nat)(va:List Int)(vn:Int):Nat→Int→(List Int)→Option (List Int)
 |0,_,_=>none
 |m+1,vi,l2=>
  if decide (vi<4) then
   (cC 4 va (a1K.wrap (vi-(a1K.wrap (a1R vn 64))))).bind fun x28=>
   (shl .u64 x28 (a1O vn 64)).bind fun x31=>
   (cC 4 l2 vi).bind fun x32=>
   if decide ((a1K.wrap (a1R vn 64))<vi) then
    none
   else
    (aL2 N va vn m) (a1K.wrap (vi+1)) (l2.set (a1Q vi) x31)
  else
   some l2
def aRs (N:Nat)(va:List Int)(vn:Int):Option (List Int):=
 if decide (vn<0) then
  none
 else
  if decide (256≤vn) then
   none
  else
   (aL2 N va vn N (a1K.wrap (a1R vn 64)) (a1N 4 0)).bind fun p2=>
   aMk N p2
def aIb (N:Nat)(va:List Int)(vn:Int):Option (List Int):=
 if decide (vn<0) then
  none
 else
  (bM 4 va).bind fun q=>
  (aRs N va vn).bind fun x13=>
  (bM 4 x13).bind fun q_1=>
  some x13
def aEX (N:Nat)(kS:Int):Option ((List Int)×Int):=
 (aEN N (a1L.wrap (bits .and .u32 kS 16777215))).bind fun x10=>
 (bM 4 x10).bind fun q=>
 (shr .u32 kS 24).bind fun x12=>
 if(bits .and .u32 kS 8388608) != 0 then
  none
 else
  (aRJ N x10).bind fun x21=>
  if decide (256<(a1K.wrap (x21+(a1K.wrap (8*(a1K.wrap ((a1K.wrap x12)-3))))))) then
   none
  else
   (aIb N x10 (a1K.wrap (8*(a1K.wrap ((a1K.wrap x12)-3))))).bind fun x29=>
   (bM 4 x29).bind fun q_1=>
   if x29 == [0,0,0,0] then
    none
   else
    some (x29,0)
def aMf (N:Nat)(va b:List Int):Nat→Option (LR (Unit) (Int))
 |0=>none
 |m+1=>
  if decide (0≤3) then
   (cC 4 va 3).bind fun x11=>
   (cC 4 b 3).bind fun x14=>
   if decide (x11<x14) then
    some (.ret (-1))
   else
    none
  else
   none
def aI7 (N:Nat)(va b:List Int):Option Int:=
 (aMf N va b N).bind fun q=>match q with
  | .ret v=>some v
  | .brk p1=>
   none
def z6 (N:Nat)(p:aK):Option Bool:=
 (aEX N p.Genesis.Bits).bind fun x81=>
 (bM 4 x81.1).bind fun q_1=>
 if x81.2 == 0 then
  (aI7 N x81.1 p.Limit).bind fun x90=>
  some (decide (x90≤0))
 else
  none
def aAd (N:Nat)(p:aK):Nat→Option Unit
 |0=>none
 |m+1=>
  if decide (0<(p.Checkpoints.length:Int)) then
   none
  else
   some ()
def oA (N:Nat)(p:aK):Option Bool:=
 (bM 4 p.Limit).bind fun q=>
 if p.Limit == [0,0,0,0] then
  none
 else
  if decide (p.Window<1) then
   none
  else
   if decide (4096<p.Window) then
    none
   else
    if decide (p.Spacing<1) then
     none
    else
     if decide (1048576<p.Spacing) then
      none
     else
      if decide (p.Subsidy<0) then
       none
      else
       if decide (2100000000000000<p.Subsidy) then
        none
       else
        if decide (p.Halving<1) then
         none
        else
         if decide (16777216<p.Halving) then
          none
         else
          if decide (p.Maturity<0) then
           none
          else
           if decide (16777216<p.Maturity) then
            none
           else
            (aAd N p N).bind fun p2=>
            z6 N p
def aBz (N:Nat)(l0:List Int):Option (List Int):=
 some l0
def qU (N:Nat)(vn c6:Int):Nat→Int→(List Int)→Option (List Int)
 |0,_,_=>none
 |m+1,x10,aO=>
  if decide (x10<c6) then
   (shr .u64 vn (a1K.wrap (8*x10))).bind fun x18=>
   (aW aO x10).bind fun x20=>
   (qU N vn c6 m) (a1K.wrap (x10+1)) (aO.set (a1Q x10) (a1P.wrap x18))
  else
   some aO
def sO (N:Nat)(vn c6:Int):Option (List Int):=
 (mks 1 0 c6).bind fun x8=>
 (qU N vn c6 N 0 x8).bind fun p2=>
 aBz N p2
def fX (N:Nat)(b vs:List Int):Option (List Int):=
 (mks 1 0 (a1K.wrap ((b.length:Int)+(vs.length:Int)))).bind fun x11=>
 (b6 1 (x11.take 0) b).bind fun x14=>
 (b6 1 x14 vs).bind fun x17=>
 some x17
def dU (N:Nat)(b:List Int)(vn:Int):Option (List Int):=
 (sO N (a1L.wrap vn) 4).bind fun x8=>
 (fX N b x8).bind fun x9=>
 some x9
def jP (N:Nat)(b vh:List Int):Option (List Int):=
 (bM 32 vh).bind fun q=>
 (fX N b vh).bind fun x7=>
 some x7
def mA (N:Nat)(vh:bV):Option (List Int):=
 (dU N [] vh.Version).bind fun x6=>
 (bM 32 vh.Prev).bind fun q=>
 (jP N x6 vh.Prev).bind fun x10=>
 (bM 32 vh.Root).bind fun q_1=>
 (jP N x10 vh.Root).bind fun x14=>
 (dU N x14 vh.Time).bind fun x18=>
 (dU N x18 vh.Bits).bind fun x22=>
 (dU N x22 vh.Nonce).bind fun x26=>
 some x26
def aNV (N:Nat)(l0:List Int):Option (List Int):=
 some l0
def aB2 (N:Nat)(vn:Int):Nat→Int→(List Int)→Option (List Int)
 |0,_,_=>none
 |m+1,x18,aO=>
  if decide (x18<8) then
   (shr .u64 (a1L.wrap (8*vn)) (a1K.wrap (56-(a1K.wrap (8*x18))))).bind fun x27=>
   (b6 1 aO [a1P.wrap x27]).bind fun x30=>
   (aB2 N vn m) (a1K.wrap (x18+1)) x30
  else
   some aO
def aLH (N:Nat)(vn:Int):Option (List Int):=
 (mkl 1 0 (a1L.wrap (1+(a1O (a1L.wrap (64-(a1O (a1L.wrap (vn+9)) 64))) 64))) (a1L.wrap (9+(a1O (a1L.wrap (64-(a1O (a1L.wrap (vn+9)) 64))) 64)))).bind fun x15=>
 (aW x15 0).bind fun x17=>
 (aB2 N vn N 0 (x15.set (a1Q 0) 128)).bind fun p2=>
 aNV N p2
def aM9 (N:Nat)(l0:List Int):Option (List Int):=
 some l0
def aB5 (N:Nat)(parts:List (List Int)):Nat→Int→(List Int)→Option (List Int)
 |0,_,_=>none
 |m+1,x8,aO=>
  if decide (x8<(parts.length:Int)) then
   (aW parts x8).bind fun x10=>
   (b6 1 aO x10).bind fun x14=>
   (aB5 N parts m) (a1K.wrap (x8+1)) x14
  else
   some aO
def aIq (N:Nat)(parts:List (List Int)):Option (List Int):=
 (aB5 N parts N 0 []).bind fun p2=>
 aM9 N p2
def dL (N:Nat)(x vn:Int):Option Int:=
 (lX N x (a1K.wrap (0-vn))).bind fun x8=>
 some x8
def vR (N:Nat)(bL:List Int):Option (List Int):=
 (bM 64 bL).bind fun q=>
 some bL
def mR (N:Nat):Nat→Int→(List Int)→Option (List Int)
 |0,_,_=>none
 |m+1,vi,cL=>
  if decide (vi<64) then
   (cC 64 cL (a1K.wrap (vi-15))).bind fun x37=>
   (dL N x37 7).bind fun x39=>
   (dL N x37 18).bind fun x44=>
   (shr .u32 x37 3).bind fun x50=>
   (cC 64 cL (a1K.wrap (vi-2))).bind fun x54=>
   (dL N x54 17).bind fun x56=>
   (dL N x54 19).bind fun x61=>
   (shr .u32 x54 10).bind fun x67=>
   (cC 64 cL (a1K.wrap (vi-16))).bind fun x72=>
   (cC 64 cL (a1K.wrap (vi-7))).bind fun x78=>
   (cC 64 cL vi).bind fun x83=>
   (mR N m) (a1K.wrap (vi+1)) (cL.set (a1Q vi) (a1M.wrap ((a1M.wrap ((a1M.wrap (x72+(bits .xor .u32 (bits .xor .u32 x39 x44) x50)))+x78))+(bits .xor .u32 (bits .xor .u32 x56 x61) x67))))
  else
   some cL
def v8 (N:Nat)(l1:List Int):Option (List Int):=
 (mR N N 16 l1).bind fun p3=>
 vR N p3
def aBQ (N:Nat)(block:List Int)(x9:Int)(rec:Int→(List Int)→Option (List Int))(fA:List Int):Option (List Int):=
 rec (a1K.wrap (x9+1)) fA
def fQ (N:Nat)(block:List Int)(x9:Int):Nat→Int→(List Int)→Option (List Int)
 |0,_,_=>none
 |m+1,x12,aB9=>
  if decide (x12<4) then
   (cC 64 aB9 x9).bind fun x17=>
   (shl .u32 x17 8).bind fun x19=>
   (cC 64 block (a1K.wrap ((a1K.wrap (4*x9))+x12))).bind fun x24=>
   (fQ N block x9 m) (a1K.wrap (x12+1)) (aB9.set (a1Q x9) (bits .or .u32 x19 (a1M.wrap x24)))
  else
   some aB9
def kP (N:Nat)(block:List Int):Nat→Int→(List Int)→Option (List Int)
 |0,_,_=>none
 |m+1,x9,l2=>
  if decide (x9<16) then
   (fQ N block x9 N 0 l2).bind fun p6=>
   aBQ N block x9 (kP N block m) p6
  else
   some l2
def sX (N:Nat)(block:List Int):Option (List Int):=
 (kP N block N 0 (a1N 64 0)).bind fun p4=>
 v8 N p4
def vV (N:Nat)(cX:List Int)(va b c d ve f g vh:Int):Option (List Int):=
 (cC 8 cX 0).bind fun x98=>
 (cC 8 cX 1).bind fun aJc=>
 (cC 8 cX 2).bind fun aVS=>
 (cC 8 cX 3).bind fun aVo=>
 (cC 8 cX 4).bind fun aFT=>
 (cC 8 cX 5).bind fun aVf=>
 (cC 8 cX 6).bind fun aU8=>
 (cC 8 cX 7).bind fun aU7=>
 some [a1M.wrap (x98+va),a1M.wrap (aJc+b),a1M.wrap (aVS+c),a1M.wrap (aVo+d),a1M.wrap (aFT+ve),a1M.wrap (aVf+f),a1M.wrap (aU8+g),a1M.wrap (aU7+vh)]
def mX (N:Nat)(cX:List Int)(x18:(List Int)):Nat→Int→Int→Int→Int→Int→Int→Int→Int→Int→Option (Int×Int×Int×Int×Int×Int×Int×Int)
 |0,_,_,_,_,_,_,_,_,_=>none
 |m+1,va_1,b_1,c_1,d_1,ve_1,f_1,g_1,vh_1,x35=>
  if decide (x35<64) then
   (dL N ve_1 6).bind fun x40=>
   (dL N ve_1 11).bind fun x42=>
   (dL N ve_1 25).bind fun x45=>
   (cC 64 aHU x35).bind fun x58=>
   (cC 64 x18 x35).bind fun x62=>
   (dL N va_1 2).bind fun x66=>
   (dL N va_1 13).bind fun x68=>
   (dL N va_1 22).bind fun x71=>
   (mX N cX x18 m) (a1M.wrap ((a1M.wrap ((a1M.wrap ((a1M.wrap ((a1M.wrap (vh_1+(bits .xor .u32 (bits .xor .u32 x40 x42) x45)))+(bits .xor .u32 (bits .and .u32 ve_1 f_1) (bits .and .u32 (bits .xor .u32 (a1S .u32) ve_1) g_1))))+x58))+x62))+(a1M.wrap ((bits .xor .u32 (bits .xor .u32 x66 x68) x71)+(bits .xor .u32 (bits .xor .u32 (bits .and .u32 va_1 b_1) (bits .and .u32 va_1 c_1)) (bits .and .u32 b_1 c_1)))))) va_1 b_1 c_1 (a1M.wrap (d_1+(a1M.wrap ((a1M.wrap ((a1M.wrap ((a1M.wrap (vh_1+(bits .xor .u32 (bits .xor .u32 x40 x42) x45)))+(bits .xor .u32 (bits .and .u32 ve_1 f_1) (bits .and .u32 (bits .xor .u32 (a1S .u32) ve_1) g_1))))+x58))+x62)))) ve_1 f_1 g_1 (a1K.wrap (x35+1))
  else
   some (va_1,b_1,c_1,d_1,ve_1,f_1,g_1,vh_1)
def mB (N:Nat)(cX block:List Int):Option (List Int):=
 (bM 64 block).bind fun q=>
 (sX N block).bind fun x18=>
 (bM 64 x18).bind fun q_1=>
 (cC 8 cX 0).bind fun x19=>
 (cC 8 cX 1).bind fun x21=>
 (cC 8 cX 2).bind fun x23=>
 (cC 8 cX 3).bind fun x25=>
 (cC 8 cX 4).bind fun x27=>
 (cC 8 cX 5).bind fun x29=>
 (cC 8 cX 6).bind fun x31=>
 (cC 8 cX 7).bind fun x33=>
 (mX N cX x18 N x19 x21 x23 x25 x27 x29 x31 x33 0).bind fun p2=>
 vV N cX p2.1 p2.2.1 p2.2.2.1 p2.2.2.2.1 p2.2.2.2.2.1 p2.2.2.2.2.2.1 p2.2.2.2.2.2.2.1 p2.2.2.2.2.2.2.2
def aI5 (N:Nat)(bL:List Int):Option (List Int):=
 (bM 32 bL).bind fun q=>
 some bL
def aFl (N:Nat)(l1:List Int):Nat→Int→(List Int)→Option (List Int)
 |0,_,_=>none
 |m+1,x31,l2=>
  if decide (x31<32) then
   (cC 8 l1 (a1K.wrap (a1R x31 4))).bind fun x37=>
   (shr .u32 x37 (a1K.wrap (24-(a1K.wrap ((a1O x31 4)*8))))).bind fun x43=>
   (cC 32 l2 x31).bind fun x45=>
   (aFl N l1 m) (a1K.wrap (x31+1)) (l2.set (a1Q x31) (a1P.wrap x43))
  else
   some l2
def aJf (N:Nat)(l1:List Int):Option (List Int):=
 (aFl N l1 N 0 (a1N 32 0)).bind fun p3=>
 aI5 N p3
def aFo (N:Nat)(x14:(List Int)):Nat→Int→(List Int)→Option (List Int)
 |0,_,_=>none
 |m+1,x19,cL=>
  if decide (x19<(a1K.wrap (a1R (x14.length:Int) 64))) then
   (bM 8 cL).bind fun q_1=>
   (sub x14 (a1K.wrap (64*x19)) (x14.length:Int)).bind fun x26=>
   (arp 64 x26).bind fun x27=>
   (mB N cL x27).bind fun x29=>
   (bM 8 x29).bind fun q_2=>
   (aFo N x14 m) (a1K.wrap (x19+1)) x29
  else
   some cL
def yX (N:Nat)(b:List Int):Option (List Int):=
 (aLH N (a1L.wrap (b.length:Int))).bind fun x12=>
 (aIq N [b,x12]).bind fun x14=>
 (aFo N x14 N 0 aAW).bind fun p4=>
 aJf N p4
def aCw (N:Nat)(b:List Int):Option (List Int):=
 (yX N b).bind fun x5=>
 (bM 32 x5).bind fun q=>
 (yX N x5).bind fun x7=>
 (bM 32 x7).bind fun q_1=>
 some x7
def aCa (N:Nat)(vh:bV):Option (List Int):=
 (mA N vh).bind fun x4=>
 (aCw N x4).bind fun x5=>
 (bM 32 x5).bind fun q=>
 some x5
def aKK (N:Nat)(p:aK):Option (aF×Int):=
 (oA N p).bind fun x5=>
 if !x5 then
  some ((aF.mk 0 (a1N 32 0) []),6)
 else
  (aCa N p.Genesis).bind fun x10=>
  (bM 32 x10).bind fun q=>
  some ((aF.mk 0 x10 []),0)
def aBr (N:Nat)(a b:List Int):Option Int:=some (aQS a b)
def aES (N:Nat)(va b:List Int):Option Int:=
 (aBr N va b).bind fun x7=>
 some x7
def uJ (N:Nat)(x:Int):Option Bool:=
 some (x != x)
def yA (N:Nat)(x y:Int):Option Int:=
 (uJ N x).bind fun x8=>
 (uJ N y).bind fun x10=>
 if x8 then
  if x10 then
   some 0
  else
   some (-1)
 else
  if x10 then
   some 1
  else
   if decide (x<y) then
    some (-1)
   else
    if decide (y<x) then
     some 1
    else
     some 0
def aEC (N:Nat):Option Int:=
 some 0
def u5 (N:Nat)(aBp:List Int):Nat→Int→Option (LR (Unit) (Int))
 |0,_=>none
 |m+1,x8=>
  if decide (x8<(aBp.length:Int)) then
   (aW aBp x8).bind fun x10=>
   if x10 != 0 then
    some (.ret x10)
   else
    (u5 N aBp m) (a1K.wrap (x8+1))
  else
   some (.brk ())
def aFn (N:Nat)(aBp:List Int):Option Int:=
 (u5 N aBp N 0).bind fun q=>match q with
  | .ret v=>some v
  | .brk p2=>
   aEC N
def aCy (N:Nat)(va b:aD):Option Int:=
 (bM 32 va.Tx).bind fun q=>
 (bM 32 b.Tx).bind fun q_1=>
 (aES N va.Tx b.Tx).bind fun x9=>
 (yA N va.Index b.Index).bind fun x14=>
 (aFn N [x9,x14]).bind fun x16=>
 some x16
def aGU (N:Nat)(sum:Int):Option (Int×Bool):=
 some (sum,true)
def wO (N:Nat)(l:List aA)(gB x10:Int)(x12:aA)(rec:Int→Int→Option (LR (Int) (Int×Bool)))(x24:Bool):Option (LR (Int) (Int×Bool)):=
 if x24 then
  some (.ret (0,false))
 else
  rec (a1K.wrap (gB+x12.Output.Value)) (a1K.wrap (x10+1))
def mJ (N:Nat)(l:List aA):Nat→Int→Int→Option (LR (Int) (Int×Bool))
 |0,_,_=>none
 |m+1,gB,x10=>
  if decide (x10<(l.length:Int)) then
   (aW l x10).bind fun x12=>
   if decide (x12.Output.Value<0) then
    wO N l gB x10 x12 (mJ N l m) true
   else
    wO N l gB x10 x12 (mJ N l m) (decide ((a1K.wrap (2100000000000000-gB))<x12.Output.Value))
  else
   some (.brk gB)
def pJ (N:Nat)(l:List aA):Option (Int×Bool):=
 (mJ N l N 0 0).bind fun q=>match q with
  | .ret v=>some v
  | .brk p2=>
   aGU N p2
def aBE (N:Nat)(l:aF):Option Bool:=
 (pJ N l.Coins).bind fun x65=>
 some x65.2
def mY (N:Nat)(l:aF)(x24:Int)(rec:Int→Option (LR (Unit) (Bool)))(x60:Bool):Option (LR (Unit) (Bool)):=
 if x60 then
  some (.ret false)
 else
  rec (a1K.wrap (x24+1))
def mK (N:Nat)(l:aF)(x24:Int)(x27:aA)(rec:Int→Option (LR (Unit) (Bool)))(x43:Bool):Option (LR (Unit) (Bool)):=
 if x43 then
  some (.ret false)
 else
  if decide (520<(x27.Output.Script.length:Int)) then
   mY N l x24 rec true
  else
   if decide (x27.Height<1) then
    mY N l x24 rec true
   else
    mY N l x24 rec (decide (l.Height<x27.Height))
def fN (N:Nat)(l:aF):Nat→Int→Option (LR (Unit) (Bool))
 |0,_=>none
 |m+1,x24=>
  if decide (x24<(l.Coins.length:Int)) then
   (aW l.Coins x24).bind fun x27=>
   if decide (0<x24) then
    (aW l.Coins (a1K.wrap (x24-1))).bind fun x36=>
    (aCy N x36.Out x27.Out).bind fun x41=>
    mK N l x24 x27 (fN N l m) (decide (0≤x41))
   else
    mK N l x24 x27 (fN N l m) false
  else
   some (.brk ())
def kO (N:Nat)(l:aF)(x20:Bool):Option Bool:=
 if x20 then
  some false
 else
  (fN N l N 0).bind fun q=>match q with
   | .ret v=>some v
   | .brk p3=>
    aBE N l
def xL (N:Nat)(l:aF):Option Bool:=
 if decide (l.Height<0) then
  kO N l true
 else
  if decide (16777216<l.Height) then
   kO N l true
  else
   kO N l (decide (100000<(l.Coins.length:Int)))
def aCh (N:Nat)(b:List Int)(vn:Int):Option (List Int):=
 (sO N (a1L.wrap vn) 2).bind fun x8=>
 (fX N b x8).bind fun x9=>
 some x9
def mS (N:Nat)(b:List Int)(vn:Int):Option (List Int):=
 (sO N vn 8).bind fun x7=>
 (fX N b x7).bind fun x8=>
 some x8
def iC (N:Nat)(b:List Int)(vn:Int):Option (List Int):=
 if decide (vn<253) then
  (fX N b [a1P.wrap vn]).bind fun x12=>
  some x12
 else
  if decide (vn<65536) then
   (fX N b [253]).bind fun x18=>
   (aCh N x18 (IntKind.u16.wrap vn)).bind fun x21=>
   some x21
  else
   if decide (vn<4294967296) then
    (fX N b [254]).bind fun x27=>
    (dU N x27 (a1M.wrap vn)).bind fun x30=>
    some x30
   else
    (fX N b [255]).bind fun x33=>
    (mS N x33 vn).bind fun x35=>
    some x35
def aGI (N:Nat)(o:aD):Option (List Int):=
 (bM 32 o.Tx).bind fun q=>
 (jP N [] o.Tx).bind fun x5=>
 (dU N x5 o.Index).bind fun x8=>
 some x8
def kW (N:Nat)(b vs:List Int):Option (List Int):=
 (iC N b (a1L.wrap (vs.length:Int))).bind fun x9=>
 (fX N x9 vs).bind fun x11=>
 some x11
def aKB (N:Nat)(l0:List Int):Option (List Int):=
 some l0
def aGG (N:Nat)(t:aB)(x79:Int)(rec:Int→(List Int)→Option (List Int))(d8:List Int):Option (List Int):=
 rec (a1K.wrap (x79+1)) d8
def sF (N:Nat)(t:aB)(x79:Int)(x81:aT):Nat→Int→(List Int)→Option (List Int)
 |0,_,_=>none
 |m+1,x93,gY=>
  if decide (x93<(x81.Witness.length:Int)) then
   (aW x81.Witness x93).bind fun x95=>
   (kW N [] x95).bind fun x99=>
   (b6 1 gY x99).bind fun aOE=>
   (sF N t x79 x81 m) (a1K.wrap (x93+1)) aOE
  else
   some gY
def pA (N:Nat)(t:aB):Nat→Int→(List Int)→Option (List Int)
 |0,_,_=>none
 |m+1,x79,aO=>
  if decide (x79<(t.Inputs.length:Int)) then
   (aW t.Inputs x79).bind fun x81=>
   (iC N [] (a1L.wrap (x81.Witness.length:Int))).bind fun x88=>
   (b6 1 aO x88).bind fun x89=>
   (sF N t x79 x81 N 0 x89).bind fun p6=>
   aGG N t x79 (pA N t m) p6
  else
   some aO
def aFS (N:Nat)(t:aB)(bI:Bool)(bL:List Int):Option (List Int):=
 (dU N [] t.Lock).bind fun x71=>
 (b6 1 bL x71).bind fun x72=>
 if !bI then
  some x72
 else
  (pA N t N 0 x72).bind fun p4=>
  aKB N p4
def sL (N:Nat)(t:aB)(bI:Bool):Nat→Int→(List Int)→Option (List Int)
 |0,_,_=>none
 |m+1,x52,cL=>
  if decide (x52<(t.Outputs.length:Int)) then
   (aW t.Outputs x52).bind fun x54=>
   (mS N [] (a1L.wrap x54.Value)).bind fun x60=>
   (b6 1 cL x60).bind fun x61=>
   (kW N [] x54.Script).bind fun x65=>
   (b6 1 x61 x65).bind fun x66=>
   (sL N t bI m) (a1K.wrap (x52+1)) x66
  else
   some cL
def aGa (N:Nat)(t:aB)(bI:Bool)(l1:List Int):Option (List Int):=
 (iC N [] (a1L.wrap (t.Outputs.length:Int))).bind fun x47=>
 (b6 1 l1 x47).bind fun x48=>
 (sL N t bI N 0 x48).bind fun p7=>
 aFS N t bI p7
def tD (N:Nat)(t:aB)(bI:Bool):Nat→Int→(List Int)→Option (List Int)
 |0,_,_=>none
 |m+1,x27,l1_3=>
  if decide (x27<(t.Inputs.length:Int)) then
   (aW t.Inputs x27).bind fun x29=>
   (aGI N x29.Prev).bind fun x34=>
   (b6 1 l1_3 x34).bind fun x35=>
   (dU N [] x29.Sequence).bind fun x39=>
   (b6 1 x35 x39).bind fun x40=>
   (tD N t bI m) (a1K.wrap (x27+1)) x40
  else
   some l1_3
def aEq (N:Nat)(t:aB)(bI:Bool):Option (List Int):=
 (dU N [] t.Version).bind fun x16=>
 (iC N [] (a1L.wrap (t.Inputs.length:Int))).bind fun x22=>
 (b6 1 x16 x22).bind fun x23=>
 (tD N t bI N 0 x23).bind fun p8=>
 aGa N t bI p8
def aJC (N:Nat)(t:aB):Option Bool:=
 (aEq N t true).bind fun x60=>
 some (decide ((x60.length:Int)≤20000))
def aJH (N:Nat)(t:aB)(x39:Int)(rec:Int→Option (LR (Unit) (Bool))):Option (LR (Unit) (Bool)):=
 rec (a1K.wrap (x39+1))
def aFt (N:Nat)(t:aB)(x39:Int)(x41:aT):Nat→Int→Option (LR (Unit) (Bool))
 |0,_=>none
 |m+1,x50=>
  if decide (x50<(x41.Witness.length:Int)) then
   (aW x41.Witness x50).bind fun x52=>
   if decide (520<(x52.length:Int)) then
    some (.ret false)
   else
    (aFt N t x39 x41 m) (a1K.wrap (x50+1))
  else
   some (.brk ())
def yN (N:Nat)(t:aB):Nat→Int→Option (LR (Unit) (Bool))
 |0,_=>none
 |m+1,x39=>
  if decide (x39<(t.Inputs.length:Int)) then
   (aW t.Inputs x39).bind fun x41=>
   if decide (32<(x41.Witness.length:Int)) then
    some (.ret false)
   else
    (aFt N t x39 x41 N 0).bind fun q=>match q with
     | .ret v=>some (.ret v)
     | .brk p6=>
      aJH N t x39 (yN N t m)
  else
   some (.brk ())
def aFE (N:Nat)(t:aB):Option Bool:=
 (yN N t N 0).bind fun q=>match q with
  | .ret v=>some v
  | .brk p4=>
   aJC N t
def aFq (N:Nat)(t:aB)(x22:Int)(rec:Int→Option (LR (Unit) (Bool)))(x34:Bool):Option (LR (Unit) (Bool)):=
 if x34 then
  some (.ret false)
 else
  rec (a1K.wrap (x22+1))
def uC (N:Nat)(t:aB):Nat→Int→Option (LR (Unit) (Bool))
 |0,_=>none
 |m+1,x22=>
  if decide (x22<(t.Outputs.length:Int)) then
   (aW t.Outputs x22).bind fun x24=>
   if decide (x24.Value<0) then
    aFq N t x22 (uC N t m) true
   else
    aFq N t x22 (uC N t m) (decide (520<(x24.Script.length:Int)))
  else
   some (.brk ())
def aCg (N:Nat)(t:aB)(x18:Bool):Option Bool:=
 if x18 then
  some false
 else
  (uC N t N 0).bind fun q=>match q with
   | .ret v=>some v
   | .brk p7=>
    aFE N t
def aFF (N:Nat)(t:aB):Option Bool:=
 if decide (64<(t.Inputs.length:Int)) then
  aCg N t true
 else
  aCg N t (decide (64<(t.Outputs.length:Int)))
def aBg (N:Nat)(t:aB)(bI:Bool):Option ((List Int)×Int):=
 (aFF N t).bind fun x7=>
 if !x7 then
  some ([],4)
 else
  (aEq N t bI).bind fun x11=>
  some (x11,0)
def aCB (N:Nat)(l0:List Int):Option ((List Int)×Int):=
 if decide (100000<(l0.length:Int)) then
  some ([],4)
 else
  some (l0,0)
def vT (N:Nat)(b:aJ):Nat→Int→(List Int)→Option (LR ((List Int)) ((List Int)×Int))
 |0,_,_=>none
 |m+1,x24,aO=>
  if decide (x24<(b.Txs.length:Int)) then
   (aW b.Txs x24).bind fun x26=>
   (aBg N x26 true).bind fun x30=>
   if x30.2 != 0 then
    some (.ret ([],4))
   else
    (b6 1 aO x30.1).bind fun x37=>
    (vT N b m) (a1K.wrap (x24+1)) x37
  else
   some (.brk aO)
def aCt (N:Nat)(b:aJ):Option ((List Int)×Int):=
 if decide (256<(b.Txs.length:Int)) then
  some ([],4)
 else
  (mA N b.Header).bind fun x15=>
  (iC N x15 (a1L.wrap (b.Txs.length:Int))).bind fun x20=>
  (vT N b N 0 x20).bind fun q=>match q with
   | .ret v=>some v
   | .brk p2=>
    aCB N p2
def aN2 (N:Nat)(o:aD):Option Bool:=
 some (iU o.Tx (a1N 32 0) ((o.Index == 4294967295)&&true))
def zF (N:Nat)(x2:Bool):Option Bool:=
 some x2
def rK (N:Nat)(t:aB):Option Bool:=
 if(t.Inputs.length:Int) == 1 then
  (aW t.Inputs 0).bind fun x10=>
  (aN2 N x10.Prev).bind fun x13=>
  zF N x13
 else
  zF N false
def aMl (N:Nat):Option Bool:=
 some true
def vF (N:Nat)(l:List aI):Nat→Int→Int→Option (LR (Unit) (Bool))
 |0,_,_=>none
 |m+1,sum,x8=>
  if decide (x8<(l.length:Int)) then
   (aW l x8).bind fun x10=>
   if decide ((a1K.wrap (2100000000000000-sum))<x10.Value) then
    some (.ret false)
   else
    (vF N l m) (a1K.wrap (sum+x10.Value)) (a1K.wrap (x8+1))
  else
   some (.brk ())
def aIQ (N:Nat)(l:List aI):Option Bool:=
 (vF N l N 0 0).bind fun q=>match q with
  | .ret v=>some v
  | .brk p2=>
   aMl N
def aDO (N:Nat)(x46:Bool):Option Int:=
 if x46 then
  some 92
 else
  some 0
def aHF (N:Nat)(t:aB)(l1:List (aD×Bool)):Option Int:=
 if(pC tY l1 (aD.mk (a1N 32 0) 4294967295) false) then
  (rK N t).bind fun x44=>
  aDO N (!x44)
 else
  aDO N false
def aDM (N:Nat)(t:aB):Nat→Int→(List (aD×Bool))→Option (LR ((List (aD×Bool))) (Int))
 |0,_,_=>none
 |m+1,x27,bL=>
  if decide (x27<(t.Inputs.length:Int)) then
   (aW t.Inputs x27).bind fun x29=>
   if(pC tY bL x29.Prev false) then
    some (.ret 91)
   else
    (aDM N t m) (a1K.wrap (x27+1)) (aAa tY bL x29.Prev true)
  else
   some (.brk bL)
def aDU (N:Nat)(t:aB)(x18:Bool):Option Int:=
 if x18 then
  some 93
 else
  (aIQ N t.Outputs).bind fun x21=>
  if !x21 then
   some 90
  else
   (aDM N t N 0 []).bind fun q=>match q with
    | .ret v=>some v
    | .brk p4=>
     aHF N t p4
def aGb (N:Nat)(t:aB):Option Int:=
 (aFF N t).bind fun x7=>
 if !x7 then
  some 4
 else
  if(t.Inputs.length:Int) == 0 then
   aDU N t true
  else
   aDU N t ((t.Outputs.length:Int) == 0)
def aD7 (N:Nat)(t:aB)(bI:Bool):Option (List Int):=
 (aBg N t bI).bind fun x10=>
 if x10.2 != 0 then
  some [0,0,0,0,0,0,0,0,0,0,0,0,0,0,0,0,0,0,0,0,0,0,0,0,0,0,0,0,0,0,0,0]
 else
  (aCw N x10.1).bind fun x17=>
  (bM 32 x17).bind fun q=>
  some x17
def aNB (N:Nat)(t:aB):Option (List Int):=
 (aD7 N t false).bind fun x4=>
 (bM 32 x4).bind fun q=>
 some x4
def aC3 (N:Nat):Option Int:=
 some 0
def aDj (N:Nat)(l:List aB)(x74:Int)(rec:Int→(List (aD×Bool))→Option (LR (Unit) (Int)))(d8:List (aD×Bool)):Option (LR (Unit) (Int)):=
 rec (a1K.wrap (x74+1)) d8
def oJ (N:Nat)(l:List aB)(x74:Int)(x76:aB):Nat→Int→(List (aD×Bool))→Option (LR ((List (aD×Bool))) (Int))
 |0,_,_=>none
 |m+1,x81,gY=>
  if decide (x81<(x76.Inputs.length:Int)) then
   (aW x76.Inputs x81).bind fun x83=>
   if(pC tY gY x83.Prev false) then
    some (.ret 91)
   else
    (oJ N l x74 x76 m) (a1K.wrap (x81+1)) (aAa tY gY x83.Prev true)
  else
   some (.brk gY)
def lR (N:Nat)(l:List aB):Nat→Int→(List (aD×Bool))→Option (LR (Unit) (Int))
 |0,_,_=>none
 |m+1,x74,aO=>
  if decide (x74<(l.length:Int)) then
   (aW l x74).bind fun x76=>
   (oJ N l x74 x76 N 0 aO).bind fun q=>match q with
    | .ret v=>some (.ret v)
    | .brk p6=>
     aDj N l x74 (lR N l m) p6
  else
   some (.brk ())
def aDe (N:Nat)(l:List aB):Option Int:=
 (lR N l N 0 []).bind fun q=>match q with
  | .ret v=>some v
  | .brk p4=>
   aC3 N
def aCZ (N:Nat)(l:List aB)(l0:List (List Int×Int))(x43:Int)(rec:Int→Option (LR (Unit) (Int))):Option (LR (Unit) (Int)):=
 rec (a1K.wrap (x43+1))
def wD (N:Nat)(l:List aB)(l0:List (List Int×Int))(x43:Int)(x46:aB)(x51:Int)(rec:Int→Option (LR (Unit) (Int)))(x68:Bool):Option (LR (Unit) (Int)):=
 if x68 then
  some (.ret 101)
 else
  rec (a1K.wrap (x51+1))
def jQ (N:Nat)(l:List aB)(l0:List (List Int×Int))(x43:Int)(x46:aB):Nat→Int→Option (LR (Unit) (Int))
 |0,_=>none
 |m+1,x51=>
  if decide (x51<(x46.Inputs.length:Int)) then
   (aW x46.Inputs x51).bind fun x53=>
   (bM 32 x53.Prev.Tx).bind fun q=>
   if tW yY l0 x53.Prev.Tx then
    wD N l l0 x43 x46 x51 (jQ N l l0 x43 x46 m) (decide (x43≤(pC yY l0 x53.Prev.Tx 0)))
   else
    wD N l l0 x43 x46 x51 (jQ N l l0 x43 x46 m) false
  else
   some (.brk ())
def gE (N:Nat)(l:List aB)(l0:List (List Int×Int)):Nat→Int→Option (LR (Unit) (Int))
 |0,_=>none
 |m+1,x43=>
  if decide (x43<(l.length:Int)) then
   (aW l x43).bind fun x46=>
   (jQ N l l0 x43 x46 N 0).bind fun q=>match q with
    | .ret v=>some (.ret v)
    | .brk p9=>
     aCZ N l l0 x43 (gE N l l0 m)
  else
   some (.brk ())
def aCT (N:Nat)(l:List aB)(l0:List (List Int×Int)):Option Int:=
 (gE N l l0 N 0).bind fun q=>match q with
  | .ret v=>some v
  | .brk p7=>
   aDe N l
def mM (N:Nat)(l:List aB):Nat→Int→(List (List Int×Int))→Option (LR ((List (List Int×Int))) (Int))
 |0,_,_=>none
 |m+1,x23,l0_4=>
  if decide (x23<(l.length:Int)) then
   (aW l x23).bind fun x26=>
   (aNB N x26).bind fun x29=>
   (bM 32 x29).bind fun q_1=>
   if tW yY l0_4 x29 then
    some (.ret 91)
   else
    (mM N l m) (a1K.wrap (x23+1)) (aAa yY l0_4 x29 x23)
  else
   some (.brk l0_4)
def aH0 (N:Nat)(l:List aB):Option Int:=
 (mM N l N 0 []).bind fun q=>match q with
  | .ret v=>some v
  | .brk p11=>
   aCT N l p11
def aIL (N:Nat)(t:aB):Option (List Int):=
 (aD7 N t true).bind fun x4=>
 (bM 32 x4).bind fun q=>
 some x4
def aDQ (N:Nat)(l vr:List Int):Option (List Int):=
 (bM 32 l).bind fun q=>
 (b6 1 [1] l).bind fun x9=>
 (bM 32 vr).bind fun q_1=>
 (b6 1 x9 vr).bind fun x12=>
 (yX N x12).bind fun x14=>
 (bM 32 x14).bind fun q_2=>
 some x14
def aAS (N:Nat)(l0:List (List (List Int))):Option (List (List (List Int))):=
 some l0
def aA5 (N:Nat)(aO:List (List (List Int)))(rec:(List (List Int))→(List (List (List Int)))→Option (List (List (List Int))))(l1:List (List Int)):Option (List (List (List Int))):=
 (aHW 32 l1).bind fun q=>
 (b6 24 aO [l1]).bind fun x45=>
 rec l1 x45
def uL (N:Nat)(l_1:List (List Int))(aO:List (List (List Int)))(vi:Int)(rec:Int→(List (List Int))→Option (List (List Int)))(cL:List (List Int)):Option (List (List Int)):=
 rec (a1K.wrap (vi+2)) cL
def lH (N:Nat)(l_1:List (List Int))(aO:List (List (List Int))):Nat→Int→(List (List Int))→Option (List (List Int))
 |0,_,_=>none
 |m+1,vi,bL=>
  if decide (vi<(l_1.length:Int)) then
   if decide ((a1K.wrap (vi+1))<(l_1.length:Int)) then
    (aW l_1 vi).bind fun x25=>
    (bM 32 x25).bind fun q_1=>
    (aW l_1 (a1K.wrap (vi+1))).bind fun x30=>
    (bM 32 x30).bind fun q_2=>
    (aDQ N x25 x30).bind fun x32=>
    (bM 32 x32).bind fun q_3=>
    (b6 32 bL [x32]).bind fun x34=>
    uL N l_1 aO vi (lH N l_1 aO m) x34
   else
    (aW l_1 vi).bind fun x38=>
    (bM 32 x38).bind fun q_4=>
    (b6 32 bL [x38]).bind fun x41=>
    uL N l_1 aO vi (lH N l_1 aO m) x41
  else
   some bL
def oM (N:Nat):Nat→(List (List Int))→(List (List (List Int)))→Option (List (List (List Int)))
 |0,_,_=>none
 |m+1,l_1,aO=>
  if decide (1<(l_1.length:Int)) then
   (lH N l_1 aO N 0 []).bind fun p4=>
   aA5 N aO (oM N m) p4
  else
   some aO
def aEU (N:Nat)(l:List (List Int)):Option (List (List (List Int))):=
 (oM N N l [l]).bind fun p2=>
 aAS N p2
def sW (N:Nat)(l:List (List Int))(x11:Bool):Option (List Int):=
 if x11 then
  some [0,0,0,0,0,0,0,0,0,0,0,0,0,0,0,0,0,0,0,0,0,0,0,0,0,0,0,0,0,0,0,0]
 else
  (aEU N l).bind fun x14=>
  (aW x14 (a1K.wrap ((x14.length:Int)-1))).bind fun x19=>
  (aW x19 0).bind fun x21=>
  (bM 32 x21).bind fun q=>
  some x21
def aAh (N:Nat)(l:List (List Int)):Option (List Int):=
 if(l.length:Int) == 0 then
  sW N l true
 else
  sW N l (decide (1024<(l.length:Int)))
def aEr (N:Nat)(l1:List (List Int)):Option (List Int):=
 (aHW 32 l1).bind fun q=>
 (aAh N l1).bind fun x19=>
 (bM 32 x19).bind fun q_1=>
 some x19
def aAH (N:Nat)(l:List aB):Nat→Int→(List (List Int))→Option (List (List Int))
 |0,_,_=>none
 |m+1,x8,bL=>
  if decide (x8<(l.length:Int)) then
   (aW l x8).bind fun x10=>
   (aIL N x10).bind fun x14=>
   (bM 32 x14).bind fun q_2=>
   (b6 32 bL [x14]).bind fun x16=>
   (aAH N l m) (a1K.wrap (x8+1)) x16
  else
   some bL
def aE8 (N:Nat)(l:List aB):Option (List Int):=
 (aAH N l N 0 []).bind fun p2=>
 aEr N p2
def zI (N:Nat)(b:aJ):Option Int:=
 (aH0 N b.Txs).bind fun x52=>
 if x52 != 0 then
  some x52
 else
  (aE8 N b.Txs).bind fun x58=>
  (bM 32 b.Header.Root).bind fun q=>
  (bM 32 x58).bind fun q_1=>
  if !(x58 == b.Header.Root) then
   some 110
  else
   some 0
def sJ (N:Nat)(b:aJ):Nat→Int→Option (LR (Unit) (Int))
 |0,_=>none
 |m+1,x40=>
  if decide (x40<(b.Txs.length:Int)) then
   (aW b.Txs x40).bind fun x42=>
   (aGb N x42).bind fun x45=>
   if x45 != 0 then
    some (.ret x45)
   else
    (sJ N b m) (a1K.wrap (x40+1))
  else
   some (.brk ())
def aDh (N:Nat)(b:aJ):Option Int:=
 (sJ N b N 0).bind fun q=>match q with
  | .ret v=>some v
  | .brk p3=>
   zI N b
def yL (N:Nat)(b:aJ):Nat→Int→Option (LR (Unit) (Int))
 |0,_=>none
 |m+1,x26=>
  if decide (x26<(b.Txs.length:Int)) then
   (aW b.Txs x26).bind fun x29=>
   (rK N x29).bind fun x32=>
   if x32 != (x26 == 0) then
    some (.ret 111)
   else
    (yL N b m) (a1K.wrap (x26+1))
  else
   some (.brk ())
def aD4 (N:Nat)(b:aJ):Option Int:=
 (aCt N b).bind fun x13=>
 if x13.2 != 0 then
  some x13.2
 else
  if(b.Txs.length:Int) == 0 then
   some 93
  else
   (yL N b N 0).bind fun q=>match q with
    | .ret v=>some v
    | .brk p4=>
     aDh N b
def aHM (N:Nat):Option Bool:=
 some true
def aD1 (N:Nat)(t:aB):Nat→Int→Option (LR (Unit) (Bool))
 |0,_=>none
 |m+1,x15=>
  if decide (x15<(t.Inputs.length:Int)) then
   (aW t.Inputs x15).bind fun x17=>
   if x17.Sequence != 4294967295 then
    some (.ret false)
   else
    (aD1 N t m) (a1K.wrap (x15+1))
  else
   some (.brk ())
def aF8 (N:Nat)(t:aB)(height:Int):Option Bool:=
 if decide ((a1K.wrap t.Lock)≤height) then
  some true
 else
  (aD1 N t N 0).bind fun q=>match q with
   | .ret v=>some v
   | .brk p2=>
    aHM N
def sV (N:Nat)(l:aF)(b:aJ)(x15:Bool):Option Int:=
 if x15 then
  some 6
 else
  if l.Height == 16777216 then
   some 4
  else
   (bM 32 b.Header.Prev).bind fun q=>
   (bM 32 l.Tip).bind fun q_1=>
   if !(b.Header.Prev == l.Tip) then
    some 144
   else
    (aD4 N b).bind fun x26=>
    if x26 != 0 then
     some x26
    else
     (aW b.Txs 0).bind fun x32=>
     (aW x32.Inputs 0).bind fun x35=>
     if x35.Sequence != (a1M.wrap (a1K.wrap (l.Height+1))) then
      some 102
     else
      (aF8 N x32 (a1K.wrap (l.Height+1))).bind fun x50=>
      if !x50 then
       some 85
      else
       some 0
def aAj (N:Nat)(p:aK)(l:aF)(b:aJ):Option Int:=
 (oA N p).bind fun x9=>
 if !x9 then
  sV N l b true
 else
  (xL N l).bind fun x13=>
  sV N l b (!x13)
def aLj (N:Nat)(aPX:Int):Option (Int×Bool):=
 some (aPX,true)
def aB7 (N:Nat)(l:List aA)(qH x9:Int)(x11:aA)(rec:Int→Int→Option (LR (Int) (Int×Bool)))(x24:Bool):Option (LR (Int) (Int×Bool)):=
 if x24 then
  some (.ret (0,false))
 else
  rec (a1K.wrap (qH+x11.Output.Value)) (a1K.wrap (x9+1))
def l8 (N:Nat)(l:List aA):Nat→Int→Int→Option (LR (Int) (Int×Bool))
 |0,_,_=>none
 |m+1,qH,x9=>
  if decide (x9<(l.length:Int)) then
   (aW l x9).bind fun x11=>
   if decide (x11.Output.Value<0) then
    aB7 N l qH x9 x11 (l8 N l m) true
   else
    aB7 N l qH x9 x11 (l8 N l m) (decide ((a1K.wrap (2100000000000000-qH))<x11.Output.Value))
  else
   some (.brk qH)
def aHl (N:Nat)(l:List aA):Option (Int×Bool):=
 (l8 N l N 0 0).bind fun q=>match q with
  | .ret v=>some v
  | .brk p2=>
   aLj N p2
def aKE (N:Nat)(fee:Int):Option (Int×Int):=
 if decide (fee<0) then
  some (0,100)
 else
  some (fee,0)
def xE (N:Nat)(t:aB):Nat→Int→Int→Option Int
 |0,_,_=>none
 |m+1,fee_1,x51=>
  if decide (x51<(t.Outputs.length:Int)) then
   (aW t.Outputs x51).bind fun x53=>
   (xE N t m) (a1K.wrap (fee_1-x53.Value)) (a1K.wrap (x51+1))
  else
   some fee_1
def aBu (N:Nat)(t:aB)(l:List aA):Option (Int×Int):=
 (aHl N l).bind fun x43=>
 if !x43.2 then
  some (0,90)
 else
  (xE N t N x43.1 0).bind fun p3=>
  aKE N p3
def aCm (N:Nat)(t:aB)(l:List aA):Nat→Int→Option (LR (Unit) (Int×Int))
 |0,_=>none
 |m+1,x26=>
  if decide (x26<(l.length:Int)) then
   (aW l x26).bind fun x29=>
   (aW t.Inputs x26).bind fun x36=>
   if !(iU x29.Out.Tx x36.Prev.Tx ((x29.Out.Index == x36.Prev.Index)&&true)) then
    some (.ret (0,101))
   else
    (aCm N t l m) (a1K.wrap (x26+1))
  else
   some (.brk ())
def aHa (N:Nat)(t:aB)(l:List aA):Option (Int×Int):=
 (aGb N t).bind fun x14=>
 if x14 != 0 then
  some (0,x14)
 else
  if(l.length:Int) != (t.Inputs.length:Int) then
   some (0,8)
  else
   (aCm N t l N 0).bind fun q=>match q with
    | .ret v=>some v
    | .brk p4=>
     aBu N t l
def aFe (N:Nat)(t:aB):Option Bool:=
 (aBg N t true).bind fun x7=>
 some (x7.2 == 0)
def pS (N:Nat)(vn:Int):Option (List Int):=
 (dU N [] vn).bind fun x4=>
 some x4
def aLi (N:Nat)(l0:List Int):Option (List Int):=
 some l0
def wZ (N:Nat)(parts:List (List Int)):Nat→Int→(List Int)→Option (List Int)
 |0,_,_=>none
 |m+1,x8,aO=>
  if decide (x8<(parts.length:Int)) then
   (aW parts x8).bind fun x10=>
   (b6 1 aO x10).bind fun x14=>
   (wZ N parts m) (a1K.wrap (x8+1)) x14
  else
   some aO
def aEi (N:Nat)(parts:List (List Int)):Option (List Int):=
 (wZ N parts N 0 []).bind fun p2=>
 aLi N p2
def wW (N:Nat)(o:aI):Option (List Int):=
 (mS N [] (a1L.wrap o.Value)).bind fun x6=>
 (kW N [] o.Script).bind fun x9=>
 (aEi N [x6,x9]).bind fun x11=>
 some x11
def tF (N:Nat)(b:List Int):Option (List Int):=
 (yX N b).bind fun x5=>
 (bM 32 x5).bind fun q=>
 some x5
def aFx (N:Nat)(tag:ByteArray)(b:List Int):Option (List Int):=
 (stb tag).bind fun x7=>
 (yX N x7).bind fun x8=>
 (bM 32 x8).bind fun q=>
 (aIq N [x8,x8,b]).bind fun x13=>
 (yX N x13).bind fun x14=>
 (bM 32 x14).bind fun q_1=>
 some x14
def pU (N:Nat)(t:aB)(vi:Int)(o:aI)(l3 l4 l5:List Int):Option ((List Int)×Int):=
 (pS N t.Version).bind fun x72=>
 (tF N l3).bind fun x74=>
 (tF N l4).bind fun x76=>
 (tF N l5).bind fun x78=>
 (pS N t.Lock).bind fun x81=>
 (pS N (a1M.wrap vi)).bind fun x84=>
 (wW N o).bind fun x86=>
 (aEi N [x72,x74,x76,x78,x81,x84,x86]).bind fun x88=>
 (aFx N (⟨#[108,105,103,104,116,99,108,105,101,110,116,47,115,112,101,110,100]⟩) x88).bind fun x89=>
 (bM 32 x89).bind fun q=>
 some (x89,0)
def pN (N:Nat)(t:aB)(vi:Int)(o:aI)(l3 l4:List Int):Nat→Int→(List Int)→Option (List Int)
 |0,_,_=>none
 |m+1,x61,eE=>
  if decide (x61<(t.Outputs.length:Int)) then
   (aW t.Outputs x61).bind fun x63=>
   (wW N x63).bind fun x67=>
   (b6 1 eE x67).bind fun x68=>
   (pN N t vi o l3 l4 m) (a1K.wrap (x61+1)) x68
  else
   some eE
def oW (N:Nat)(t:aB)(vi:Int)(o:aI)(l3 l4:List Int):Option ((List Int)×Int):=
 (pN N t vi o l3 l4 N 0 []).bind fun p5=>
 pU N t vi o l3 l4 p5
def pP (N:Nat)(t:aB)(vi:Int)(o:aI):Nat→Int→(List Int)→(List Int)→Option ((List Int)×(List Int))
 |0,_,_,_=>none
 |m+1,x43,eH,dR=>
  if decide (x43<(t.Inputs.length:Int)) then
   (aW t.Inputs x43).bind fun x45=>
   (aGI N x45.Prev).bind fun x50=>
   (b6 1 eH x50).bind fun x51=>
   (pS N x45.Sequence).bind fun x55=>
   (b6 1 dR x55).bind fun x56=>
   (pP N t vi o m) (a1K.wrap (x43+1)) x51 x56
  else
   some (eH,dR)
def lJ (N:Nat)(t:aB)(vi:Int)(o:aI)(x38:Bool):Option ((List Int)×Int):=
 if x38 then
  some ([0,0,0,0,0,0,0,0,0,0,0,0,0,0,0,0,0,0,0,0,0,0,0,0,0,0,0,0,0,0,0,0],5)
 else
  (pP N t vi o N 0 [] []).bind fun p6=>
  oW N t vi o p6.1 p6.2
def lS (N:Nat)(t:aB)(vi:Int)(o:aI)(x28:Bool):Option ((List Int)×Int):=
 if x28 then
  some ([0,0,0,0,0,0,0,0,0,0,0,0,0,0,0,0,0,0,0,0,0,0,0,0,0,0,0,0,0,0,0,0],4)
 else
  if decide (vi<0) then
   lJ N t vi o true
  else
   lJ N t vi o (decide ((t.Inputs.length:Int)≤vi))
def uX (N:Nat)(t:aB)(vi:Int)(o:aI):Option ((List Int)×Int):=
 (aFe N t).bind fun x16=>
 if !x16 then
  lS N t vi o true
 else
  if decide (o.Value<0) then
   lS N t vi o true
  else
   lS N t vi o (decide (520<(o.Script.length:Int)))
def aBR (N:Nat)(x2:Bool):Option Bool:=
 some x2
def aFQ (N:Nat)(code:Int):Option Bool:=
 if decide (1≤code) then
  aBR N (decide (code≤17))
 else
  aBR N false
def aJ2 (N:Nat)(l0:List Int):Option (List Int):=
 some l0
def aKi (N:Nat)(parts:List (List Int)):Nat→Int→(List Int)→Option (List Int)
 |0,_,_=>none
 |m+1,x8,aO=>
  if decide (x8<(parts.length:Int)) then
   (aW parts x8).bind fun x10=>
   (b6 1 aO x10).bind fun x14=>
   (aKi N parts m) (a1K.wrap (x8+1)) x14
  else
   some aO
def aJs (N:Nat)(parts:List (List Int)):Option (List Int):=
 (aKi N parts N 0 []).bind fun p2=>
 aJ2 N p2
def aDu (N:Nat)(x8:Int)(b_1 l2:List Int):Option (Int×(List Int)×Int×Int×(List Int)×Int):=
 some (a1K.wrap x8,l2,0,0,b_1,0)
def aMg (N:Nat)(b:List Int):Option (Int×(List Int)×Int×Int×(List Int)×Int):=
 (aW b 0).bind fun x8=>
 (aFQ N (a1K.wrap x8)).bind fun x14=>
 if !x14 then
  none
 else
  (sub b 1 (b.length:Int)).bind fun x18=>
  if(a1K.wrap x8) == 1 then
   if(x18.length:Int) == 0 then
    none
   else
    (aW x18 0).bind fun x31=>
    if decide ((a1K.wrap ((x18.length:Int)-1))<(a1K.wrap x31)) then
     none
    else
     (sub x18 1 (a1K.wrap (1+(a1K.wrap x31)))).bind fun x44=>
     (aJs N [x44]).bind fun x46=>
     (sub x18 (a1K.wrap (1+(a1K.wrap x31))) (x18.length:Int)).bind fun x49=>
     aDu N x8 x49 x46
  else
   if(a1K.wrap x8) == 11 then
    none
   else
    aDu N x8 x18 []
def aHo (N:Nat)(l0:List cM):Option ((List cM)×Int):=
 some (l0,0)
def aGV (N:Nat):Nat→(List Int)→(List cM)→Option (LR ((List cM)) ((List cM)×Int))
 |0,_,_=>none
 |m+1,b_1,aO=>
  if decide (0<(b_1.length:Int)) then
   (aMg N b_1).bind fun x16=>
   if x16.2.2.2.2.2 != 0 then
    some (.ret ([],x16.2.2.2.2.2))
   else
    (b6 48 aO [cM.mk x16.1 x16.2.1 x16.2.2.1 x16.2.2.2.1]).bind fun x26=>
    (aGV N m) x16.2.2.2.2.1 x26
  else
   some (.brk aO)
def aGn (N:Nat)(b:List Int):Option ((List cM)×Int):=
 if decide (520<(b.length:Int)) then
  some ([],4)
 else
  (aGV N N b []).bind fun q=>match q with
   | .ret v=>some v
   | .brk p2=>
    aHo N p2
def aGe (N:Nat):Option Bool:=
 some (((([]:List Int).length:Nat):Int) == 0)
def aF6 (N:Nat)(l:List cM):Nat→Int→Option Unit
 |0,_=>none
 |m+1,x9=>
  if decide (x9<(l.length:Int)) then
   (aW l x9).bind fun x11=>
   if x11.Code == 14 then
    none
   else
    if x11.Code == 15 then
     none
    else
     if x11.Code == 16 then
      none
     else
      (aF6 N l m) (a1K.wrap (x9+1))
  else
   some ()
def aAL (N:Nat)(l:List cM):Option Bool:=
 (aF6 N l N 0).bind fun p2=>
 aGe N
def aE3 (N:Nat):Option Bool:=
 some true
def aE0 (N:Nat)(stack:List (List Int)):Nat→Int→Option (LR (Unit) (Bool))
 |0,_=>none
 |m+1,x10=>
  if decide (x10<(stack.length:Int)) then
   (aW stack x10).bind fun x12=>
   if decide (520<(x12.length:Int)) then
    some (.ret false)
   else
    (aE0 N stack m) (a1K.wrap (x10+1))
  else
   some (.brk ())
def y6 (N:Nat)(stack:List (List Int)):Option Bool:=
 if decide (64<(stack.length:Int)) then
  some false
 else
  (aE0 N stack N 0).bind fun q=>match q with
   | .ret v=>some v
   | .brk p2=>
    aE3 N
def aGv (N:Nat)(l0:List (List Int)):Option (List (List Int)):=
 some l0
def aGR (N:Nat)(stack:List (List Int)):Nat→Int→(List (List Int))→Option (List (List Int))
 |0,_,_=>none
 |m+1,x8,aO=>
  if decide (x8<(stack.length:Int)) then
   (aW stack x8).bind fun x10=>
   (aJs N [x10]).bind fun x15=>
   (b6 24 aO [x15]).bind fun x17=>
   (aGR N stack m) (a1K.wrap (x8+1)) x17
  else
   some aO
def nI (N:Nat)(stack:List (List Int)):Option (List (List Int)):=
 (aGR N stack N 0 []).bind fun p2=>
 aGv N p2
def aBi (N:Nat)(cD:cI)(b4:List (List Int))(bF:List dK)(c7:Int):Option Bool:=
 if(bF.length:Int) == 0 then
  some true
 else
  none
def aK9 (N:Nat)(op:cM):Option Int:=
 if op.Code == 8 then
  some 6
 else
  if op.Code == 10 then
   some 21
  else
   if op.Code == 11 then
    some (a1K.wrap (1+(a1K.wrap (20*op.N))))
   else
    some 1
def aBZ (N:Nat)(op:cM)(x5:Bool):Option Int:=
 if x5 then
  some 0
 else
  if op.Code == 4 then
   none
  else
   if op.Code == 5 then
    some 2
   else
    none
def aKD (N:Nat)(op:cM):Option Int:=
 if op.Code == 1 then
  aBZ N op (op.Code == 1)
 else
  if op.Code == 15 then
   none
  else
   if op.Code == 16 then
    none
   else
    aBZ N op (op.Code == 17)
def aEb (N:Nat)(cD:cI)(b4:List (List Int))(bF:List dK)(c7:Int):Option (List Int):=
 (aW b4 (a1K.wrap ((b4.length:Int)-1))).bind fun x13=>
 some x13
def aHn (N:Nat):Option Bool:=
 some false
def aHv (N:Nat)(nC:List Int):Nat→Int→Option (LR (Unit) (Bool))
 |0,_=>none
 |m+1,x7=>
  if decide (x7<(nC.length:Int)) then
   (aW nC x7).bind fun x9=>
   if x9 != 0 then
    some (.ret true)
   else
    (aHv N nC m) (a1K.wrap (x7+1))
  else
   some (.brk ())
def aBs (N:Nat)(nC:List Int):Option Bool:=
 (aHv N nC N 0).bind fun q=>match q with
  | .ret v=>some v
  | .brk p2=>
   aHn N
def aCL (N:Nat)(cD:cI)(b4:List (List Int))(bF:List dK)(c7 vn:Int):Option (List (List Int)):=
 (sub b4 0 (a1K.wrap ((b4.length:Int)-vn))).bind fun x16=>
 some x16
def aCK (N:Nat)(cD:cI)(b4:List (List Int))(bF:List dK)(c7:Int)(nC:List Int):Option (Int×(List (List Int))):=
 if decide (64≤(b4.length:Int)) then
  some (4,b4)
 else
  (b6 24 b4 [nC]).bind fun x18=>
  some (0,x18)
def aD0 (N:Nat)(va b:List Int):Option Bool:=
 some ((iL va).toList == (iL b).toList)
def aIu (N:Nat)(l0:List Int):Option (List Int):=
 some l0
def aIH (N:Nat):Nat→Int→(List Int)→Option (List Int)
 |0,_,_=>none
 |m+1,vn_1,aO=>
  if decide (0<vn_1) then
   (b6 1 aO [a1P.wrap vn_1]).bind fun x12=>
   (shr .u32 vn_1 8).bind fun x7=>
   (aIH N m) x7 x12
  else
   some aO
def aHH (N:Nat)(vn:Int):Option (List Int):=
 (aIH N N vn []).bind fun p2=>
 aIu N p2
def aHY (N:Nat)(v:Bool):Option (List Int):=
 if v then
  (aHH N 1).bind fun x4=>
  some x4
 else
  (aHH N 0).bind fun x5=>
  some x5
def rT (N:Nat)(cD:cI)(b4:List (List Int))(bF:List dK)(c7 vn:Int)(nC:List Int):Option (List (List Int)):=
 (aCL N cD b4 bF c7 vn).bind fun x8=>
 (b6 24 x8 [nC]).bind fun x16=>
 some x16
def nS (N:Nat)(cD:cI)(b4:List (List Int))(bF:List dK)(c7:Int)(op:cM):Option (Int×(List (List Int))):=
 if op.Code == 1 then
  (aCK N cD b4 bF c7 op.Data).bind fun x14=>
  some (x14.1,x14.2)
 else
  if op.Code == 2 then
   none
  else
   if op.Code == 3 then
    none
   else
    if op.Code == 4 then
     none
    else
     if op.Code == 5 then
      (aEb N cD b4 bF c7).bind fun x66=>
      (aW b4 (a1K.wrap ((b4.length:Int)-2))).bind fun x77=>
      (aD0 N x66 x77).bind fun x79=>
      (aHY N x79).bind fun x80=>
      (rT N cD b4 bF c7 2 x80).bind fun x81=>
      some (0,x81)
     else
      none
def pY (N:Nat)(cD:cI)(b4:List (List Int))(bF:List dK)(c7:Int)(op:cM):Option (Int×(List (List Int))×Int):=
 (aBi N cD b4 bF c7).bind fun x8=>
 if op.Code == 15 then
  none
 else
  if op.Code == 16 then
   none
  else
   if x8 then
    (aK9 N op).bind fun x36=>
    if decide (500<(a1K.wrap (c7+x36))) then
     none
    else
     (aKD N op).bind fun x51=>
     if decide ((b4.length:Int)<x51) then
      some (81,b4,a1K.wrap (c7+x36))
     else
      if op.Code == 14 then
       none
      else
       (nS N cD b4 bF (a1K.wrap (c7+x36)) op).bind fun x64=>
       some (x64.1,x64.2,a1K.wrap (c7+x36))
   else
    none
def aJT (N:Nat)(ve:cI)(c0:Int)(l1:List (List Int)):Option ((List (List Int))×Int×Int):=
 (nI N l1).bind fun x47=>
 some (x47,c0,0)
def mZ (N:Nat)(ve:cI)(x17:(List cM)×Int):Nat→Int→Int→(List (List Int))→Option (LR (Int×(List (List Int))) ((List (List Int))×Int×Int))
 |0,_,_,_=>none
 |m+1,x35,c0_1,l2=>
  if decide (x35<(x17.1.length:Int)) then
   (aW x17.1 x35).bind fun x37=>
   (pY N ve l2 [] c0_1 x37).bind fun x40=>
   if x40.1 != 0 then
    some (.ret ([],0,x40.1))
   else
    (mZ N ve x17 m) (a1K.wrap (x35+1)) x40.2.2 x40.2.1
  else
   some (.brk (c0_1,l2))
def aCp (N:Nat)(b:List Int)(stack:List (List Int))(ve:cI):Option ((List (List Int))×Int×Int):=
 (aGn N b).bind fun x17=>
 if x17.2 != 0 then
  none
 else
  (aAL N x17.1).bind fun x24=>
  if !x24 then
   none
  else
   (y6 N stack).bind fun x27=>
   if !x27 then
    none
   else
    (nI N stack).bind fun x31=>
    (mZ N ve x17 N 0 0 x31).bind fun q=>match q with
     | .ret v=>some v
     | .brk p2=>
      aJT N ve p2.1 p2.2
def lO (N:Nat)(b:List Int)(bI:List (List Int))(ve:cI):Option Int:=
 (aCp N b bI ve).bind fun x14=>
 if x14.2.2 != 0 then
  some x14.2.2
 else
  if(x14.1.length:Int) != 1 then
   some 81
  else
   (aW x14.1 0).bind fun x28=>
   (aBs N x28).bind fun x30=>
   if !x30 then
    some 84
   else
    some 0
def oG (N:Nat)(t:aB)(vi:Int)(c:aA)(height:Int)(x17:(List Int)×Int)(x34:Bool):Option Int:=
 if x34 then
  some 102
 else
  (aW t.Inputs vi).bind fun x61=>
  (lO N c.Output.Script x61.Witness (cI.mk x17.1 height (a1K.wrap (height-c.Height)))).bind fun x65=>
  some x65
def aDN (N:Nat)(t:aB)(vi:Int)(c:aA)(height:Int):Option Int:=
 (uX N t vi c.Output).bind fun x17=>
 (bM 32 x17.1).bind fun q=>
 if x17.2 != 0 then
  some x17.2
 else
  (aW t.Inputs vi).bind fun x28=>
  if !(iU x28.Prev.Tx c.Out.Tx ((x28.Prev.Index == c.Out.Index)&&true)) then
   some 101
  else
   if decide (c.Height<0) then
    oG N t vi c height x17 true
   else
    if decide (height<c.Height) then
     oG N t vi c height x17 true
    else
     oG N t vi c height x17 (decide (16777216<height))
def aIk (N:Nat)(x18:Int×Int):Option (Int×Int):=
 some (x18.1,0)
def zK (N:Nat)(t:aB)(l:List aA)(height:Int)(x18:Int×Int):Nat→Int→Option (LR (Unit) (Int×Int))
 |0,_=>none
 |m+1,x30=>
  if decide (x30<(l.length:Int)) then
   (aW l x30).bind fun x33=>
   (aDN N t x30 x33 height).bind fun x39=>
   if x39 != 0 then
    some (.ret (0,x39))
   else
    (zK N t l height x18 m) (a1K.wrap (x30+1))
  else
   some (.brk ())
def aDT (N:Nat)(t:aB)(l:List aA)(height:Int):Option (Int×Int):=
 (rK N t).bind fun x14=>
 if x14 then
  some (0,92)
 else
  (aHa N t l).bind fun x18=>
  if x18.2 != 0 then
   some (0,x18.2)
  else
   (aF8 N t height).bind fun x26=>
   if !x26 then
    some (0,85)
   else
    (zK N t l height x18 N 0).bind fun q=>match q with
     | .ret v=>some v
     | .brk p2=>
      aIk N x18
def dM (N:Nat)(vs:List Int):Option ((List Int)):=(b6 1 [] vs).bind fun x7=>
 some x7
def jI (N:Nat)(c:aA):Option aA:=
 (dM N c.Output.Script).bind fun x6=>
 some (aA.mk c.Out (aI.mk c.Output.Value x6) c.Height c.Coinbase)
def vP (N:Nat)(aC:aK)(bK bZ:Int)(x71:Int×Int)(l1:List (aD×aA))(l3:List aA):Option (Int×(List (aD×aA))×(List aA)×Int):=
 some (0,l1,l3,a1K.wrap (bZ+x71.1))
def i6 (N:Nat)(aC:aK)(bK bZ:Int)(l4:List aA)(x71:Int×Int):Nat→Int→(List (aD×aA))→(List aA)→Option ((List (aD×aA))×(List aA))
 |0,_,_,_=>none
 |m+1,x87,bL,dR=>
  if decide (x87<(l4.length:Int)) then
   (aW l4 x87).bind fun x89=>
   (jI N x89).bind fun aVP=>
   (b6 88 dR [aVP]).bind fun aS6=>
   (i6 N aC bK bZ l4 x71 m) (a1K.wrap (x87+1)) (aMU iW bL x89.Out) aS6
  else
   some (bL,dR)
def vJ (N:Nat)(aC:aK)(bK:Int)(bY:List (aD×aA))(bJ:List aA)(bZ:Int)(t:aB)(l4:List aA):Option (Int×(List (aD×aA))×(List aA)×Int):=
 (aDT N t l4 bK).bind fun x71=>
 if x71.2 != 0 then
  some (x71.2,bY,bJ,bZ)
 else
  (i6 N aC bK bZ l4 x71 N 0 bY bJ).bind fun p4=>
  vP N aC bK bZ x71 p4.1 p4.2
def qB (N:Nat)(aC:aK)(bK:Int)(bY:List (aD×aA))(bJ:List aA)(bZ:Int)(t:aB)(l4:List aA)(x42:Int)(rec:Int→Option (LR (Unit) (Int×(List (aD×aA))×(List aA)×Int)))(x62:Bool):Option (LR (Unit) (Int×(List (aD×aA))×(List aA)×Int)):=
 if x62 then
  some (.ret (230,bY,bJ,bZ))
 else
  rec (a1K.wrap (x42+1))
def fD (N:Nat)(aC:aK)(bK:Int)(bY:List (aD×aA))(bJ:List aA)(bZ:Int)(t:aB)(l4:List aA):Nat→Int→Option (LR (Unit) (Int×(List (aD×aA))×(List aA)×Int))
 |0,_=>none
 |m+1,x42=>
  if decide (x42<(l4.length:Int)) then
   (aW l4 x42).bind fun x44=>
   if x44.Coinbase then
    qB N aC bK bY bJ bZ t l4 x42 (fD N aC bK bY bJ bZ t l4 m) (decide ((a1K.wrap (bK-x44.Height))<aC.Maturity))
   else
    qB N aC bK bY bJ bZ t l4 x42 (fD N aC bK bY bJ bZ t l4 m) false
  else
   some (.brk ())
def vN (N:Nat)(aC:aK)(bK:Int)(bY:List (aD×aA))(bJ:List aA)(bZ:Int)(t:aB)(l4:List aA):Option (Int×(List (aD×aA))×(List aA)×Int):=
 (fD N aC bK bY bJ bZ t l4 N 0).bind fun q=>match q with
  | .ret v=>some v
  | .brk p5=>
   vJ N aC bK bY bJ bZ t l4
def iZ (N:Nat)(aC:aK)(bK:Int)(bY:List (aD×aA))(bJ:List aA)(bZ:Int)(t:aB):Nat→Int→(List aA)→Option (LR ((List aA)) (Int×(List (aD×aA))×(List aA)×Int))
 |0,_,_=>none
 |m+1,x19,rO=>
  if decide (x19<(t.Inputs.length:Int)) then
   (aW t.Inputs x19).bind fun x21=>
   if !(tW iW bY x21.Prev) then
    some (.ret (101,bY,bJ,bZ))
   else
    (b6 88 rO [pC iW bY x21.Prev (aA.mk (aD.mk (a1N 32 0) 0) (aI.mk 0 []) 0 false)]).bind fun x38=>
    (iZ N aC bK bY bJ bZ t m) (a1K.wrap (x19+1)) x38
  else
   some (.brk rO)
def t6 (N:Nat)(aC:aK)(bK:Int)(bY:List (aD×aA))(bJ:List aA)(bZ:Int)(t:aB):Option (Int×(List (aD×aA))×(List aA)×Int):=
 (iZ N aC bK bY bJ bZ t N 0 []).bind fun q=>match q with
  | .ret v=>some v
  | .brk p7=>
   vN N aC bK bY bJ bZ t p7
def zY (N:Nat)(l0:List aA):Option (List aA):=
 some l0
def rX (N:Nat)(t:aB)(height:Int)(jN:Bool)(x13:(List Int)):Nat→Int→(List aA)→Option (List aA)
 |0,_,_=>none
 |m+1,x17,aO=>
  if decide (x17<(t.Outputs.length:Int)) then
   (aW t.Outputs x17).bind fun x20=>
   (b6 88 aO [aA.mk (aD.mk x13 (a1M.wrap x17)) x20 height jN]).bind fun x33=>
   (rX N t height jN x13 m) (a1K.wrap (x17+1)) x33
  else
   some aO
def zA (N:Nat)(t:aB)(height:Int)(jN:Bool):Option (List aA):=
 (aNB N t).bind fun x13=>
 (bM 32 x13).bind fun q=>
 (rX N t height jN x13 N 0 []).bind fun p2=>
 zY N p2
def aCH (N:Nat)(aC:aK)(bK:Int)(bJ:List aA)(bZ:Int)(l1:List (aD×aA)):Option (Int×(List (aD×aA))):=
 some (0,l1)
def qA (N:Nat)(aC:aK)(bK:Int)(bJ:List aA)(bZ:Int)(x17:(List aA)):Nat→Int→(List (aD×aA))→Option (LR ((List (aD×aA))) (Int×(List (aD×aA))))
 |0,_,_=>none
 |m+1,x19,bL=>
  if decide (x19<(x17.length:Int)) then
   (aW x17 x19).bind fun x21=>
   if tW iW bL x21.Out then
    some (.ret (91,bL))
   else
    (qA N aC bK bJ bZ x17 m) (a1K.wrap (x19+1)) (aAa iW bL x21.Out x21)
  else
   some (.brk bL)
def uO (N:Nat)(aC:aK)(bK:Int)(bY:List (aD×aA))(bJ:List aA)(bZ:Int)(t:aB)(jN:Bool):Option (Int×(List (aD×aA))):=
 (zA N t bK jN).bind fun x17=>
 (qA N aC bK bJ bZ x17 N 0 bY).bind fun q=>match q with
  | .ret v=>some v
  | .brk p2=>
   aCH N aC bK bJ bZ p2
def rW (N:Nat)(p:aK)(height:Int)(x11:Bool):Option Int:=
 if x11 then
  some 0
 else
  (quo .i64 height p.Halving).bind fun x17=>
  (shr .i64 p.Subsidy x17).bind fun x18=>
  some x18
def oL (N:Nat)(p:aK)(height:Int):Option Int:=
 (oA N p).bind fun x6=>
 if !x6 then
  rW N p height true
 else
  rW N p height (decide (height<0))
def qT (N:Nat)(va b:aA):Option Int:=
 (aCy N va.Out b.Out).bind fun x9=>
 some x9
def nL (N:Nat)(aC:aK)(bK:Int)(bY:List (aD×aA))(bJ:List aA)(bZ:Int):Option ((List aA)):=if∀e∈bY,e.2.Output.Script.length≤100000 then lY (bY.map Prod.snd)else none
def zX (N:Nat)(p:aK)(l:aF)(b:aJ)(c4:Int)(eE:List (aD×aA))(l6:List aA)(aOy:Int):Option (aF×bH×Int):=
 (oL N p (a1K.wrap (l.Height+1))).bind fun aLo=>
 if decide ((a1K.wrap (aLo+c4))<aOy) then
  some ((aF.mk 0 (a1N 32 0) []),bH.mk [],231)
 else
  (nL N p (a1K.wrap (l.Height+1)) eE l6 c4).bind fun aFT=>
  (pJ N aFT).bind fun aYg=>
  if !aYg.2 then
   some ((aF.mk 0 (a1N 32 0) []),bH.mk [],90)
  else
   if decide (100000<(aFT.length:Int)) then
    some ((aF.mk 0 (a1N 32 0) []),bH.mk [],4)
   else
    (aCa N b.Header).bind fun aMP=>
    (bM 32 aMP).bind fun q=>
    some ((aF.mk (a1K.wrap (l.Height+1)) aMP aFT),bH.mk l6,0)
def iR (N:Nat)(p:aK)(l:aF)(b:aJ)(c4:Int)(eE:List (aD×aA))(l6:List aA)(x85:aB):Nat→Int→Int→Option Int
 |0,_,_=>none
 |m+1,made_1,x89=>
  if decide (x89<(x85.Outputs.length:Int)) then
   (aW x85.Outputs x89).bind fun x91=>
   (iR N p l b c4 eE l6 x85 m) (a1K.wrap (made_1+x91.Value)) (a1K.wrap (x89+1))
  else
   some made_1
def sC (N:Nat)(p:aK)(l:aF)(b:aJ)(c4:Int)(eE:List (aD×aA))(l6:List aA):Option (aF×bH×Int):=
 (aW b.Txs 0).bind fun x85=>
 (iR N p l b c4 eE l6 x85 N 0 0).bind fun p4=>
 zX N p l b c4 eE l6 p4
def nM (N:Nat)(p:aK)(l:aF)(b:aJ)(x57:Int)(x60:aB)(rec:Int→Int→(List (aD×aA))→(List aA)→Option (LR (Int×(List (aD×aA))×(List aA)) (aF×bH×Int)))(aHR:Int)(aSK:List (aD×aA))(l7:List aA):Option (LR (Int×(List (aD×aA))×(List aA)) (aF×bH×Int)):=
 (uO N p (a1K.wrap (l.Height+1)) aSK l7 aHR x60 (x57 == 0)).bind fun x76=>
 if x76.1 != 0 then
  some (.ret ((aF.mk 0 (a1N 32 0) []),bH.mk [],x76.1))
 else
  rec (a1K.wrap (x57+1)) aHR x76.2 l7
def iQ (N:Nat)(p:aK)(l:aF)(b:aJ):Nat→Int→Int→(List (aD×aA))→(List aA)→Option (LR (Int×(List (aD×aA))×(List aA)) (aF×bH×Int))
 |0,_,_,_,_=>none
 |m+1,x57,aEt,aA7,l6_1=>
  if decide (x57<(b.Txs.length:Int)) then
   (aW b.Txs x57).bind fun x60=>
   if decide (0<x57) then
    (t6 N p (a1K.wrap (l.Height+1)) aA7 l6_1 aEt x60).bind fun x66=>
    if x66.1 != 0 then
     some (.ret ((aF.mk 0 (a1N 32 0) []),bH.mk [],x66.1))
    else
     nM N p l b x57 x60 (iQ N p l b m) x66.2.2.2 x66.2.1 x66.2.2.1
   else
    nM N p l b x57 x60 (iQ N p l b m) aEt aA7 l6_1
  else
   some (.brk (aEt,aA7,l6_1))
def zU (N:Nat)(p:aK)(l:aF)(b:aJ)(l5:List (aD×aA)):Option (aF×bH×Int):=
 (iQ N p l b N 0 0 l5 []).bind fun q=>match q with
  | .ret v=>some v
  | .brk p5=>
   sC N p l b p5.1 p5.2.1 p5.2.2
def nJ (N:Nat)(p:aK)(l:aF)(b:aJ):Nat→Int→(List (aD×aA))→Option (List (aD×aA))
 |0,_,_=>none
 |m+1,x42,l5_3=>
  if decide (x42<(l.Coins.length:Int)) then
   (aW l.Coins x42).bind fun x44=>
   (nJ N p l b m) (a1K.wrap (x42+1)) (aAa iW l5_3 x44.Out x44)
  else
   some l5_3
def sN (N:Nat)(p:aK)(l:aF)(b:aJ):Option (aF×bH×Int):=
 (aAj N p l b).bind fun x26=>
 if x26 != 0 then
  some ((aF.mk 0 (a1N 32 0) []),bH.mk [],x26)
 else
  (nJ N p l b N 0 []).bind fun p7=>
  zU N p l b p7
def aKc (N:Nat)(l:List aJ)(c1:Int)(aCV:List Int)(aS7:List aA)(l2:List bH):Option (aF×(List bH)×Int×Int):=
 some ((aF.mk c1 aCV aS7),l2,(l.length:Int),0)
def aJW (N:Nat)(p:aK)(l:List aJ):Nat→Int→Int→(List Int)→(List aA)→(List bH)→Option (Int×(List Int)×(List aA)×(List bH))
 |0,_,_,_,_,_=>none
 |m+1,x27,c2,c2_1,c2_2,l3=>
  if decide (x27<(l.length:Int)) then
   (aW l x27).bind fun x30=>
   (sN N p (aF.mk c2 c2_1 c2_2) x30).bind fun x36=>
   if x36.2.2 != 0 then
    none
   else
    (b6 24 l3 [x36.2.1]).bind fun x50=>
    (aJW N p l m) (a1K.wrap (x27+1)) x36.1.Height x36.1.Tip x36.1.Coins x50
  else
   some (c2,c2_1,c2_2,l3)
def aFC (N:Nat)(p:aK)(l:List aJ):Option (aF×(List bH)×Int×Int):=
 (aKK N p).bind fun x18=>
 if x18.2 != 0 then
  none
 else
  (aJW N p l N 0 x18.1.Height x18.1.Tip x18.1.Coins []).bind fun p2=>
  aKc N l p2.1 p2.2.1 p2.2.2.1 p2.2.2.2
def aKV (N:Nat)(l0:List aA):Option (List aA):=
 some l0
def aKH (N:Nat)(l:aF)(l1:List (ByteArray×Bool)):Nat→Int→(List aA)→Option (List aA)
 |0,_,_=>none
 |m+1,x25,bL=>
  if decide (x25<(l.Coins.length:Int)) then
   (aW l.Coins x25).bind fun x27=>
   if(pC aP5 l1 (iL x27.Output.Script) false) then
    (jI N x27).bind fun x37=>
    (b6 88 bL [x37]).bind fun x39=>
    (aKH N l l1 m) (a1K.wrap (x25+1)) x39
   else
    none
  else
   some bL
def aKp (N:Nat)(l:aF)(l1:List (ByteArray×Bool)):Option (List aA):=
 (aKH N l l1 N 0 []).bind fun p3=>
 aKV N p3
def aK7 (N:Nat)(l:aF)(vD:List (List Int)):Nat→Int→(List (ByteArray×Bool))→Option (List (ByteArray×Bool))
 |0,_,_=>none
 |m+1,x14,cL=>
  if decide (x14<(vD.length:Int)) then
   (aW vD x14).bind fun x16=>
   (aK7 N l vD m) (a1K.wrap (x14+1)) (aAa aP5 cL (iL x16) true)
  else
   some cL
def aHj (N:Nat)(l:aF)(vD:List (List Int)):Option (List aA):=
 (aK7 N l vD N 0 []).bind fun p4=>
 aKp N l p4
def zO (N:Nat)(l:List aA):Option Int:=
 if decide (100000<(l.length:Int)) then
  some 0
 else
  (pJ N l).bind fun x10=>
  some x10.1
def yM (N:Nat):Option Bool:=
 (zN N 0 [0]).bind fun x8=>
 (aFC N x8.Params x8.Blocks).bind fun x14=>
 (nZ N 0).bind fun x20=>
 (aHj N x14.1 [x20]).bind fun x22=>
 if x14.2.2.2 == 0 then
  if x14.2.2.1 == 1 then
   if(x14.2.1.length:Int) == 1 then
    if(x22.length:Int) == 1 then
     (aW x22 0).bind fun x41=>
     if x41.Coinbase then
      (zO N x22).bind fun x47=>
      some (x47 == 1000)
     else
      none
    else
     none
   else
    none
  else
   none
 else
  none
def aKU (N:Nat)(l:List Int)(vn:Int):Option (List Int):=
 (sub l 0 (if vn<(l.length:Int)then vn else(l.length:Int))).bind fun x10=>
 some x10
def aDK (N:Nat)(v:Int)(mP:List Int):Option aR:=
 (aKU N mP 8).bind fun x7=>
 (zN N v x7).bind fun x8=>
 some x8
def fs0 :List aB→List (Bool×aB)
 | []=>[]
 |t::ts=>(true,t)::ts.map (Prod.mk false)
def tA :List (Bool×aB)→List aB→List aB
 |(true,u)::_,_::ts=>u::ts
 |_,l=>l
def aLr (t:aB)(f:aT→aT):Option aB:=(aW t.Inputs 0).bind fun p=>some (aB.mk t.Version (t.Inputs.set (a1Q 0) (f p)) t.Outputs t.Lock)
def aJM (t:aB)(f:aI→aI):Option aB:=(aW t.Outputs 0).bind fun o=>some (aB.mk t.Version t.Inputs (t.Outputs.set (a1Q 0) (f o)) t.Lock)
def aLN (vw:aR)(l:List (Bool×aB))(x:Int)(t:aB)(what vj:Int):Option (List (Bool×aB)):=
 if a1O what 10 == 0 then
  (aJM t fun o=>aI.mk (a1K.wrap (o.Value+(a1K.wrap ((a1K.wrap (a1O vj 9))-4)))) o.Script).bind fun u=>some (l.set x.toNat (false,u))
 else if a1O what 10 == 1 then
  (aLr t fun p=>aT.mk p.Prev p.Sequence [[vj]]).bind fun u=>some (l.set x.toNat (false,u))
 else if a1O what 10 == 2 then
  (aLr t fun p=>aT.mk p.Prev (a1M.wrap (p.Sequence+(a1M.wrap vj))) p.Witness).bind fun u=>some (l.set x.toNat (false,u))
 else if a1O what 10 == 3 then
  some (l.set x.toNat (false,aB.mk t.Version t.Inputs t.Outputs (a1M.wrap vj)))
 else if a1O what 10 == 4 then
  (aW l 0).bind fun e=>(aJM e.2 fun o=>aI.mk (a1K.wrap (o.Value+(a1K.wrap vj))) o.Script).bind fun u=>some (l.set (a1Q 0) (e.1,u))
 else if a1O what 10 == 5 then
  (aW vw.Ledgers (a1K.wrap ((vw.Ledgers.length:Int)-1))).bind fun g=>
  if decide (0<x) then
   if decide (0<(g.Coins.length:Int)) then
    (rem (a1K.wrap vj) (g.Coins.length:Int)).bind fun y=>
    (aW g.Coins y).bind fun c=>
    (bM 32 c.Out.Tx).bind fun _=>
    (aLr t fun p=>aT.mk c.Out p.Sequence p.Witness).bind fun u=>some (l.set x.toNat (false,u))
   else some l
  else some l
 else if a1O what 10 == 7 then
  sub l 0 (a1K.wrap (x+1))
 else if a1O what 10 == 8 then
  (aW l (a1K.wrap ((l.length:Int)-1))).bind fun z=>some ((l.set x.toNat z).set (a1K.wrap ((l.length:Int)-1)).toNat (false,t))
 else some l
def aNz (b:aJ)(what vj:Int):Option (List Int):=
 if a1O what 10 == 6 then
  (bM 32 b.Header.Prev).bind fun _=>
  (cC 32 b.Header.Prev 0).bind fun y=>some (b.Header.Prev.set (a1Q 0) (a1P.wrap (y+vj)))
 else some b.Header.Prev
def oP (N:Nat)(vw:aR)(b:aJ)(what vi vj:Int):Option (aJ×aJ×List (Bool×aB)):=
 (b6 64 [] (fs0 b.Txs)).bind fun l=>
 (rem (a1K.wrap vi) (l.length:Int)).bind fun x=>
 (aW l x).bind fun e=>
 (b6 32 [] e.2.Outputs).bind fun _=>
 (b6 64 [] e.2.Inputs).bind fun _=>
 (aLN vw (l.set x.toNat (false,e.2)) x e.2 what vj).bind fun m=>
 (aNz b what vj).bind fun p=>
 (qQ N (m.map Prod.snd)).bind fun r=>
 (bM 32 r).bind fun _=>
 some (aJ.mk b.Header (tA m b.Txs),aJ.mk (bV.mk b.Header.Version p r b.Header.Time b.Header.Bits b.Header.Nonce) (m.map Prod.snd),m)
def uD (N:Nat)(x4:Bool):Option Bool:=
 some x4
def aEH (N:Nat)(va b:aI):Option Bool:=
 if va.Value == b.Value then
  (q9 N va.Script b.Script).bind fun x15=>
  uD N x15
 else
  uD N false
def kT (N:Nat)(x4:Bool):Option Bool:=
 some x4
def yO (N:Nat)(va b:aA):Option Bool:=
 if(iU va.Out.Tx b.Out.Tx ((va.Out.Index == b.Out.Index)&&true)) then
  (aEH N va.Output b.Output).bind fun x15=>
  if x15 then
   if va.Height == b.Height then
    kT N (va.Coinbase == b.Coinbase)
   else
    kT N false
  else
   kT N false
 else
  kT N false
def xT (N:Nat):Option Bool:=
 some true
def j8 (N:Nat)(va b:List aA):Nat→Int→Option (LR (Unit) (Bool))
 |0,_=>none
 |m+1,x13=>
  if decide (x13<(va.length:Int)) then
   (aW va x13).bind fun x18=>
   (aW b x13).bind fun x22=>
   (yO N x18 x22).bind fun x24=>
   if !x24 then
    some (.ret false)
   else
    (j8 N va b m) (a1K.wrap (x13+1))
  else
   some (.brk ())
def qP (N:Nat)(va b:List aA):Option Bool:=
 if(va.length:Int) != (b.length:Int) then
  some false
 else
  (j8 N va b N 0).bind fun q=>match q with
   | .ret v=>some v
   | .brk p2=>
    xT N
def u0 (N:Nat)(x4:Bool):Option Bool:=
 some x4
def aFs (N:Nat)(va b:aF):Option Bool:=
 if va.Height == b.Height then
  (bM 32 va.Tip).bind fun q=>
  (bM 32 b.Tip).bind fun q_1=>
  if va.Tip == b.Tip then
   (qP N va.Coins b.Coins).bind fun x22=>
   u0 N x22
  else
   u0 N false
 else
  u0 N false
def qE (N:Nat):Option Bool:=
 some true
def fR (N:Nat)(x28:aR)(x35:aF)(x49 x56:aJ)(x59:Int)(rec:Int→Option (LR (Unit) (Bool)))(x97:Bool):Option (LR (Unit) (Bool)):=
 if x97 then
  some (.ret false)
 else
  rec (a1K.wrap (x59+1))
def cO (N:Nat)(x28:aR)(x35:aF)(x49 x56:aJ):Nat→Int→Option (LR (Unit) (Bool))
 |0,_=>none
 |m+1,x59=>
  if decide (x59<(2:Int)) then
   (aW [x49,x56] x59).bind fun x61=>
   (sN N x28.Params x35 x61).bind fun x68=>
   (qL N x28.Params x35 x61).bind fun x77=>
   if x68.2.2 != x77.2.2 then
    fR N x28 x35 x49 x56 x59 (cO N x28 x35 x49 x56 m) true
   else
    (aFs N x68.1 x77.1).bind fun x87=>
    if !x87 then
     fR N x28 x35 x49 x56 x59 (cO N x28 x35 x49 x56 m) true
    else
     (qP N x68.2.1.Spent x77.2.1.Spent).bind fun x95=>
     fR N x28 x35 x49 x56 x59 (cO N x28 x35 x49 x56 m) (!x95)
  else
   some (.brk ())
def kQ (N:Nat)(v:Int)(mP:List Int)(vs what vi vj:Int):Option Bool:=
 (yM N).bind fun x24=>
 if !x24 then
  some false
 else
  (aDK N v mP).bind fun x28=>
  (aW x28.Ledgers (a1K.wrap ((x28.Ledgers.length:Int)-1))).bind fun x35=>
  (aW x28.Contexts (a1K.wrap ((x28.Contexts.length:Int)-1))).bind fun x46=>
  (tT N x28.Params x35 x46 vs).bind fun x49=>
  (oP N x28 x49 what vi vj).bind fun x56=>
  (cO N x28 x35 x56.1 x56.2.1 N 0).bind fun q=>match q with
   | .ret v=>some v
   | .brk p2=>
    qE N
end Go.Proofs.YtopdhljncajmpaaGreatDoor
namespace Go.Vm
open Go Go.ChangeShapes Go.WideShapes Go.ChangeAt Go.RowKit
end Go.Vm
namespace Go.Proofs.YtopdhljncajmpaaGreatDoor
open Go Go.Vm
open Go.ChangeShapes Go.WideShapes Go.ChangeAt Go.RowKit
end Go.Proofs.YtopdhljncajmpaaGreatDoor
