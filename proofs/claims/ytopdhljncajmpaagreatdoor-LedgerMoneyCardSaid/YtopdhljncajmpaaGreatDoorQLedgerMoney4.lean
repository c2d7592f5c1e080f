/- Texts of ours, joined: Sh, OpenArr, OpenS. -/
import Derived.Test.YtopdhljncajmpaaGreatDoorQLedgerMoney2
import Derived.Test.YtopdhljncajmpaaGreatDoorQLedgerMoney3
import Derived.OpenShut
open Go.IntKind renaming i64 → a0F,u64 → a0G,u32 → a0H,u8 → a0J,max → a0N
open List renaming replicate → a0I
open Int renaming toNat → a0K,tmod → a0L,tdiv → a0M
set_option linter.unusedVariables false
set_option linter.unusedSimpArgs false
set_option maxRecDepth 20000
set_option maxHeartbeats 8000000
namespace Go.Proofs.YtopdhljncajmpaaGreatDoor
open Go Go.Vm
structure bW where
 Version:Int
 Prev:List Int
 Root:List Int
 Time:Int
 Bits:Int
 Nonce:Int
abbrev sB (x:bW):List V:=((eI .u32 x.Version)::(aL (eI .u8) x.Prev (aL (eI .u8) x.Root [eI .u32 x.Time,eI .u32 x.Bits,eI .u32 x.Nonce])))
abbrev oQ (x:bW):V:= .agg (sB x)
@[simp] theorem aLQ {f:Nat→Nat}(l:List bW):V.rns f (l.flatMap sB)=l.flatMap sB:=cZ (fun _=>rfl) l
@[simp] theorem aLN {f:Nat→Nat}(x:bW):V.rns f (sB x)=sB x:=rfl
structure oV where
 Height:Int
 Hash:List Int
abbrev oW (x:oV):List V:=((eI .i64 x.Height)::(aL (eI .u8) x.Hash []))
abbrev aW (x:oV):V:= .agg (oW x)
@[simp] theorem aIg {f:Nat→Nat}(l:List oV):V.rns f (l.flatMap oW)=l.flatMap oW:=cZ (fun _=>rfl) l
@[simp] theorem aIh {f:Nat→Nat}(x:oV):V.rns f (oW x)=oW x:=rfl
structure aI where
 Genesis:bW
 Limit:List Int
 Window:Int
 Spacing:Int
 Future:Int
 Version:Int
 Checkpoints:List oV
 Subsidy:Int
 Halving:Int
 Maturity:Int
abbrev bE (x:aI):List V:=((eI .u32 x.Genesis.Version)::(aL (eI .u8) x.Genesis.Prev (aL (eI .u8) x.Genesis.Root ((eI .u32 x.Genesis.Time)::((eI .u32 x.Genesis.Bits)::((eI .u32 x.Genesis.Nonce)::(dU (eI .u64) x.Limit [eI .i64 x.Window,eI .u32 x.Spacing,eI .u32 x.Future,eI .u32 x.Version,.row none 33 (x.Checkpoints.map aW),eI .i64 x.Subsidy,eI .i64 x.Halving,eI .i64 x.Maturity])))))))
abbrev cT (x:aI):V:= .agg (bE x)
@[simp] theorem aMa {f:Nat→Nat}(l:List aI):V.rns f (l.flatMap bE)=l.flatMap bE:=cZ (fun _=>rfl) l
@[simp] theorem aMh {f:Nat→Nat}(x:aI):V.rns f (bE x)=bE x:=rfl
structure aC where
 Tx:List Int
 Index:Int
abbrev cA (x:aC):List V:=(aL (eI .u8) x.Tx [eI .u32 x.Index])
abbrev cR (x:aC):V:= .agg (cA x)
@[simp] theorem aKT {f:Nat→Nat}(l:List aC):V.rns f (l.flatMap cA)=l.flatMap cA:=cZ (fun _=>rfl) l
@[simp] theorem aK1 {f:Nat→Nat}(x:aC):V.rns f (cA x)=cA x:=rfl
structure aQ where
 Value:Int
 Script:List Int
abbrev cK (x:aQ):List V:=[eI .i64 x.Value,.row none 1 (x.Script.map (eI .u8))]
abbrev cH (x:aQ):V:= .agg (cK x)
@[simp] theorem aMm {f:Nat→Nat}(l:List aQ):V.rns f (l.flatMap cK)=l.flatMap cK:=cZ (fun _=>rfl) l
@[simp] theorem aLT {f:Nat→Nat}(x:aQ):V.rns f (cK x)=cK x:=rfl
structure aA where
 Out:aC
 Output:aQ
 Height:Int
 Coinbase:Bool
abbrev aH (x:aA):List V:=(aL (eI .u8) x.Out.Tx [eI .u32 x.Out.Index,eI .i64 x.Output.Value,.row none 1 (x.Output.Script.map (eI .u8)),eI .i64 x.Height,eB x.Coinbase])
abbrev aM (x:aA):V:= .agg (aH x)
@[simp] theorem aNU {f:Nat→Nat}(l:List aA):V.rns f (l.flatMap aH)=l.flatMap aH:=cZ (fun _=>rfl) l
@[simp] theorem aNC {f:Nat→Nat}(x:aA):V.rns f (aH x)=aH x:=rfl
structure aF where
 Height:Int
 Tip:List Int
 Coins:List aA
abbrev bI (x:aF):List V:=((eI .i64 x.Height)::(aL (eI .u8) x.Tip [.row none 37 (x.Coins.map aM)]))
abbrev eE (x:aF):V:= .agg (bI x)
@[simp] theorem aMl {f:Nat→Nat}(l:List aF):V.rns f (l.flatMap bI)=l.flatMap bI:=cZ (fun _=>rfl) l
@[simp] theorem aLM {f:Nat→Nat}(x:aF):V.rns f (bI x)=bI x:=rfl
structure aV where
 Height:Int
 Hash:List Int
 Bits:Int
 First:Int
 Times:List Int
abbrev b9 (x:aV):List V:=((eI .i64 x.Height)::(aL (eI .u8) x.Hash [eI .u32 x.Bits,eI .u32 x.First,.row none 1 (x.Times.map (eI .u32))]))
abbrev hP (x:aV):V:= .agg (b9 x)
@[simp] theorem aLj {f:Nat→Nat}(l:List aV):V.rns f (l.flatMap b9)=l.flatMap b9:=cZ (fun _=>rfl) l
@[simp] theorem aLi {f:Nat→Nat}(x:aV):V.rns f (b9 x)=b9 x:=rfl
structure bL where
 Prev:aC
 Sequence:Int
 Witness:List (List Int)
abbrev fJ (x:bL):List V:=(aL (eI .u8) x.Prev.Tx [eI .u32 x.Prev.Index,eI .u32 x.Sequence,.row none 1 (x.Witness.map (eL 1 (eI .u8)))])
abbrev bU (x:bL):V:= .agg (fJ x)
@[simp] theorem aMt {f:Nat→Nat}(l:List bL):V.rns f (l.flatMap fJ)=l.flatMap fJ:=cZ (fun _=>rfl) l
@[simp] theorem aMG {f:Nat→Nat}(x:bL):V.rns f (fJ x)=fJ x:=rfl
structure aD where
 Version:Int
 Inputs:List bL
 Outputs:List aQ
 Lock:Int
abbrev aR (x:aD):List V:=[eI .u32 x.Version,.row none 35 (x.Inputs.map bU),.row none 2 (x.Outputs.map cH),eI .u32 x.Lock]
abbrev aY (x:aD):V:= .agg (aR x)
@[simp] theorem aQH {f:Nat→Nat}(l:List aD):V.rns f (l.flatMap aR)=l.flatMap aR:=cZ (fun _=>rfl) l
@[simp] theorem aQw {f:Nat→Nat}(x:aD):V.rns f (aR x)=aR x:=rfl
structure aO where
 Header:bW
 Txs:List aD
abbrev bK (x:aO):List V:=((eI .u32 x.Header.Version)::(aL (eI .u8) x.Header.Prev (aL (eI .u8) x.Header.Root [eI .u32 x.Header.Time,eI .u32 x.Header.Bits,eI .u32 x.Header.Nonce,.row none 4 (x.Txs.map aY)])))
abbrev dZ (x:aO):V:= .agg (bK x)
@[simp] theorem aMI {f:Nat→Nat}(l:List aO):V.rns f (l.flatMap bK)=l.flatMap bK:=cZ (fun _=>rfl) l
@[simp] theorem aMu {f:Nat→Nat}(x:aO):V.rns f (bK x)=bK x:=rfl
structure bC where
 Spent:List aA
abbrev dD (x:bC):List V:=[.row none 37 (x.Spent.map aM)]
abbrev aIW (x:bC):V:= .agg (dD x)
@[simp] theorem aNW {f:Nat→Nat}(l:List bC):V.rns f (l.flatMap dD)=l.flatMap dD:=cZ (fun _=>rfl) l
@[simp] theorem aNw {f:Nat→Nat}(x:bC):V.rns f (dD x)=dD x:=rfl
structure aS where
 Params:aI
 Blocks:List aO
 Ledgers:List aF
 Contexts:List aV
 Undos:List bC
abbrev eU (x:aS):List V:=((eI .u32 x.Params.Genesis.Version)::(aL (eI .u8) x.Params.Genesis.Prev (aL (eI .u8) x.Params.Genesis.Root ((eI .u32 x.Params.Genesis.Time)::((eI .u32 x.Params.Genesis.Bits)::((eI .u32 x.Params.Genesis.Nonce)::(dU (eI .u64) x.Params.Limit [eI .i64 x.Params.Window,eI .u32 x.Params.Spacing,eI .u32 x.Params.Future,eI .u32 x.Params.Version,.row none 33 (x.Params.Checkpoints.map aW),eI .i64 x.Params.Subsidy,eI .i64 x.Params.Halving,eI .i64 x.Params.Maturity,.row none 69 (x.Blocks.map dZ),.row none 34 (x.Ledgers.map eE),.row none 36 (x.Contexts.map hP),.row none 1 (x.Undos.map aIW)])))))))
abbrev iJ (x:aS):V:= .agg (eU x)
@[simp] theorem aDP {f:Nat→Nat}(l:List aS):V.rns f (l.flatMap eU)=l.flatMap eU:=cZ (fun _=>rfl) l
@[simp] theorem aDV {f:Nat→Nat}(x:aS):V.rns f (eU x)=eU x:=rfl
structure cG where
 Code:Int
 Data:List Int
 M:Int
 N:Int
abbrev eT (x:cG):List V:=[eI .i64 x.Code,.row none 1 (x.Data.map (eI .u8)),eI .i64 x.M,eI .i64 x.N]
abbrev kA (x:cG):V:= .agg (eT x)
@[simp] theorem aQy {f:Nat→Nat}(l:List cG):V.rns f (l.flatMap eT)=l.flatMap eT:=cZ (fun _=>rfl) l
@[simp] theorem aPW {f:Nat→Nat}(x:cG):V.rns f (eT x)=eT x:=rfl
structure g7 where
 reached:Bool
 done:Bool
abbrev hJ (x:g7):List V:=[eB x.reached,eB x.done]
abbrev aF5 (x:g7):V:= .agg (hJ x)
@[simp] theorem aDl {f:Nat→Nat}(l:List g7):V.rns f (l.flatMap hJ)=l.flatMap hJ:=cZ (fun _=>rfl) l
@[simp] theorem aCQ {f:Nat→Nat}(x:g7):V.rns f (hJ x)=hJ x:=rfl
structure aBP where
 E:List Int
 S:List Int
abbrev vT (x:aBP):List V:=(dU (eI .u64) x.E (dU (eI .u64) x.S []))
@[simp] theorem aJO {f:Nat→Nat}(l:List aBP):V.rns f (l.flatMap vT)=l.flatMap vT:=cZ (fun _=>rfl) l
@[simp] theorem aJP {f:Nat→Nat}(x:aBP):V.rns f (vT x)=vT x:=rfl
structure cC where
 Message:List Int
 Height:Int
 Age:Int
abbrev aAZ (x:cC):List V:=(aL (eI .u8) x.Message [eI .i64 x.Height,eI .i64 x.Age])
abbrev aDW (x:cC):V:= .agg (aAZ x)
@[simp] theorem aO1 {f:Nat→Nat}(l:List cC):V.rns f (l.flatMap aAZ)=l.flatMap aAZ:=cZ (fun _=>rfl) l
@[simp] theorem aOZ {f:Nat→Nat}(x:cC):V.rns f (aAZ x)=aAZ x:=rfl
abbrev aGL (e:aC×Bool):List V:=cA e.1++[eB e.2]
def tG (a b:aC):Bool:=(jS a.Tx b.Tx ((a.Index == b.Index)&&true))
@[simp] theorem aTP {f:Nat→Nat}(l:List (aC×Bool)):V.rns f (l.flatMap aGL)=l.flatMap aGL:=cZ (fun _=>rfl) l
abbrev aEQ (e:(List Int)×Int):List V:=(dN (eI .u8)) e.1++[(eI .i64) e.2]
def yE (a b:List Int):Bool:=(jS a b true)
@[simp] theorem aTR {f:Nat→Nat}(l:List (List Int×Int)):V.rns f (l.flatMap aEQ)=l.flatMap aEQ:=cZ (fun _=>rfl) l
structure dE where
 outer:Bool
 taken:Bool
abbrev cE (x:dE):List V:=[eB x.outer,eB x.taken]
@[simp] theorem aJN {f:Nat→Nat}(l:List dE):V.rns f (l.flatMap cE)=l.flatMap cE:=cZ (fun _=>rfl) l
@[simp] theorem aJQ {f:Nat→Nat}(x:dE):V.rns f (cE x)=cE x:=rfl
abbrev fD (e:aC×aA):List V:=cA e.1++aH e.2
def iF (a b:aC):Bool:=(jS a.Tx b.Tx ((a.Index == b.Index)&&true))
@[simp] theorem aTz {f:Nat→Nat}(l:List (aC×aA)):V.rns f (l.flatMap fD)=l.flatMap fD:=cZ (fun _=>rfl) l
abbrev aLe (e:ByteArray×Bool):List V:=[eS e.1]++[eB e.2]
def aPr (a b:ByteArray):Bool:=a == b
@[simp] theorem aTm {f:Nat→Nat}(l:List (ByteArray×Bool)):V.rns f (l.flatMap aLe)=l.flatMap aLe:=cZ (fun _=>rfl) l
def iB :List Int→List Int→Int
 |a::l,b::m=>if a<b then -1 else if b<a then 1 else iB l m
 |_,_=>0
def aNG (o:aC):List Int:=o.Tx++[o.Index]
def eQ (a b:aC):Int:=iB (aNG a) (aNG b)
def kJ (c:aA):List aA→List aA
 | []=>[c]
 |d::ds=>if eQ d.Out c.Out<0 then d::kJ c ds else c::d::ds
def aIZ (o:aC):Bool:=decide (o.Tx.length=32)&&o.Tx.all fun x=>decide (0≤x∧x<256)
def nO (l:List aA):Option (List aA):=if l.length≤100000∧(∀c∈l,aIZ c.Out=true)∧l.Pairwise (fun a b=>eQ a.Out b.Out≠0)then some (l.foldr kJ [])else none
def aOc (N:Nat)(va:List Int):Option (List Int):=
 (cB 4 va 0).bind fun x3=>
 (cB 4 va 1).bind fun x6=>
 (cB 4 va 2).bind fun x9=>
 (cB 4 va 3).bind fun x12=>
 some [bits .xor .u64 (a0N .u64) x3,bits .xor .u64 (a0N .u64) x6,bits .xor .u64 (a0N .u64) x9,bits .xor .u64 (a0N .u64) x12]
def sW (N:Nat)(va:List Int)(vi:Int):Option Bool:=
 (cB 4 va (a0F.wrap (a0M vi 64))).bind fun x7=>
 (shr .u64 x7 (a0L vi 64)).bind fun x11=>
 some ((bits .and .u64 x11 1) == 1)
def aFW (N:Nat)(l1:List Int):Option (List Int):=
 (bM 4 l1).bind fun q_1=>
 some l1
def aBe (N:Nat)(va:List Int)(vn vi:Int)(rec:Int→(List Int)→Option (List Int))(eZ:List Int):Option (List Int):=
 rec (a0F.wrap (vi+1)) eZ
def oU (N:Nat)(va:List Int)(vn:Int):Nat→Int→(List Int)→Option (List Int)
 |0,_,_=>none
 |m+1,vi,l2=>
  if decide ((a0F.wrap (vi+vn))<256) then
   (bM 4 va).bind fun q_2=>
   (sW N va (a0F.wrap (vi+vn))).bind fun x23=>
   if x23 then
    (cB 4 l2 (a0F.wrap (a0M vi 64))).bind fun x26=>
    (shl .u64 1 (a0L vi 64)).bind fun x30=>
    aBe N va vn vi (oU N va vn m) (l2.set (a0K (a0F.wrap (a0M vi 64))) (bits .or .u64 x26 x30))
   else
    aBe N va vn vi (oU N va vn m) l2
  else
   some l2
def sV (N:Nat)(va:List Int)(vn:Int):Option (List Int):=
 if decide (vn≤0) then
  (bM 4 va).bind fun q=>
  some va
 else
  if decide (256≤vn) then
   some [0,0,0,0]
  else
   (oU N va vn N 0 (a0I 4 0)).bind fun p2=>
   aFW N p2
def aDy (N:Nat)(v:Int):Option aI:=
 (aOc N [0,0,0,0]).bind fun x8=>
 (sV N x8 1).bind fun x9=>
 (bM 4 x9).bind fun q=>
 some (aI.mk (bW.mk 1 (a0I 32 0) (a0I 32 0) (a0H.wrap (1000+(a0H.wrap v))) 545259519 0) x9 (a0F.wrap (3+(a0F.wrap (a0L v 5)))) 5 600 1 [] 1000 (a0F.wrap (4+(a0F.wrap (a0L v 3)))) (a0F.wrap (a0L v 3)))
def nE (N:Nat)(va:List Int):Option Bool:=
 (bM 4 va).bind fun q=>
 some (va == [0,0,0,0])
def gE (N:Nat)(vn:Int):Option (List Int):=
 some [vn,0,0,0]
def aKU (N:Nat):Option Int:=
 some 0
def w9 (N:Nat)(va:List Int):Nat→Int→Option (LR (Unit) (Int))
 |0,_=>none
 |m+1,vi=>
  if decide (0≤vi) then
   (bM 4 va).bind fun q=>
   (sW N va vi).bind fun x10=>
   if x10 then
    some (.ret (a0F.wrap (vi+1)))
   else
    (w9 N va m) (a0F.wrap (vi-1))
  else
   some (.brk ())
def aDN (N:Nat)(va:List Int):Option Int:=
 (w9 N va N 255).bind fun q=>match q with
  | .ret v=>some v
  | .brk p2=>
   aKU N
def mH (N:Nat)(x y c:Int):Option (Int×Int):=aMw x y c
def aGm (N:Nat)(aEW:Int)(l1:List Int):Option ((List Int)×Bool):=
 (bM 4 l1).bind fun q=>
 some (l1,aEW == 1)
def wP (N:Nat)(va b:List Int):Nat→Int→Int→(List Int)→Option (Int×(List Int))
 |0,_,_,_=>none
 |m+1,carry_1,x9,l3=>
  if decide (x9<4) then
   (cB 4 va x9).bind fun x15=>
   (cB 4 b x9).bind fun x18=>
   (mH N x15 x18 carry_1).bind fun x21=>
   (cB 4 l3 x9).bind fun x24=>
   (wP N va b m) x21.2 (a0F.wrap (x9+1)) (l3.set (a0K x9) x21.1)
  else
   some (carry_1,l3)
def aDK (N:Nat)(va b:List Int):Option ((List Int)×Bool):=
 (wP N va b N 0 0 (a0I 4 0)).bind fun p2=>
 aGm N p2.1 p2.2
def aGb (N:Nat)(l0:List Int):Option (List Int):=
 (bM 4 l0).bind fun q=>
 some l0
def wU (N:Nat):Nat→Int→(List Int)→Option (List Int)
 |0,_,_=>none
 |m+1,vn_1,aK=>
  if decide (0<vn_1) then
   (bM 4 aK).bind fun q_1=>
   (aDK N aK aK).bind fun x15=>
   (bM 4 x15.1).bind fun q_2=>
   (wU N m) (a0F.wrap (vn_1-1)) x15.1
  else
   some aK
def aDH (N:Nat)(va:List Int)(vn:Int):Option (List Int):=
 if decide (256≤vn) then
  some [0,0,0,0]
 else
  (wU N N vn va).bind fun p2=>
  aGb N p2
def qR (N:Nat)(l1:List Int):Option ((List Int)×Int):=
 (bM 4 l1).bind fun q_1=>
 (nE N l1).bind fun x45=>
 if x45 then
  some ([0,0,0,0],120)
 else
  some (l1,0)
def qX (N:Nat)(x8:Int)(x13:(List Int))(x37:Bool):Option ((List Int)×Int):=
 if x37 then
  some ([0,0,0,0],120)
 else
  (aDH N x13 (a0F.wrap (8*(a0F.wrap ((a0F.wrap x8)-3))))).bind fun x43=>
  (bM 4 x43).bind fun q_3=>
  qR N x43
def oD (N:Nat)(kM:Int):Option ((List Int)×Int):=
 (shr .u32 kM 24).bind fun x8=>
 (gE N (a0G.wrap (bits .and .u32 kM 16777215))).bind fun x13=>
 (bM 4 x13).bind fun q=>
 if(bits .and .u32 kM 8388608) != 0 then
  some ([0,0,0,0],120)
 else
  if decide ((a0F.wrap x8)<3) then
   (sV N x13 (a0F.wrap (8*(a0F.wrap (3-(a0F.wrap x8)))))).bind fun x25=>
   (bM 4 x25).bind fun q_2=>
   qR N x25
  else
   (nE N x13).bind fun x27=>
   if !x27 then
    (aDN N x13).bind fun x31=>
    qX N x8 x13 (decide (256<(a0F.wrap (x31+(a0F.wrap (8*(a0F.wrap ((a0F.wrap x8)-3))))))))
   else
    qX N x8 x13 false
def aKd (N:Nat):Option Int:=
 some 0
def xM (N:Nat)(va b:List Int):Nat→Int→Option (LR (Unit) (Int))
 |0,_=>none
 |m+1,vi=>
  if decide (0≤vi) then
   (cB 4 va vi).bind fun x11=>
   (cB 4 b vi).bind fun x14=>
   if decide (x11<x14) then
    some (.ret (-1))
   else
    if decide (x14<x11) then
     some (.ret 1)
    else
     (xM N va b m) (a0F.wrap (vi-1))
  else
   some (.brk ())
def nP (N:Nat)(va b:List Int):Option Int:=
 (xM N va b N 3).bind fun q=>match q with
  | .ret v=>some v
  | .brk p2=>
   aKd N
def aDd (N:Nat)(p:aI):Option Bool:=
 (oD N p.Genesis.Bits).bind fun x95=>
 (bM 4 x95.1).bind fun q_1=>
 if x95.2 == 0 then
  (nP N x95.1 p.Limit).bind fun aKW=>
  some (decide (aKW≤0))
 else
  none
def aDg (N:Nat)(p:aI):Nat→Option Unit
 |0=>none
 |m+1=>
  if decide (0<(p.Checkpoints.length:Int)) then
   none
  else
   some ()
def i5 (N:Nat)(p:aI):Option Bool:=
 (bM 4 p.Limit).bind fun q=>
 (nE N p.Limit).bind fun x9=>
 if x9 then
  none
 else
  if decide (p.Window<1) then
   none
  else
   if decide (4096<p.Window) then
    none
   else
    if decide (p.Spacing<1) then
     none
    else
     if decide (1048576<p.Spacing) then
      none
     else
      if decide (p.Subsidy<0) then
       none
      else
       if decide (2100000000000000<p.Subsidy) then
        none
       else
        if decide (p.Halving<1) then
         none
        else
         if decide (16777216<p.Halving) then
          none
         else
          if decide (p.Maturity<0) then
           none
          else
           if decide (16777216<p.Maturity) then
            none
           else
            (aDg N p N).bind fun p2=>
            aDd N p
def aBT (N:Nat)(l0:List Int):Option (List Int):=
 some l0
def qN (N:Nat)(v:Int)(x8:List Int):Nat→Int→(List Int)→Option (List Int)
 |0,_,_=>none
 |m+1,x11,aK=>
  if decide (x11<(x8.length:Int)) then
   (shr .u64 v (a0F.wrap (8*x11))).bind fun x19=>
   (aZ aK x11).bind fun x21=>
   (qN N v x8 m) (a0F.wrap (x11+1)) (aK.set (a0K x11) (a0J.wrap x19))
  else
   some aK
def kF (N:Nat)(v vn:Int):Option (List Int):=
 (mks 1 0 vn).bind fun x8=>
 (qN N v x8 N 0 x8).bind fun p2=>
 aBT N p2
def eN (N:Nat)(va b:List Int):Option (List Int):=
 (mks 1 0 (a0F.wrap ((va.length:Int)+(b.length:Int)))).bind fun x11=>
 (b5 1 (x11.take 0) va).bind fun x14=>
 (b5 1 x14 b).bind fun x16=>
 some x16
def dV (N:Nat)(b:List Int)(vn:Int):Option (List Int):=
 (kF N (a0G.wrap vn) 4).bind fun x8=>
 (eN N b x8).bind fun x9=>
 some x9
def eX (N:Nat)(b vh:List Int):Option (List Int):=
 (bM 32 vh).bind fun q=>
 (eN N b vh).bind fun x7=>
 some x7
def aA8 (N:Nat)(l0:List Int):Option (List Int):=
 some l0
def mM (N:Nat)(vh:bW):Nat→Int→(List Int)→Option (List Int)
 |0,_,_=>none
 |m+1,x24,aK=>
  if decide (x24<(3:Int)) then
   (aZ [vh.Time,vh.Bits,vh.Nonce] x24).bind fun x26=>
   (dV N aK x26).bind fun x30=>
   (mM N vh m) (a0F.wrap (x24+1)) x30
  else
   some aK
def lT (N:Nat)(vh:bW):Option (List Int):=
 (dV N [] vh.Version).bind fun x8=>
 (bM 32 vh.Prev).bind fun q=>
 (eX N x8 vh.Prev).bind fun x12=>
 (bM 32 vh.Root).bind fun q_1=>
 (eX N x12 vh.Root).bind fun x15=>
 (mM N vh N 0 x15).bind fun p2=>
 aA8 N p2
def aKZ (N:Nat)(aK:List Int):Option (List Int):=
 some aK
def w4 (N:Nat)(vn:Int):Nat→Int→(List Int)→Option (List Int)
 |0,_,_=>none
 |m+1,vi,d9=>
  if decide (0≤vi) then
   (shr .u64 (a0G.wrap (8*vn)) (a0F.wrap (8*vi))).bind fun x26=>
   (b5 1 d9 [a0J.wrap x26]).bind fun x29=>
   (w4 N vn m) (a0F.wrap (vi-1)) x29
  else
   some d9
def aGl (N:Nat)(vn:Int)(l0:List Int):Option (List Int):=
 (w4 N vn N 7 l0).bind fun p3=>
 aKZ N p3
def aBR (N:Nat)(vn:Int):Nat→(List Int)→Option (List Int)
 |0,_=>none
 |m+1,gP=>
  if(a0L (a0G.wrap ((a0G.wrap (vn+(a0G.wrap (gP.length:Int))))+8)) 64) != 0 then
   (b5 1 gP [0]).bind fun x16=>
   (aBR N vn m) x16
  else
   some gP
def aGH (N:Nat)(vn:Int):Option (List Int):=
 (aBR N vn N [128]).bind fun p4=>
 aGl N vn p4
def aAk (N:Nat):Option (List Int):=
 some [1779033703,3144134277,1013904242,2773480762,1359893119,2600822924,528734635,1541459225]
def lO (N:Nat)(x k:Int):Option Int:=
 (shl .u32 x (bits .and .u64 (a0G.wrap k) 31)).bind fun x11=>
 (shr .u32 x (a0G.wrap (32-(bits .and .u64 (a0G.wrap k) 31)))).bind fun x15=>
 some (bits .or .u32 x11 x15)
def jC (N:Nat)(x vn:Int):Option Int:=
 (lO N x (a0F.wrap (0-vn))).bind fun x8=>
 some x8
def zB (N:Nat)(bH:List Int):Option (List Int):=
 (bM 64 bH).bind fun q=>
 some bH
def rN (N:Nat):Nat→Int→(List Int)→Option (List Int)
 |0,_,_=>none
 |m+1,vi,cF=>
  if decide (vi<64) then
   (cB 64 cF (a0F.wrap (vi-15))).bind fun x49=>
   (jC N x49 7).bind fun x51=>
   (jC N x49 18).bind fun x56=>
   (shr .u32 x49 3).bind fun x62=>
   (cB 64 cF (a0F.wrap (vi-2))).bind fun x66=>
   (jC N x66 17).bind fun x68=>
   (jC N x66 19).bind fun x73=>
   (shr .u32 x66 10).bind fun x79=>
   (cB 64 cF (a0F.wrap (vi-16))).bind fun x84=>
   (cB 64 cF (a0F.wrap (vi-7))).bind fun x90=>
   (cB 64 cF vi).bind fun x95=>
   (rN N m) (a0F.wrap (vi+1)) (cF.set (a0K vi) (a0H.wrap ((a0H.wrap ((a0H.wrap (x84+(bits .xor .u32 (bits .xor .u32 x51 x56) x62)))+x90))+(bits .xor .u32 (bits .xor .u32 x68 x73) x79))))
  else
   some cF
def zK (N:Nat)(l1:List Int):Option (List Int):=
 (rN N N 16 l1).bind fun p3=>
 zB N p3
def kP (N:Nat)(block:List Int):Nat→Int→(List Int)→Option (List Int)
 |0,_,_=>none
 |m+1,mT,l2=>
  if decide (mT<16) then
   (cB 64 block (a0F.wrap (4*mT))).bind fun x15=>
   (shl .u32 (a0H.wrap x15) 24).bind fun x18=>
   (cB 64 block (a0F.wrap ((a0F.wrap (4*mT))+1))).bind fun x22=>
   (shl .u32 (a0H.wrap x22) 16).bind fun x25=>
   (cB 64 block (a0F.wrap ((a0F.wrap (4*mT))+2))).bind fun x30=>
   (shl .u32 (a0H.wrap x30) 8).bind fun x33=>
   (cB 64 block (a0F.wrap ((a0F.wrap (4*mT))+3))).bind fun x38=>
   (cB 64 l2 mT).bind fun x42=>
   (kP N block m) (a0F.wrap (mT+1)) (l2.set (a0K mT) (bits .or .u32 (bits .or .u32 (bits .or .u32 x18 x25) x33) (a0H.wrap x38)))
  else
   some l2
def yR (N:Nat)(block:List Int):Option (List Int):=
 (kP N block N 0 (a0I 64 0)).bind fun p4=>
 zK N p4
def vD (N:Nat):Option (List Int):=
 some [1116352408,1899447441,3049323471,3921009573,961987163,1508970993,2453635748,2870763221,3624381080,310598401,607225278,1426881987,1925078388,2162078206,2614888103,3248222580,3835390401,4022224774,264347078,604807628,770255983,1249150122,1555081692,1996064986,2554220882,2821834349,2952996808,3210313671,3336571891,3584528711,113926993,338241895,666307205,773529912,1294757372,1396182291,1695183700,1986661051,2177026350,2456956037,2730485921,2820302411,3259730800,3345764771,3516065817,3600352804,4094571909,275423344,430227734,506948616,659060556,883997877,958139571,1322822218,1537002063,1747873779,1955562222,2024104815,2227730452,2361852424,2428436474,2756734187,3204031479,3329325298]
def zM (N:Nat)(cS:List Int)(va b c d ve f g vh:Int):Option (List Int):=
 (cB 8 cS 0).bind fun aNY=>
 (cB 8 cS 1).bind fun aKW=>
 (cB 8 cS 2).bind fun aVr=>
 (cB 8 cS 3).bind fun aUz=>
 (cB 8 cS 4).bind fun aUp=>
 (cB 8 cS 5).bind fun aUQ=>
 (cB 8 cS 6).bind fun aUT=>
 (cB 8 cS 7).bind fun aUH=>
 some [a0H.wrap (aNY+va),a0H.wrap (aKW+b),a0H.wrap (aVr+c),a0H.wrap (aUz+d),a0H.wrap (aUp+ve),a0H.wrap (aUQ+f),a0H.wrap (aUT+g),a0H.wrap (aUH+vh)]
def rQ (N:Nat)(cS:List Int)(x19 x20:(List Int)):Nat→Int→Int→Int→Int→Int→Int→Int→Int→Int→Option (Int×Int×Int×Int×Int×Int×Int×Int)
 |0,_,_,_,_,_,_,_,_,_=>none
 |m+1,va_1,b_1,c_1,d_1,ve_1,f_1,g_1,vh_1,vi=>
  if decide (vi<64) then
   (jC N ve_1 6).bind fun x43=>
   (jC N ve_1 11).bind fun x45=>
   (jC N ve_1 25).bind fun x48=>
   (cB 64 x20 vi).bind fun x61=>
   (cB 64 x19 vi).bind fun x65=>
   (jC N va_1 2).bind fun x69=>
   (jC N va_1 13).bind fun x71=>
   (jC N va_1 22).bind fun x74=>
   (rQ N cS x19 x20 m) (a0H.wrap ((a0H.wrap ((a0H.wrap ((a0H.wrap ((a0H.wrap (vh_1+(bits .xor .u32 (bits .xor .u32 x43 x45) x48)))+(bits .xor .u32 (bits .and .u32 ve_1 f_1) (bits .and .u32 (bits .xor .u32 (a0N .u32) ve_1) g_1))))+x61))+x65))+(a0H.wrap ((bits .xor .u32 (bits .xor .u32 x69 x71) x74)+(bits .xor .u32 (bits .xor .u32 (bits .and .u32 va_1 b_1) (bits .and .u32 va_1 c_1)) (bits .and .u32 b_1 c_1)))))) va_1 b_1 c_1 (a0H.wrap (d_1+(a0H.wrap ((a0H.wrap ((a0H.wrap ((a0H.wrap (vh_1+(bits .xor .u32 (bits .xor .u32 x43 x45) x48)))+(bits .xor .u32 (bits .and .u32 ve_1 f_1) (bits .and .u32 (bits .xor .u32 (a0N .u32) ve_1) g_1))))+x61))+x65)))) ve_1 f_1 g_1 (a0F.wrap (vi+1))
  else
   some (va_1,b_1,c_1,d_1,ve_1,f_1,g_1,vh_1)
def sS (N:Nat)(cS block:List Int):Option (List Int):=
 (bM 64 block).bind fun q=>
 (yR N block).bind fun x19=>
 (vD N).bind fun x20=>
 (bM 64 x19).bind fun q_1=>
 (bM 64 x20).bind fun q_2=>
 (cB 8 cS 0).bind fun x21=>
 (cB 8 cS 1).bind fun x23=>
 (cB 8 cS 2).bind fun x25=>
 (cB 8 cS 3).bind fun x27=>
 (cB 8 cS 4).bind fun x29=>
 (cB 8 cS 5).bind fun x31=>
 (cB 8 cS 6).bind fun x33=>
 (cB 8 cS 7).bind fun x35=>
 (rQ N cS x19 x20 N x21 x23 x25 x27 x29 x31 x33 x35 0).bind fun p2=>
 zM N cS p2.1 p2.2.1 p2.2.2.1 p2.2.2.2.1 p2.2.2.2.2.1 p2.2.2.2.2.2.1 p2.2.2.2.2.2.2.1 p2.2.2.2.2.2.2.2
def aFR (N:Nat)(bH:List Int):Option (List Int):=
 (bM 32 bH).bind fun q_1=>
 some bH
def aBs (N:Nat)(l1:List Int):Nat→Int→(List Int)→Option (List Int)
 |0,_,_=>none
 |m+1,x34,cF=>
  if decide (x34<8) then
   (cB 8 l1 x34).bind fun x37=>
   (shr .u32 x37 24).bind fun x50=>
   (shr .u32 x37 16).bind fun x53=>
   (shr .u32 x37 8).bind fun x56=>
   (cB 32 cF (a0F.wrap (4*x34))).bind fun x60=>
   (cB 32 (cF.set (a0K (a0F.wrap (4*x34))) (a0J.wrap x50)) (a0F.wrap ((a0F.wrap (4*x34))+1))).bind fun x61=>
   (cB 32 ((cF.set (a0K (a0F.wrap (4*x34))) (a0J.wrap x50)).set (a0K (a0F.wrap ((a0F.wrap (4*x34))+1))) (a0J.wrap x53)) (a0F.wrap ((a0F.wrap (4*x34))+2))).bind fun x62=>
   (cB 32 (((cF.set (a0K (a0F.wrap (4*x34))) (a0J.wrap x50)).set (a0K (a0F.wrap ((a0F.wrap (4*x34))+1))) (a0J.wrap x53)).set (a0K (a0F.wrap ((a0F.wrap (4*x34))+2))) (a0J.wrap x56)) (a0F.wrap ((a0F.wrap (4*x34))+3))).bind fun x63=>
   (aBs N l1 m) (a0F.wrap (x34+1)) ((((cF.set (a0K (a0F.wrap (4*x34))) (a0J.wrap x50)).set (a0K (a0F.wrap ((a0F.wrap (4*x34))+1))) (a0J.wrap x53)).set (a0K (a0F.wrap ((a0F.wrap (4*x34))+2))) (a0J.wrap x56)).set (a0K (a0F.wrap ((a0F.wrap (4*x34))+3))) (a0J.wrap x37))
  else
   some cF
def aFD (N:Nat)(l1:List Int):Option (List Int):=
 (bM 8 l1).bind fun q_2=>
 (aBs N l1 N 0 (a0I 32 0)).bind fun p3=>
 aFR N p3
def aBp (N:Nat)(x16:List Int):Nat→Int→(List Int)→Option (List Int)
 |0,_,_=>none
 |m+1,vi,l1_3=>
  if decide ((a0F.wrap (vi+64))≤(x16.length:Int)) then
   (sub x16 vi (x16.length:Int)).bind fun x28=>
   (bM 8 l1_3).bind fun q_3=>
   (bM 64 (cpy (a0I 64 0) x28)).bind fun q_4=>
   (sS N l1_3 (cpy (a0I 64 0) x28)).bind fun x32=>
   (bM 8 x32).bind fun q_5=>
   (aBp N x16 m) (a0F.wrap (vi+64)) x32
  else
   some l1_3
def lV (N:Nat)(b:List Int):Option (List Int):=
 (b5 1 [] b).bind fun x11=>
 (aGH N (a0G.wrap (b.length:Int))).bind fun x15=>
 (b5 1 x11 x15).bind fun x16=>
 (aAk N).bind fun x17=>
 (bM 8 x17).bind fun q=>
 (aBp N x16 N 0 x17).bind fun p4=>
 aFD N p4
def oY (N:Nat)(b:List Int):Option (List Int):=
 (lV N b).bind fun x5=>
 (bM 32 x5).bind fun q=>
 (lV N x5).bind fun x7=>
 (bM 32 x7).bind fun q_1=>
 some x7
def nI (N:Nat)(vh:bW):Option (List Int):=
 (lT N vh).bind fun x4=>
 (oY N x4).bind fun x5=>
 (bM 32 x5).bind fun q=>
 some x5
def lK (N:Nat)(p:aI):Option (aF×Int):=
 (i5 N p).bind fun x5=>
 if !x5 then
  some ((aF.mk 0 (a0I 32 0) []),6)
 else
  (nI N p.Genesis).bind fun x10=>
  (bM 32 x10).bind fun q=>
  some ((aF.mk 0 x10 []),0)
def aHp (N:Nat)(p:aI):Option (aV×Int):=
 (i5 N p).bind fun x6=>
 if !x6 then
  some ((aV.mk 0 (a0I 32 0) 0 0 []),6)
 else
  (nI N p.Genesis).bind fun x12=>
  (bM 32 x12).bind fun q=>
  some ((aV.mk 0 x12 p.Genesis.Bits p.Genesis.Time [p.Genesis.Time]),0)
def aEX (N:Nat)(v:Int):Option aS:=
 (aDy N v).bind fun x9=>
 (lK N x9).bind fun x12=>
 (aHp N x9).bind fun x17=>
 some (aS.mk x9 [] [x12.1] [x17.1] [])
def aQt (N:Nat)(script:List Int):Option (List (List Int)):=
 if(script.length:Int) != 4 then
  some []
 else
  (aZ script 2).bind fun x7=>
  some [[x7]]
def nN (N:Nat)(vj:Int):Option (List Int):=
 some [1,1,a0J.wrap (1+(a0L vj 6)),5]
def uC (N:Nat)(c:aA)(vs:Int)(x29:(List (List Int)))(first:Int)(l3:List aQ):Option (Int×(List bL)×(List aQ)×Int×Int):=
 (nN N (a0J.wrap (a0M vs 4))).bind fun x56=>
 (b5 32 l3 [aQ.mk first x56]).bind fun x59=>
 some (1,[bL.mk c.Out (a0H.wrap vs) x29],x59,0,if c.Output.Value<(a0F.wrap (a0L vs 3))then c.Output.Value else(a0F.wrap (a0L vs 3)))
def aE6 (N:Nat)(c:aA)(vs:Int):Option (Int×(List bL)×(List aQ)×Int×Int):=
 (aQt N c.Output.Script).bind fun x29=>
 if(a0L vs 2) == 1 then
  (nN N (a0J.wrap (a0M vs 2))).bind fun x46=>
  (b5 32 [] [aQ.mk (a0F.wrap ((a0F.wrap (c.Output.Value-(if c.Output.Value<(a0F.wrap (a0L vs 3))then c.Output.Value else(a0F.wrap (a0L vs 3)))))-(a0F.wrap (a0M (a0F.wrap (c.Output.Value-(if c.Output.Value<(a0F.wrap (a0L vs 3))then c.Output.Value else(a0F.wrap (a0L vs 3))))) 3)))) x46]).bind fun x49=>
  uC N c vs x29 (a0F.wrap (a0M (a0F.wrap (c.Output.Value-(if c.Output.Value<(a0F.wrap (a0L vs 3))then c.Output.Value else(a0F.wrap (a0L vs 3))))) 3)) x49
 else
  uC N c vs x29 (a0F.wrap (c.Output.Value-(if c.Output.Value<(a0F.wrap (a0L vs 3))then c.Output.Value else(a0F.wrap (a0L vs 3))))) []
def gZ (N:Nat)(b:List Int)(vn:Int):Option (List Int):=
 if decide (vn<253) then
  (kF N vn 1).bind fun x10=>
  (eN N b x10).bind fun x11=>
  some x11
 else
  if decide (vn<65536) then
   (kF N vn 2).bind fun x18=>
   (eN N [253] x18).bind fun x19=>
   (eN N b x19).bind fun x20=>
   some x20
  else
   if decide (vn<4294967296) then
    (kF N vn 4).bind fun x27=>
    (eN N [254] x27).bind fun x28=>
    (eN N b x28).bind fun x29=>
    some x29
   else
    (kF N vn 8).bind fun x33=>
    (eN N [255] x33).bind fun x34=>
    (eN N b x34).bind fun x35=>
    some x35
def aAf (N:Nat)(o:aC):Option (List Int):=
 (bM 32 o.Tx).bind fun q=>
 (eX N [] o.Tx).bind fun x5=>
 (dV N x5 o.Index).bind fun x8=>
 some x8
def vL (N:Nat)(b:List Int)(vn:Int):Option (List Int):=
 (kF N vn 8).bind fun x7=>
 (eN N b x7).bind fun x8=>
 some x8
def mY (N:Nat)(b vs:List Int):Option (List Int):=
 (gZ N b (a0G.wrap (vs.length:Int))).bind fun x9=>
 (eN N x9 vs).bind fun x11=>
 some x11
def aA6 (N:Nat)(o:aQ):Option (List Int):=
 (vL N [] (a0G.wrap o.Value)).bind fun x6=>
 (mY N x6 o.Script).bind fun x9=>
 some x9
def aBc (N:Nat)(l0:List Int):Option (List Int):=
 some l0
def aCn (N:Nat)(t:aD)(bD:Bool)(x64:Int)(rec:Int→(List Int)→Option (List Int))(d9:List Int):Option (List Int):=
 rec (a0F.wrap (x64+1)) d9
def mF (N:Nat)(t:aD)(bD:Bool)(x64:Int)(x66:bL):Nat→Int→(List Int)→Option (List Int)
 |0,_,_=>none
 |m+1,x79,gP=>
  if decide (x79<(x66.Witness.length:Int)) then
   (aZ x66.Witness x79).bind fun x81=>
   (mY N gP x81).bind fun x85=>
   (mF N t bD x64 x66 m) (a0F.wrap (x79+1)) x85
  else
   some gP
def eW (N:Nat)(t:aD)(bD:Bool):Nat→Int→(List Int)→Option (List Int)
 |0,_,_=>none
 |m+1,x64,aK=>
  if decide (x64<(t.Inputs.length:Int)) then
   (aZ t.Inputs x64).bind fun x66=>
   if !bD then
    some aK
   else
    (gZ N aK (a0G.wrap (x66.Witness.length:Int))).bind fun x75=>
    (mF N t bD x64 x66 N 0 x75).bind fun p6=>
    aCn N t bD x64 (eW N t bD m) p6
  else
   some aK
def vM (N:Nat)(t:aD)(bD:Bool)(bH:List Int):Option (List Int):=
 (dV N bH t.Lock).bind fun x60=>
 (eW N t bD N 0 x60).bind fun p4=>
 aBc N p4
def mB (N:Nat)(t:aD)(bD:Bool):Nat→Int→(List Int)→Option (List Int)
 |0,_,_=>none
 |m+1,x48,cF=>
  if decide (x48<(t.Outputs.length:Int)) then
   (aZ t.Outputs x48).bind fun x50=>
   (aA6 N x50).bind fun x54=>
   (b5 1 cF x54).bind fun x55=>
   (mB N t bD m) (a0F.wrap (x48+1)) x55
  else
   some cF
def vN (N:Nat)(t:aD)(bD:Bool)(l1:List Int):Option (List Int):=
 (gZ N l1 (a0G.wrap (t.Outputs.length:Int))).bind fun x44=>
 (mB N t bD N 0 x44).bind fun p7=>
 vM N t bD p7
def mL (N:Nat)(t:aD)(bD:Bool):Nat→Int→(List Int)→Option (List Int)
 |0,_,_=>none
 |m+1,x26,l1_3=>
  if decide (x26<(t.Inputs.length:Int)) then
   (aZ t.Inputs x26).bind fun x28=>
   (aAf N x28.Prev).bind fun x33=>
   (b5 1 l1_3 x33).bind fun x34=>
   (dV N x34 x28.Sequence).bind fun x37=>
   (mL N t bD m) (a0F.wrap (x26+1)) x37
  else
   some l1_3
def gW (N:Nat)(t:aD)(bD:Bool):Option (List Int):=
 (dV N [] t.Version).bind fun x16=>
 (gZ N x16 (a0G.wrap (t.Inputs.length:Int))).bind fun x22=>
 (mL N t bD N 0 x22).bind fun p8=>
 vN N t bD p8
def aAB (N:Nat)(t:aD):Option Bool:=
 (gW N t true).bind fun x60=>
 some (decide ((x60.length:Int)≤20000))
def aAo (N:Nat)(t:aD)(x39:Int)(rec:Int→Option (LR (Unit) (Bool))):Option (LR (Unit) (Bool)):=
 rec (a0F.wrap (x39+1))
def kU (N:Nat)(t:aD)(x39:Int)(x41:bL):Nat→Int→Option (LR (Unit) (Bool))
 |0,_=>none
 |m+1,x50=>
  if decide (x50<(x41.Witness.length:Int)) then
   (aZ x41.Witness x50).bind fun x52=>
   if decide (520<(x52.length:Int)) then
    some (.ret false)
   else
    (kU N t x39 x41 m) (a0F.wrap (x50+1))
  else
   some (.brk ())
def jA (N:Nat)(t:aD):Nat→Int→Option (LR (Unit) (Bool))
 |0,_=>none
 |m+1,x39=>
  if decide (x39<(t.Inputs.length:Int)) then
   (aZ t.Inputs x39).bind fun x41=>
   if decide (32<(x41.Witness.length:Int)) then
    some (.ret false)
   else
    (kU N t x39 x41 N 0).bind fun q=>match q with
     | .ret v=>some (.ret v)
     | .brk p6=>
      aAo N t x39 (jA N t m)
  else
   some (.brk ())
def uG (N:Nat)(t:aD):Option Bool:=
 (jA N t N 0).bind fun q=>match q with
  | .ret v=>some v
  | .brk p4=>
   aAB N t
def uJ (N:Nat)(t:aD)(x22:Int)(rec:Int→Option (LR (Unit) (Bool)))(x34:Bool):Option (LR (Unit) (Bool)):=
 if x34 then
  some (.ret false)
 else
  rec (a0F.wrap (x22+1))
def hY (N:Nat)(t:aD):Nat→Int→Option (LR (Unit) (Bool))
 |0,_=>none
 |m+1,x22=>
  if decide (x22<(t.Outputs.length:Int)) then
   (aZ t.Outputs x22).bind fun x24=>
   if decide (x24.Value<0) then
    uJ N t x22 (hY N t m) true
   else
    uJ N t x22 (hY N t m) (decide (520<(x24.Script.length:Int)))
  else
   some (.brk ())
def pY (N:Nat)(t:aD)(x18:Bool):Option Bool:=
 if x18 then
  some false
 else
  (hY N t N 0).bind fun q=>match q with
   | .ret v=>some v
   | .brk p7=>
    uG N t
def gH (N:Nat)(t:aD):Option Bool:=
 if decide (64<(t.Inputs.length:Int)) then
  pY N t true
 else
  pY N t (decide (64<(t.Outputs.length:Int)))
def aAX (N:Nat)(t:aD):Option (List Int):=
 (gH N t).bind fun x4=>
 if !x4 then
  some [0,0,0,0,0,0,0,0,0,0,0,0,0,0,0,0,0,0,0,0,0,0,0,0,0,0,0,0,0,0,0,0]
 else
  (gW N t false).bind fun x8=>
  (oY N x8).bind fun x9=>
  (bM 32 x9).bind fun q=>
  some x9
def aBl (N:Nat)(fees:Int)(l0:List aD):Option ((List aD)×Int):=
 some (l0,fees)
def tH (N:Nat)(p:aI)(l:aF)(vs k:Int)(rec:Int→Int→(List aD)→(List aA)→Option (Int×(List aD)))(aMp:Int)(eZ:List aD)(eF:List aA):Option (Int×(List aD)):=
 rec aMp (a0J.wrap (k+1)) eZ eF
def s7 (N:Nat)(p:aI)(l:aF)(vs dA k:Int)(l2:List aD)(l3:List aA)(vi:Int)(rec:Int→Option (Int×(List aD)×(List aA))):Option (Int×(List aD)×(List aA)):=
 rec (a0F.wrap (vi+1))
def tR (N:Nat)(p:aI)(l:aF)(vs dA k:Int)(x69:Int×(List bL)×(List aQ)×Int×Int)(x75:List aD)(rec:Int→Option (Int×(List aD)×(List aA)))(aPS:List aA):Option (Int×(List aD)×(List aA)):=
 some (a0F.wrap (dA+x69.2.2.2.2),x75,aPS)
def kE (N:Nat)(p:aI)(l:aF)(vs dA k:Int)(x69:Int×(List bL)×(List aQ)×Int×Int)(x75:List aD)(x89:(List Int)):Nat→Int→(List aA)→Option (List aA)
 |0,_,_=>none
 |m+1,x93,l3_4=>
  if decide (x93<(x69.2.2.1.length:Int)) then
   (aZ x69.2.2.1 x93).bind fun x96=>
   (b5 88 l3_4 [aA.mk (aC.mk x89 (a0H.wrap x93)) x96 (a0F.wrap (l.Height+1)) false]).bind fun aXw=>
   (kE N p l vs dA k x69 x75 x89 m) (a0F.wrap (x93+1)) aXw
  else
   some l3_4
def j9 (N:Nat)(p:aI)(l:aF)(vs dA k:Int)(x69:Int×(List bL)×(List aQ)×Int×Int)(x75:List aD)(rec:Int→Option (Int×(List aD)×(List aA)))(jV:List aA):Option (Int×(List aD)×(List aA)):=
 (aAX N (aD.mk x69.1 x69.2.1 x69.2.2.1 x69.2.2.2.1)).bind fun x89=>
 (bM 32 x89).bind fun q=>
 (kE N p l vs dA k x69 x75 x89 N 0 jV).bind fun p9=>
 tR N p l vs dA k x69 x75 rec p9
def j8 (N:Nat)(p:aI)(l:aF)(vs dA k:Int)(l2:List aD)(l3:List aA)(vi x46:Int)(x49:aA)(rec:Int→Option (Int×(List aD)×(List aA)))(x63:Bool):Option (Int×(List aD)×(List aA)):=
 if x63 then
  s7 N p l vs dA k l2 l3 vi rec
 else
  (aE6 N x49 (a0J.wrap (vs+k))).bind fun x69=>
  (b5 64 l2 [aD.mk x69.1 x69.2.1 x69.2.2.1 x69.2.2.2.1]).bind fun x75=>
  if decide (a0F.wrap (x46+1)=(l3.length:Int)) then
   (sub l3 0 x46).bind fun x82=>
   (b5 88 x82 []).bind fun x87=>
   j9 N p l vs dA k x69 x75 rec x87
  else
   (sub l3 0 x46).bind fun aWe=>
   (sub l3 (a0F.wrap (x46+1)) (l3.length:Int)).bind fun x86=>
   (b5 88 aWe x86).bind fun aPv=>
   j9 N p l vs dA k x69 x75 rec aPv
def c6 (N:Nat)(p:aI)(l:aF)(vs dA k:Int)(l2:List aD)(l3:List aA):Nat→Int→Option (Int×(List aD)×(List aA))
 |0,_=>none
 |m+1,vi=>
  if decide (vi<(l3.length:Int)) then
   (rem (a0F.wrap ((a0F.wrap ((a0F.wrap (a0J.wrap (a0M vs 4)))+(a0F.wrap k)))+vi)) (l3.length:Int)).bind fun x46=>
   (aZ l3 x46).bind fun x49=>
   if x49.Coinbase then
    j8 N p l vs dA k l2 l3 vi x46 x49 (c6 N p l vs dA k l2 l3 m) (decide ((a0F.wrap ((a0F.wrap (l.Height+1))-x49.Height))<p.Maturity))
   else
    j8 N p l vs dA k l2 l3 vi x46 x49 (c6 N p l vs dA k l2 l3 m) false
  else
   some (dA,l2,l3)
def iH (N:Nat)(p:aI)(l:aF)(vs:Int):Nat→Int→Int→(List aD)→(List aA)→Option (Int×(List aD))
 |0,_,_,_,_=>none
 |m+1,dA,k,l2,l3=>
  if decide (k<(a0L vs 4)) then
   (c6 N p l vs dA k l2 l3 N 0).bind fun p4=>
   tH N p l vs k (iH N p l vs m) p4.1 p4.2.1 p4.2.2
  else
   some (dA,l2)
def rK (N:Nat)(p:aI)(l:aF)(vs:Int):Option ((List aD)×Int):=
 (b5 88 [] l.Coins).bind fun x23=>
 (iH N p l vs N 0 0 [] x23).bind fun p2=>
 aBl N p2.1 p2.2
def aFT (N:Nat)(vs:Int):Option Int:=
 some vs
def tW (N:Nat)(sI vn:Int)(rec:Int→Int→Option Int)(x25:Bool):Option Int:=
 if x25 then
  rec (a0F.wrap (a0M sI 2)) (a0F.wrap (vn-1))
 else
  some sI
def jI (N:Nat):Nat→Int→Int→Option Int
 |0,_,_=>none
 |m+1,sI,vn=>
  if decide (0<vn) then
   tW N sI vn (jI N m) (decide (0<sI))
  else
   tW N sI vn (jI N m) false
def oM (N:Nat)(p:aI)(height:Int)(x13:Bool):Option Int:=
 if x13 then
  some 0
 else
  (quo .i64 height p.Halving).bind fun x19=>
  (jI N N p.Subsidy x19).bind fun p3=>
  aFT N p3
def mR (N:Nat)(p:aI)(height:Int):Option Int:=
 (i5 N p).bind fun x8=>
 if !x8 then
  oM N p height true
 else
  oM N p height (decide (height<0))
def aON (N:Nat):Option aC:=
 some (aC.mk (a0I 32 0) 4294967295)
def aEo (N:Nat)(height value:Int)(script:List Int):Option aD:=
 (aON N).bind fun x7=>
 some (aD.mk 1 [bL.mk x7 (a0H.wrap height) []] [aQ.mk value script] 0)
def yM (N:Nat)(t:aD):Option (List Int):=
 (gH N t).bind fun x4=>
 if !x4 then
  some [0,0,0,0,0,0,0,0,0,0,0,0,0,0,0,0,0,0,0,0,0,0,0,0,0,0,0,0,0,0,0,0]
 else
  (gW N t true).bind fun x8=>
  (oY N x8).bind fun x9=>
  (bM 32 x9).bind fun q=>
  some x9
def aJp (N:Nat)(l0:List Int):Option (List Int):=
 some l0
def uN (N:Nat)(l:List (List Int)):Nat→Int→(List Int)→Option (List Int)
 |0,_,_=>none
 |m+1,x8,aK=>
  if decide (x8<(l.length:Int)) then
   (aZ l x8).bind fun x10=>
   (eN N aK x10).bind fun x14=>
   (uN N l m) (a0F.wrap (x8+1)) x14
  else
   some aK
def nL (N:Nat)(l:List (List Int)):Option (List Int):=
 (uN N l N 0 []).bind fun p2=>
 aJp N p2
def xV (N:Nat)(l vr:List Int):Option (List Int):=
 (bM 32 l).bind fun q=>
 (bM 32 vr).bind fun q_1=>
 (nL N [[1],l,vr]).bind fun x9=>
 (lV N x9).bind fun x10=>
 (bM 32 x10).bind fun q_2=>
 some x10
def aB4 (N:Nat)(l0:List (List (List Int))):Option (List (List (List Int))):=
 some l0
def vG (N:Nat)(aK:List (List (List Int)))(rec:(List (List Int))→(List (List (List Int)))→Option (List (List (List Int))))(l1:List (List Int)):Option (List (List (List Int))):=
 (aHw 32 l1).bind fun q=>
 (b5 24 aK [l1]).bind fun x45=>
 rec l1 x45
def kG (N:Nat)(l_1:List (List Int))(aK:List (List (List Int)))(vi:Int)(rec:Int→(List (List Int))→Option (List (List Int)))(cF:List (List Int)):Option (List (List Int)):=
 rec (a0F.wrap (vi+2)) cF
def dR (N:Nat)(l_1:List (List Int))(aK:List (List (List Int))):Nat→Int→(List (List Int))→Option (List (List Int))
 |0,_,_=>none
 |m+1,vi,bH=>
  if decide (vi<(l_1.length:Int)) then
   if decide ((a0F.wrap (vi+1))<(l_1.length:Int)) then
    (aZ l_1 vi).bind fun x25=>
    (bM 32 x25).bind fun q_1=>
    (aZ l_1 (a0F.wrap (vi+1))).bind fun x30=>
    (bM 32 x30).bind fun q_2=>
    (xV N x25 x30).bind fun x32=>
    (bM 32 x32).bind fun q_3=>
    (b5 32 bH [x32]).bind fun x34=>
    kG N l_1 aK vi (dR N l_1 aK m) x34
   else
    (aZ l_1 vi).bind fun x38=>
    (bM 32 x38).bind fun q_4=>
    (b5 32 bH [x38]).bind fun x41=>
    kG N l_1 aK vi (dR N l_1 aK m) x41
  else
   some bH
def iP (N:Nat):Nat→(List (List Int))→(List (List (List Int)))→Option (List (List (List Int)))
 |0,_,_=>none
 |m+1,l_1,aK=>
  if decide (1<(l_1.length:Int)) then
   (dR N l_1 aK N 0 []).bind fun p4=>
   vG N aK (iP N m) p4
  else
   some aK
def aBF (N:Nat)(l:List (List Int)):Option (List (List (List Int))):=
 (iP N N l [l]).bind fun p2=>
 aB4 N p2
def mQ (N:Nat)(l:List (List Int))(x11:Bool):Option (List Int):=
 if x11 then
  some [0,0,0,0,0,0,0,0,0,0,0,0,0,0,0,0,0,0,0,0,0,0,0,0,0,0,0,0,0,0,0,0]
 else
  (aBF N l).bind fun x14=>
  (aZ x14 (a0F.wrap ((x14.length:Int)-1))).bind fun x19=>
  (aZ x19 0).bind fun x21=>
  (bM 32 x21).bind fun q=>
  some x21
def t8 (N:Nat)(l:List (List Int)):Option (List Int):=
 if(l.length:Int) == 0 then
  mQ N l true
 else
  mQ N l (decide (1024<(l.length:Int)))
def aAA (N:Nat)(l1:List (List Int)):Option (List Int):=
 (aHw 32 l1).bind fun q=>
 (t8 N l1).bind fun x19=>
 (bM 32 x19).bind fun q_1=>
 some x19
def fU (N:Nat)(l:List aD):Nat→Int→(List (List Int))→Option (List (List Int))
 |0,_,_=>none
 |m+1,x8,bH=>
  if decide (x8<(l.length:Int)) then
   (aZ l x8).bind fun x10=>
   (yM N x10).bind fun x14=>
   (bM 32 x14).bind fun q_2=>
   (b5 32 bH [x14]).bind fun x16=>
   (fU N l m) (a0F.wrap (x8+1)) x16
  else
   some bH
def tA (N:Nat)(l:List aD):Option (List Int):=
 (fU N l N 0 []).bind fun p2=>
 aAA N p2
def aFm (N:Nat)(vs:Int):Option Int:=
 some (a0H.wrap (20+(a0H.wrap ((a0H.wrap (a0L vs 8))*15))))
def vQ (N:Nat)(x y:Int):Option (Int×Int):=
 (shr .u64 x 32).bind fun x17=>
 (shr .u64 y 32).bind fun x21=>
 (shr .u64 (a0G.wrap ((bits .and .u64 x 4294967295)*(bits .and .u64 y 4294967295))) 32).bind fun x29=>
 (shr .u64 (a0G.wrap ((a0G.wrap (x17*(bits .and .u64 y 4294967295)))+x29)) 32).bind fun x34=>
 (shr .u64 (a0G.wrap ((bits .and .u64 (a0G.wrap ((a0G.wrap (x17*(bits .and .u64 y 4294967295)))+x29)) 4294967295)+(a0G.wrap ((bits .and .u64 x 4294967295)*x21)))) 32).bind fun x46=>
 some (a0G.wrap ((a0G.wrap ((a0G.wrap (x17*x21))+x34))+x46),a0G.wrap (x*y))
def aJ0 (N:Nat)(l2:List Int):Option ((List Int)×(List Int)):=
 (bM 8 l2).bind fun q=>
 (aND l2 0 4).bind fun x64=>
 (aND l2 4 8).bind fun x67=>
 (bM 4 (cpy (a0I 4 0) x67)).bind fun q_1=>
 (bM 4 (cpy (a0I 4 0) x64)).bind fun q_2=>
 some (cpy (a0I 4 0) x67,cpy (a0I 4 0) x64)
def aFG (N:Nat)(va b:List Int)(x15:Int)(rec:Int→(List Int)→Option (List Int))(dQ:List Int):Option (List Int):=
 rec (a0F.wrap (x15+1)) dQ
def aFn (N:Nat)(va b:List Int)(x15:Int)(rec:Int→(List Int)→Option (List Int))(aEW:Int)(rB:List Int):Option (List Int):=
 (cB 8 rB (a0F.wrap (x15+4))).bind fun x61=>
 aFG N va b x15 rec (rB.set (a0K (a0F.wrap (x15+4))) aEW)
def v8 (N:Nat)(va b:List Int)(x15:Int):Nat→Int→Int→(List Int)→Option (Int×(List Int))
 |0,_,_,_=>none
 |m+1,carry_1,x18,l4_3=>
  if decide (x18<4) then
   (cB 4 va x15).bind fun x23=>
   (cB 4 b x18).bind fun x26=>
   (vQ N x23 x26).bind fun x28=>
   (cB 8 l4_3 (a0F.wrap (x15+x18))).bind fun x35=>
   (mH N x35 x28.2 0).bind fun x38=>
   (mH N x38.1 carry_1 0).bind fun x44=>
   (v8 N va b x15 m) (a0G.wrap ((a0G.wrap (x28.1+x38.2))+x44.2)) (a0F.wrap (x18+1)) (l4_3.set (a0K (a0F.wrap (x15+x18))) x44.1)
  else
   some (carry_1,l4_3)
def oB (N:Nat)(va b:List Int):Nat→Int→(List Int)→Option (List Int)
 |0,_,_=>none
 |m+1,x15,l4=>
  if decide (x15<4) then
   (v8 N va b x15 N 0 0 l4).bind fun p5=>
   aFn N va b x15 (oB N va b m) p5.1 p5.2
  else
   some l4
def aG7 (N:Nat)(va b:List Int):Option ((List Int)×(List Int)):=
 (oB N va b N 0 (a0I 8 0)).bind fun p2=>
 aJ0 N p2
def aCt (N:Nat)(x y c:Int):Option (Int×Int):=aMF x y c
def aF8 (N:Nat)(borrow:Int)(l1:List Int):Option ((List Int)×Bool):=
 (bM 4 l1).bind fun q=>
 some (l1,borrow == 1)
def wJ (N:Nat)(va b:List Int):Nat→Int→Int→(List Int)→Option (Int×(List Int))
 |0,_,_,_=>none
 |m+1,borrow_1,x9,l3=>
  if decide (x9<4) then
   (cB 4 va x9).bind fun x15=>
   (cB 4 b x9).bind fun x18=>
   (aCt N x15 x18 borrow_1).bind fun x21=>
   (cB 4 l3 x9).bind fun x24=>
   (wJ N va b m) x21.2 (a0F.wrap (x9+1)) (l3.set (a0K x9) x21.1)
  else
   some (borrow_1,l3)
def aGJ (N:Nat)(va b:List Int):Option ((List Int)×Bool):=
 (wJ N va b N 0 0 (a0I 4 0)).bind fun p2=>
 aF8 N p2.1 p2.2
def aFo (N:Nat)(l0 l1:List Int):Option ((List Int)×(List Int)×Bool):=
 (bM 4 l0).bind fun q_2=>
 (bM 4 l1).bind fun q_3=>
 some (l0,l1,true)
def aCm (N:Nat)(lo b:List Int)(vi:Int)(rec:Int→(List Int)→(List Int)→Option ((List Int)×(List Int)))(eZ eF:List Int):Option ((List Int)×(List Int)):=
 rec (a0F.wrap (vi-1)) eZ eF
def w7 (N:Nat)(lo b:List Int)(vi:Int)(l2 jV:List Int)(rec:Int→(List Int)→(List Int)→Option ((List Int)×(List Int)))(x43:Bool):Option ((List Int)×(List Int)):=
 if x43 then
  (bM 4 jV).bind fun q_6=>
  (aGJ N jV b).bind fun x47=>
  (bM 4 x47.1).bind fun q_7=>
  (cB 4 l2 (a0F.wrap (a0M vi 64))).bind fun x52=>
  (shl .u64 1 (a0L vi 64)).bind fun x56=>
  aCm N lo b vi rec (l2.set (a0K (a0F.wrap (a0M vi 64))) (bits .or .u64 x52 x56)) x47.1
 else
  aCm N lo b vi rec l2 jV
def wT (N:Nat)(lo b:List Int)(vi:Int)(l2:List Int)(x23:Bool)(rec:Int→(List Int)→(List Int)→Option ((List Int)×(List Int)))(jV:List Int):Option ((List Int)×(List Int)):=
 if x23 then
  w7 N lo b vi l2 jV rec true
 else
  (bM 4 jV).bind fun q_8=>
  (nP N jV b).bind fun x41=>
  w7 N lo b vi l2 jV rec (decide (0≤x41))
def gV (N:Nat)(lo b:List Int):Nat→Int→(List Int)→(List Int)→Option ((List Int)×(List Int))
 |0,_,_,_=>none
 |m+1,vi,l2,l3=>
  if decide (0≤vi) then
   (bM 4 l3).bind fun q_4=>
   (sW N l3 255).bind fun x23=>
   (aDK N l3 l3).bind fun x27=>
   (bM 4 x27.1).bind fun q_5=>
   (bM 4 lo).bind fun q_9=>
   (sW N lo vi).bind fun x32=>
   if x32 then
    (cB 4 x27.1 0).bind fun x33=>
    wT N lo b vi l2 x23 (gV N lo b m) (x27.1.set (a0K 0) (bits .or .u64 x33 1))
   else
    wT N lo b vi l2 x23 (gV N lo b m) x27.1
  else
   some (l2,l3)
def aGS (N:Nat)(hi lo b:List Int):Option ((List Int)×(List Int)×Bool):=
 (bM 4 b).bind fun q=>
 (bM 4 hi).bind fun q_1=>
 (nP N b hi).bind fun x13=>
 if decide (x13≤0) then
  some (a0I 4 0,a0I 4 0,false)
 else
  (gV N lo b N 255 (a0I 4 0) hi).bind fun p2=>
  aFo N p2.1 p2.2
def pE (N:Nat)(t:List Int)(x:Int)(rec:Int→Option (LR (Unit) (Int))):Option (LR (Unit) (Int)):=
 rec (a0F.wrap (x+1))
def oK (N:Nat)(t:List Int)(x:Int)(rec:Int→Option (LR (Unit) (Int)))(l1:List Int):Option (LR (Unit) (Int)):=
 (bM 4 l1).bind fun q_1=>
 (aDN N l1).bind fun x31=>
 if decide (x31≤23) then
  (shl .u32 (a0H.wrap x) 24).bind fun x35=>
  (cB 4 l1 0).bind fun x36=>
  some (.ret (bits .or .u32 x35 (a0H.wrap x36)))
 else
  pE N t x rec
def eD (N:Nat)(t:List Int):Nat→Int→Option (LR (Unit) (Int))
 |0,_=>none
 |m+1,x=>
  if decide (x≤3) then
   (aDH N t (a0F.wrap (8*(a0F.wrap (3-x))))).bind fun x16=>
   (bM 4 x16).bind fun q_2=>
   (sV N x16 (a0F.wrap (8*(a0F.wrap (3-x))))).bind fun x21=>
   (nP N x21 t).bind fun x23=>
   if x23 != 0 then
    pE N t x (eD N t m)
   else
    oK N t x (eD N t m) x16
  else
   (sV N t (a0F.wrap (8*(a0F.wrap (x-3))))).bind fun x29=>
   (bM 4 x29).bind fun q_3=>
   oK N t x (eD N t m) x29
def aAp (N:Nat)(t:List Int):Option Int:=
 (bM 4 t).bind fun q=>
 (nE N t).bind fun x6=>
 if x6 then
  some 0
 else
  (eD N t N 1).bind fun q=>match q with
   | .ret v=>some v
   | .brk p1=>
    none
def qK (N:Nat)(aK:List Int):Option (Int×Int):=
 (bM 4 aK).bind fun q_5=>
 (aAp N aK).bind fun x82=>
 some (x82,0)
def qD (N:Nat)(l0:List Int):Option (Int×Int):=
 (bM 4 l0).bind fun q_6=>
 (nE N l0).bind fun x79=>
 if x79 then
  (gE N 1).bind fun x80=>
  (bM 4 x80).bind fun q_7=>
  qK N x80
 else
  qK N l0
def qF (N:Nat)(p:aI)(x63:(List Int)×(List Int)×Bool)(x75:Bool):Option (Int×Int):=
 if x75 then
  (bM 4 p.Limit).bind fun q_8=>
  qD N p.Limit
 else
  qD N x63.1
def qE (N:Nat)(p:aI)(x24:(List Int)×Int)(u2:Int):Option (Int×Int):=
 (gE N (if(a0G.wrap (4*(a0G.wrap ((a0G.wrap p.Window)*(a0G.wrap p.Spacing)))))<(if(a0G.wrap (a0M (a0G.wrap ((a0G.wrap p.Window)*(a0G.wrap p.Spacing))) 4))>u2 then(a0G.wrap (a0M (a0G.wrap ((a0G.wrap p.Window)*(a0G.wrap p.Spacing))) 4))else u2)then(a0G.wrap (4*(a0G.wrap ((a0G.wrap p.Window)*(a0G.wrap p.Spacing)))))else(if(a0G.wrap (a0M (a0G.wrap ((a0G.wrap p.Window)*(a0G.wrap p.Spacing))) 4))>u2 then(a0G.wrap (a0M (a0G.wrap ((a0G.wrap p.Window)*(a0G.wrap p.Spacing))) 4))else u2))).bind fun x54=>
 (aG7 N x24.1 x54).bind fun x55=>
 (bM 4 x55.1).bind fun q_1=>
 (bM 4 x55.2).bind fun q_2=>
 (gE N (a0G.wrap ((a0G.wrap p.Window)*(a0G.wrap p.Spacing)))).bind fun x62=>
 (aGS N x55.1 x55.2 x62).bind fun x63=>
 (bM 4 x63.1).bind fun q_3=>
 (bM 4 x63.2.1).bind fun q_4=>
 if !x63.2.2 then
  qF N p x63 true
 else
  (bM 4 p.Limit).bind fun q_9=>
  (nP N x63.1 p.Limit).bind fun x73=>
  qF N p x63 (decide (0<x73))
def aBm (N:Nat)(p:aI)(kM first last:Int):Option (Int×Int):=
 (i5 N p).bind fun x20=>
 if !x20 then
  some (0,6)
 else
  (oD N kM).bind fun x24=>
  (bM 4 x24.1).bind fun q=>
  if x24.2 != 0 then
   some (0,x24.2)
  else
   if decide (first<last) then
    qE N p x24 (a0G.wrap (a0H.wrap (last-first)))
   else
    qE N p x24 0
def kV (N:Nat)(p:aI)(c:aV)(x30:Bool):Option (Int×Int):=
 if x30 then
  some (0,6)
 else
  (rem (a0F.wrap (c.Height+1)) p.Window).bind fun x36=>
  if x36 != 0 then
   some (c.Bits,0)
  else
   (aZ c.Times (a0F.wrap ((c.Times.length:Int)-1))).bind fun x51=>
   (aBm N p c.Bits c.First x51).bind fun x53=>
   some (x53.1,x53.2)
def yG (N:Nat)(p:aI)(c:aV):Option (Int×Int):=
 (i5 N p).bind fun x7=>
 if !x7 then
  kV N p c true
 else
  if decide (c.Height<0) then
   kV N p c true
  else
   if decide (16777216<c.Height) then
    kV N p c true
   else
    if(c.Times.length:Int) == 0 then
     kV N p c true
    else
     kV N p c (decide (11<(c.Times.length:Int)))
def aBB (N:Nat)(l0:List Int):Option Int:=
 if(l0.length:Int) == 0 then
  some 0
 else
  (aZ l0 (a0F.wrap (a0M (l0.length:Int) 2))).bind fun x46=>
  some x46
def aB1 (N:Nat)(l:List Int)(x9:Int)(rec:Int→(List Int)→Option (List Int))(d9:List Int):Option (List Int):=
 rec (a0F.wrap (x9+1)) d9
def vU (N:Nat)(l:List Int)(x9:Int)(aK:List Int)(x11:Int)(rec:Int→(List Int)→Option (List Int))(vi:Int):Option (List Int):=
 (sub aK 0 vi).bind fun x30=>
 (sub aK vi (aK.length:Int)).bind fun x35=>
 (b5 4 [x11] x35).bind fun x36=>
 (b5 4 x30 x36).bind fun x37=>
 aB1 N l x9 rec x37
def qM (N:Nat)(l:List Int)(x9:Int)(aK:List Int)(x11 mT:Int)(rec:Int→Option Int)(x24:Bool):Option Int:=
 if x24 then
  rec (a0F.wrap (mT+1))
 else
  some mT
def iS (N:Nat)(l:List Int)(x9:Int)(aK:List Int)(x11:Int):Nat→Int→Option Int
 |0,_=>none
 |m+1,mT=>
  if decide (mT<(aK.length:Int)) then
   (aZ aK mT).bind fun x20=>
   qM N l x9 aK x11 mT (iS N l x9 aK x11 m) (decide (x20≤x11))
  else
   qM N l x9 aK x11 mT (iS N l x9 aK x11 m) false
def iQ (N:Nat)(l:List Int):Nat→Int→(List Int)→Option (List Int)
 |0,_,_=>none
 |m+1,x9,aK=>
  if decide (x9<(l.length:Int)) then
   (aZ l x9).bind fun x11=>
   (iS N l x9 aK x11 N 0).bind fun p5=>
   vU N l x9 aK x11 (iQ N l m) p5
  else
   some aK
def sJ (N:Nat)(l:List Int):Option Int:=
 (iQ N l N 0 []).bind fun p2=>
 aBB N p2
def w8 (N:Nat)(l1:List Int):Option (List Int):=
 (bM 4 l1).bind fun q=>
 some l1
def lS (N:Nat)(vh:List Int):Nat→Int→(List Int)→Option (List Int)
 |0,_,_=>none
 |m+1,x6,l2=>
  if decide (x6<32) then
   (cB 4 l2 (a0F.wrap (a0M (a0F.wrap (31-x6)) 8))).bind fun x13=>
   (cB 32 vh x6).bind fun x16=>
   (shl .u64 (a0G.wrap x16) (a0F.wrap (8*(a0L (a0F.wrap (31-x6)) 8)))).bind fun x22=>
   (lS N vh m) (a0F.wrap (x6+1)) (l2.set (a0K (a0F.wrap (a0M (a0F.wrap (31-x6)) 8))) (bits .or .u64 x13 x22))
  else
   some l2
def vX (N:Nat)(vh:List Int):Option (List Int):=
 (lS N vh N 0 (a0I 4 0)).bind fun p2=>
 w8 N p2
def aCP (N:Nat)(x4:Bool):Option Bool:=
 some x4
def aAd (N:Nat)(vh:List Int)(kM:Int):Option Bool:=
 (oD N kM).bind fun x9=>
 (bM 4 x9.1).bind fun q=>
 if x9.2 == 0 then
  (bM 32 vh).bind fun q_1=>
  (vX N vh).bind fun x16=>
  (nP N x16 x9.1).bind fun x18=>
  aCP N (decide (x18≤0))
 else
  aCP N false
def aKb (N:Nat)(p:aI)(c:aV)(nH:List Int)(vby:Int)(x15:Int×Int)(x25 c1:Int):Option bW:=
 some (bW.mk p.Version c.Hash nH (a0H.wrap ((a0H.wrap (x25+1))+vby)) x15.1 c1)
def wR (N:Nat)(p:aI)(c:aV)(nH:List Int)(vby:Int)(x15:Int×Int)(x25:Int):Nat→Int→Option (LR (Int) (bW))
 |0,_=>none
 |m+1,u0=>
  if decide (u0<20000) then
   (nI N (bW.mk p.Version c.Hash nH (a0H.wrap ((a0H.wrap (x25+1))+vby)) x15.1 u0)).bind fun x40=>
   (aAd N x40 x15.1).bind fun x42=>
   if x42 then
    some (.ret (bW.mk p.Version c.Hash nH (a0H.wrap ((a0H.wrap (x25+1))+vby)) x15.1 u0))
   else
    (wR N p c nH vby x15 x25 m) (a0H.wrap (u0+1))
  else
   some (.brk u0)
def aGC (N:Nat)(p:aI)(c:aV)(nH:List Int)(vby:Int):Option bW:=
 (yG N p c).bind fun x15=>
 (bM 32 c.Hash).bind fun q=>
 (bM 32 nH).bind fun q_1=>
 (sJ N c.Times).bind fun x25=>
 (wR N p c nH vby x15 x25 N 0).bind fun q=>match q with
  | .ret v=>some v
  | .brk p2=>
   aKb N p c nH vby x15 x25 p2
def aEM (N:Nat)(p:aI)(l:aF)(c:aV)(vs:Int):Option aO:=
 (rK N p l vs).bind fun x16=>
 (mR N p (a0F.wrap (l.Height+1))).bind fun x26=>
 (nN N (a0J.wrap (a0M vs 8))).bind fun x31=>
 (aEo N (a0F.wrap (l.Height+1)) (a0F.wrap (x26+x16.2)) x31).bind fun x32=>
 (b5 64 [x32] x16.1).bind fun x35=>
 (tA N x35).bind fun x41=>
 (aFm N vs).bind fun x43=>
 (aGC N p c x41 x43).bind fun x44=>
 some (aO.mk x44 x35)
def aAN (N:Nat)(va b:aC):Option Int:=
 if decide (va.Index<b.Index) then
  some (-1)
 else
  if decide (b.Index<va.Index) then
   some 1
  else
   some 0
def tK (N:Nat)(va b:aC):Nat→Int→Option (LR (Unit) (Int))
 |0,_=>none
 |m+1,x6=>
  if decide (x6<32) then
   (cB 32 va.Tx x6).bind fun x11=>
   (cB 32 b.Tx x6).bind fun x15=>
   if decide (x11<x15) then
    some (.ret (-1))
   else
    if decide (x15<x11) then
     some (.ret 1)
    else
     (tK N va b m) (a0F.wrap (x6+1))
  else
   some (.brk ())
def uH (N:Nat)(va b:aC):Option Int:=
 (tK N va b N 0).bind fun q=>match q with
  | .ret v=>some v
  | .brk p2=>
   aAN N va b
def aHD (N:Nat):Option Bool:=
 some true
def nX (N:Nat)(l:aF)(sum x23:Int)(x26:aA)(rec:Int→Int→Option (LR (Unit) (Bool)))(x71:Bool):Option (LR (Unit) (Bool)):=
 if x71 then
  some (.ret false)
 else
  if decide (2100000000000000<(a0F.wrap (sum+x26.Output.Value))) then
   some (.ret false)
  else
   rec (a0F.wrap (sum+x26.Output.Value)) (a0F.wrap (x23+1))
def iD (N:Nat)(l:aF)(sum x23:Int)(x26:aA)(rec:Int→Int→Option (LR (Unit) (Bool)))(x54:Bool):Option (LR (Unit) (Bool)):=
 if x54 then
  some (.ret false)
 else
  if decide (x26.Output.Value<0) then
   nX N l sum x23 x26 rec true
  else
   if decide (2100000000000000<x26.Output.Value) then
    nX N l sum x23 x26 rec true
   else
    nX N l sum x23 x26 rec (decide (520<(x26.Output.Script.length:Int)))
def eJ (N:Nat)(l:aF):Nat→Int→Int→Option (LR (Unit) (Bool))
 |0,_,_=>none
 |m+1,sum,x23=>
  if decide (x23<(l.Coins.length:Int)) then
   (aZ l.Coins x23).bind fun x26=>
   if decide (0<x23) then
    (aZ l.Coins (a0F.wrap (x23-1))).bind fun x35=>
    (uH N x35.Out x26.Out).bind fun x40=>
    if decide (0≤x40) then
     iD N l sum x23 x26 (eJ N l m) true
    else
     if decide (x26.Height<1) then
      iD N l sum x23 x26 (eJ N l m) true
     else
      iD N l sum x23 x26 (eJ N l m) (decide (l.Height<x26.Height))
   else
    if decide (x26.Height<1) then
     iD N l sum x23 x26 (eJ N l m) true
    else
     iD N l sum x23 x26 (eJ N l m) (decide (l.Height<x26.Height))
  else
   some (.brk ())
def lH (N:Nat)(l:aF)(x19:Bool):Option Bool:=
 if x19 then
  some false
 else
  (eJ N l N 0 0).bind fun q=>match q with
   | .ret v=>some v
   | .brk p3=>
    aHD N
def z7 (N:Nat)(l:aF):Option Bool:=
 if decide (l.Height<0) then
  lH N l true
 else
  if decide (16777216<l.Height) then
   lH N l true
  else
   lH N l (decide (100000<(l.Coins.length:Int)))
def rT (N:Nat)(t:aD)(bD:Bool):Option ((List Int)×Int):=
 (gH N t).bind fun x7=>
 if !x7 then
  some ([],4)
 else
  (gW N t bD).bind fun x11=>
  some (x11,0)
def aCp (N:Nat)(l0:List Int):Option (List Int):=
 some l0
def kH (N:Nat)(b:aO):Nat→Int→(List Int)→Option (List Int)
 |0,_,_=>none
 |m+1,x19,aK=>
  if decide (x19<(b.Txs.length:Int)) then
   (aZ b.Txs x19).bind fun x21=>
   (rT N x21 true).bind fun x25=>
   (b5 1 aK x25.1).bind fun x30=>
   (kH N b m) (a0F.wrap (x19+1)) x30
  else
   some aK
def aCf (N:Nat)(b:aO):Option (List Int):=
 (lT N b.Header).bind fun x10=>
 (gZ N x10 (a0G.wrap (b.Txs.length:Int))).bind fun x15=>
 (kH N b N 0 x15).bind fun p2=>
 aCp N p2
def aAv (N:Nat)(b:aO):Option Bool:=
 (aCf N b).bind fun x21=>
 some (decide ((x21.length:Int)≤100000))
def kS (N:Nat)(b:aO):Nat→Int→Option (LR (Unit) (Bool))
 |0,_=>none
 |m+1,x12=>
  if decide (x12<(b.Txs.length:Int)) then
   (aZ b.Txs x12).bind fun x14=>
   (gH N x14).bind fun x17=>
   if !x17 then
    some (.ret false)
   else
    (kS N b m) (a0F.wrap (x12+1))
  else
   some (.brk ())
def yT (N:Nat)(b:aO):Option Bool:=
 if decide (256<(b.Txs.length:Int)) then
  some false
 else
  (kS N b N 0).bind fun q=>match q with
   | .ret v=>some v
   | .brk p2=>
    aAv N b
def qU (N:Nat)(o:aC):Option Bool:=
 some (jS o.Tx (a0I 32 0) ((o.Index == 4294967295)&&true))
def rP (N:Nat)(x2:Bool):Option Bool:=
 some x2
def cV (N:Nat)(t:aD):Option Bool:=
 if(t.Inputs.length:Int) == 1 then
  (aZ t.Inputs 0).bind fun x10=>
  (qU N x10.Prev).bind fun x13=>
  rP N x13
 else
  rP N false
def aH1 (N:Nat):Option Int:=
 some 0
def nW (N:Nat)(t:aD)(x68:Int)(rec:Int→Option (LR (Unit) (Int)))(x79:Bool):Option (LR (Unit) (Int)):=
 if x79 then
  some (.ret 92)
 else
  rec (a0F.wrap (x68+1))
def gA (N:Nat)(t:aD):Nat→Int→Option (LR (Unit) (Int))
 |0,_=>none
 |m+1,x68=>
  if decide (x68<(t.Inputs.length:Int)) then
   (aZ t.Inputs x68).bind fun x70=>
   (qU N x70.Prev).bind fun x74=>
   if x74 then
    (cV N t).bind fun x77=>
    nW N t x68 (gA N t m) (!x77)
   else
    nW N t x68 (gA N t m) false
  else
   some (.brk ())
def r5 (N:Nat)(t:aD):Option Int:=
 (gA N t N 0).bind fun q=>match q with
  | .ret v=>some v
  | .brk p5=>
   aH1 N
def yB (N:Nat)(t:aD)(x43:Int)(rec:Int→Option (LR (Unit) (Int))):Option (LR (Unit) (Int)):=
 rec (a0F.wrap (x43+1))
def n7 (N:Nat)(t:aD)(x43:Int):Nat→Int→Option (LR (Unit) (Int))
 |0,_=>none
 |m+1,k=>
  if decide (k<x43) then
   (aZ t.Inputs x43).bind fun x54=>
   (aZ t.Inputs k).bind fun x60=>
   if(jS x54.Prev.Tx x60.Prev.Tx ((x54.Prev.Index == x60.Prev.Index)&&true)) then
    some (.ret 91)
   else
    (n7 N t x43 m) (a0F.wrap (k+1))
  else
   some (.brk ())
def jP (N:Nat)(t:aD):Nat→Int→Option (LR (Unit) (Int))
 |0,_=>none
 |m+1,x43=>
  if decide (x43<(t.Inputs.length:Int)) then
   (n7 N t x43 N 0).bind fun q=>match q with
    | .ret v=>some (.ret v)
    | .brk p9=>
     yB N t x43 (jP N t m)
  else
   some (.brk ())
def rY (N:Nat)(t:aD)(sum:Int):Option Int:=
 if decide (2100000000000000<sum) then
  some 90
 else
  (jP N t N 0).bind fun q=>match q with
   | .ret v=>some v
   | .brk p7=>
    r5 N t
def gO (N:Nat)(t:aD):Nat→Int→Int→Option (LR (Int) (Int))
 |0,_,_=>none
 |m+1,fX,x26=>
  if decide (x26<(t.Outputs.length:Int)) then
   (aZ t.Outputs x26).bind fun x28=>
   if decide (2100000000000000<x28.Value) then
    some (.ret 90)
   else
    (gO N t m) (a0F.wrap (fX+x28.Value)) (a0F.wrap (x26+1))
  else
   some (.brk fX)
def n9 (N:Nat)(t:aD)(x22:Bool):Option Int:=
 if x22 then
  some 93
 else
  (gO N t N 0 0).bind fun q=>match q with
   | .ret v=>some v
   | .brk p10=>
    rY N t p10
def rF (N:Nat)(t:aD):Option Int:=
 (gH N t).bind fun x11=>
 if !x11 then
  some 4
 else
  if(t.Inputs.length:Int) == 0 then
   n9 N t true
  else
   n9 N t ((t.Outputs.length:Int) == 0)
def aCN (N:Nat):Option Int:=
 some (-1)
def lE (N:Nat)(ids:List (List Int))(vid:List Int):Nat→Int→Option (LR (Unit) (Int))
 |0,_=>none
 |m+1,x8=>
  if decide (x8<(ids.length:Int)) then
   (aZ ids x8).bind fun x13=>
   (bM 32 x13).bind fun q=>
   (bM 32 vid).bind fun q_1=>
   if x13 == vid then
    some (.ret x8)
   else
    (lE N ids vid m) (a0F.wrap (x8+1))
  else
   some (.brk ())
def uQ (N:Nat)(ids:List (List Int))(vid:List Int):Option Int:=
 (lE N ids vid N 0).bind fun q=>match q with
  | .ret v=>some v
  | .brk p2=>
   aCN N
def aFC (N:Nat):Option Bool:=
 some false
def tL (N:Nat)(b:aO)(ids:List (List Int))(x12:Int)(rec:Int→Option (LR (Unit) (Bool))):Option (LR (Unit) (Bool)):=
 rec (a0F.wrap (x12+1))
def fQ (N:Nat)(b:aO)(ids:List (List Int))(x12:Int)(x15:aD):Nat→Int→Option (LR (Unit) (Bool))
 |0,_=>none
 |m+1,x20=>
  if decide (x20<(x15.Inputs.length:Int)) then
   (aZ x15.Inputs x20).bind fun x22=>
   (bM 32 x22.Prev.Tx).bind fun q=>
   (uQ N ids x22.Prev.Tx).bind fun x28=>
   if decide (x12≤x28) then
    some (.ret true)
   else
    (fQ N b ids x12 x15 m) (a0F.wrap (x20+1))
  else
   some (.brk ())
def dH (N:Nat)(b:aO)(ids:List (List Int)):Nat→Int→Option (LR (Unit) (Bool))
 |0,_=>none
 |m+1,x12=>
  if decide (x12<(b.Txs.length:Int)) then
   (aZ b.Txs x12).bind fun x15=>
   (fQ N b ids x12 x15 N 0).bind fun q=>match q with
    | .ret v=>some (.ret v)
    | .brk p4=>
     tL N b ids x12 (dH N b ids m)
  else
   some (.brk ())
def qA (N:Nat)(b:aO)(ids:List (List Int)):Option Bool:=
 (dH N b ids N 0).bind fun q=>match q with
  | .ret v=>some v
  | .brk p2=>
   aFC N
def aHR (N:Nat):Option Bool:=
 some false
def yQ (N:Nat)(b:aO)(x13:Int)(rec:Int→(List aC)→Option (LR (Unit) (Bool)))(aK:List aC):Option (LR (Unit) (Bool)):=
 rec (a0F.wrap (x13+1)) aK
def yA (N:Nat)(b:aO)(x13:Int)(x15:aD)(x20:Int)(rec:Int→(List aC)→Option (LR ((List aC)) (Bool)))(gP:List aC):Option (LR ((List aC)) (Bool)):=
 rec (a0F.wrap (x20+1)) gP
def yK (N:Nat)(b:aO)(x13:Int)(x15:aD)(x20:Int)(d9:List aC)(x22:bL)(rec:Int→(List aC)→Option (LR ((List aC)) (Bool))):Option (LR ((List aC)) (Bool)):=
 (b5 36 d9 [x22.Prev]).bind fun x39=>
 yA N b x13 x15 x20 rec x39
def iC (N:Nat)(b:aO)(x13:Int)(x15:aD)(x20:Int)(d9:List aC)(x22:bL):Nat→Int→Option (LR (Unit) (Bool))
 |0,_=>none
 |m+1,x26=>
  if decide (x26<(d9.length:Int)) then
   (aZ d9 x26).bind fun x28=>
   if(jS x28.Tx x22.Prev.Tx ((x28.Index == x22.Prev.Index)&&true)) then
    some (.ret true)
   else
    (iC N b x13 x15 x20 d9 x22 m) (a0F.wrap (x26+1))
  else
   some (.brk ())
def fG (N:Nat)(b:aO)(x13:Int)(x15:aD):Nat→Int→(List aC)→Option (LR ((List aC)) (Bool))
 |0,_,_=>none
 |m+1,x20,d9=>
  if decide (x20<(x15.Inputs.length:Int)) then
   (aZ x15.Inputs x20).bind fun x22=>
   (iC N b x13 x15 x20 d9 x22 N 0).bind fun q=>match q with
    | .ret v=>some (.ret v)
    | .brk p7=>
     yK N b x13 x15 x20 d9 x22 (fG N b x13 x15 m)
  else
   some (.brk d9)
def fY (N:Nat)(b:aO):Nat→Int→(List aC)→Option (LR (Unit) (Bool))
 |0,_,_=>none
 |m+1,x13,l0=>
  if decide (x13<(b.Txs.length:Int)) then
   (aZ b.Txs x13).bind fun x15=>
   (fG N b x13 x15 N 0 l0).bind fun q=>match q with
    | .ret v=>some (.ret v)
    | .brk p4=>
     yQ N b x13 (fY N b m) p4
  else
   some (.brk ())
def uS (N:Nat)(b:aO):Option Bool:=
 (fY N b N 0 []).bind fun q=>match q with
  | .ret v=>some v
  | .brk p2=>
   aHR N
def sR (N:Nat)(b:aO)(l1:List (List Int)):Option Int:=
 (aHw 32 l1).bind fun q=>
 (qA N b l1).bind fun x67=>
 if x67 then
  some 101
 else
  (uS N b).bind fun x70=>
  if x70 then
   some 91
  else
   (tA N b.Txs).bind fun x74=>
   (bM 32 b.Header.Root).bind fun q_1=>
   (bM 32 x74).bind fun q_2=>
   if !(x74 == b.Header.Root) then
    some 110
   else
    some 0
def iA (N:Nat)(b:aO):Nat→Int→(List (List Int))→Option (LR ((List (List Int))) (Int))
 |0,_,_=>none
 |m+1,x49,bH=>
  if decide (x49<(b.Txs.length:Int)) then
   (aZ b.Txs x49).bind fun x51=>
   (aAX N x51).bind fun x54=>
   (bM 32 x54).bind fun q_3=>
   (aHw 32 bH).bind fun q_4=>
   (uQ N bH x54).bind fun x57=>
   if decide (0≤x57) then
    some (.ret 91)
   else
    (b5 32 bH [x54]).bind fun x62=>
    (iA N b m) (a0F.wrap (x49+1)) x62
  else
   some (.brk bH)
def n5 (N:Nat)(b:aO):Option Int:=
 (iA N b N 0 []).bind fun q=>match q with
  | .ret v=>some v
  | .brk p4=>
   sR N b p4
def jN (N:Nat)(b:aO):Nat→Int→Option (LR (Unit) (Int))
 |0,_=>none
 |m+1,x36=>
  if decide (x36<(b.Txs.length:Int)) then
   (aZ b.Txs x36).bind fun x38=>
   (rF N x38).bind fun x41=>
   if x41 != 0 then
    some (.ret x41)
   else
    (jN N b m) (a0F.wrap (x36+1))
  else
   some (.brk ())
def rV (N:Nat)(b:aO):Option Int:=
 (jN N b N 0).bind fun q=>match q with
  | .ret v=>some v
  | .brk p5=>
   n5 N b
def dX (N:Nat)(b:aO):Nat→Int→Option (LR (Unit) (Int))
 |0,_=>none
 |m+1,x22=>
  if decide (x22<(b.Txs.length:Int)) then
   (aZ b.Txs x22).bind fun x25=>
   (cV N x25).bind fun x28=>
   if x28 != (x22 == 0) then
    some (.ret 111)
   else
    (dX N b m) (a0F.wrap (x22+1))
  else
   some (.brk ())
def jW (N:Nat)(b:aO):Option Int:=
 (yT N b).bind fun x13=>
 if !x13 then
  some 4
 else
  if(b.Txs.length:Int) == 0 then
   some 93
  else
   (dX N b N 0).bind fun q=>match q with
    | .ret v=>some v
    | .brk p6=>
     rV N b
def aCx (N:Nat):Option Bool:=
 some true
def lC (N:Nat)(t:aD):Nat→Int→Option (LR (Unit) (Bool))
 |0,_=>none
 |m+1,x15=>
  if decide (x15<(t.Inputs.length:Int)) then
   (aZ t.Inputs x15).bind fun x17=>
   if x17.Sequence != 4294967295 then
    some (.ret false)
   else
    (lC N t m) (a0F.wrap (x15+1))
  else
   some (.brk ())
def rD (N:Nat)(t:aD)(height:Int):Option Bool:=
 if decide ((a0F.wrap t.Lock)≤height) then
  some true
 else
  (lC N t N 0).bind fun q=>match q with
   | .ret v=>some v
   | .brk p2=>
    aCx N
def iE (N:Nat)(l:aF)(b:aO)(x8:Bool):Option Int:=
 if x8 then
  some 6
 else
  if l.Height == 16777216 then
   some 4
  else
   (bM 32 b.Header.Prev).bind fun q=>
   (bM 32 l.Tip).bind fun q_1=>
   if !(b.Header.Prev == l.Tip) then
    some 144
   else
    (jW N b).bind fun x29=>
    if x29 != 0 then
     some x29
    else
     (aZ b.Txs 0).bind fun x35=>
     (aZ x35.Inputs 0).bind fun x38=>
     if(a0F.wrap x38.Sequence) != (a0F.wrap (l.Height+1)) then
      some 102
     else
      (rD N x35 (a0F.wrap (l.Height+1))).bind fun x53=>
      if !x53 then
       some 85
      else
       some 0
def nM (N:Nat)(p:aI)(l:aF)(b:aO):Option Int:=
 (i5 N p).bind fun x10=>
 if !x10 then
  iE N l b true
 else
  (z7 N l).bind fun x14=>
  iE N l b (!x14)
def aD8 (N:Nat):Option Int:=
 some (-1)
def aAl (N:Nat)(l:List aA)(o:aC):Nat→Int→Option (LR (Unit) (Int))
 |0,_=>none
 |m+1,x8=>
  if decide (x8<(l.length:Int)) then
   (aZ l x8).bind fun x13=>
   if(jS x13.Out.Tx o.Tx ((x13.Out.Index == o.Index)&&true)) then
    some (.ret x8)
   else
    (aAl N l o m) (a0F.wrap (x8+1))
  else
   some (.brk ())
def yL (N:Nat)(l:List aA)(o:aC):Option Int:=
 (aAl N l o N 0).bind fun q=>match q with
  | .ret v=>some v
  | .brk p2=>
   aD8 N
def nT (N:Nat)(c:aA):Option aA:=
 (nL N [c.Output.Script]).bind fun x7=>
 some (aA.mk c.Out (aQ.mk c.Output.Value x7) c.Height c.Coinbase)
def aHU (N:Nat)(l1:List aA):Option ((List aA)×Int):=
 some (l1,0)
def yF (N:Nat)(p:aI)(height:Int)(l1:List aA)(x40:Int)(rec:Int→Option (LR (Unit) ((List aA)×Int)))(x54:Bool):Option (LR (Unit) ((List aA)×Int)):=
 if x54 then
  some (.ret ([],230))
 else
  rec (a0F.wrap (x40+1))
def jL (N:Nat)(p:aI)(height:Int)(l1:List aA):Nat→Int→Option (LR (Unit) ((List aA)×Int))
 |0,_=>none
 |m+1,x40=>
  if decide (x40<(l1.length:Int)) then
   (aZ l1 x40).bind fun x42=>
   if x42.Coinbase then
    yF N p height l1 x40 (jL N p height l1 m) (decide ((a0F.wrap (height-x42.Height))<p.Maturity))
   else
    yF N p height l1 x40 (jL N p height l1 m) false
  else
   some (.brk ())
def aC8 (N:Nat)(p:aI)(height:Int)(l1:List aA):Option ((List aA)×Int):=
 (jL N p height l1 N 0).bind fun q=>match q with
  | .ret v=>some v
  | .brk p3=>
   aHU N l1
def nY (N:Nat)(p:aI)(l:List aA)(t:aD)(height:Int):Nat→Int→(List aA)→Option (LR ((List aA)) ((List aA)×Int))
 |0,_,_=>none
 |m+1,x19,bH=>
  if decide (x19<(t.Inputs.length:Int)) then
   (aZ t.Inputs x19).bind fun x21=>
   (yL N l x21.Prev).bind fun x26=>
   if decide (x26<0) then
    some (.ret ([],101))
   else
    (aZ l x26).bind fun x32=>
    (nT N x32).bind fun x34=>
    (b5 88 bH [x34]).bind fun x36=>
    (nY N p l t height m) (a0F.wrap (x19+1)) x36
  else
   some (.brk bH)
def zP (N:Nat)(p:aI)(l:List aA)(t:aD)(height:Int):Option ((List aA)×Int):=
 (nY N p l t height N 0 []).bind fun q=>match q with
  | .ret v=>some v
  | .brk p5=>
   aC8 N p height p5
def aBb (N:Nat)(fX:Int):Option (Int×Int):=
 if decide (fX<0) then
  some (0,100)
 else
  some (fX,0)
def i8 (N:Nat)(t:aD):Nat→Int→Int→Option Int
 |0,_,_=>none
 |m+1,sum_2,x69=>
  if decide (x69<(t.Outputs.length:Int)) then
   (aZ t.Outputs x69).bind fun x71=>
   (i8 N t m) (a0F.wrap (sum_2-x71.Value)) (a0F.wrap (x69+1))
  else
   some sum_2
def pC (N:Nat)(t:aD)(sum:Int):Option (Int×Int):=
 if decide (2100000000000000<sum) then
  some (0,90)
 else
  (i8 N t N sum 0).bind fun p4=>
  aBb N p4
def sD (N:Nat)(t:aD)(l:List aA)(aBj x44:Int)(x46:aA)(rec:Int→Int→Option (LR (Int) (Int×Int)))(x57:Bool):Option (LR (Int) (Int×Int)):=
 if x57 then
  some (.ret (0,90))
 else
  rec (a0F.wrap (aBj+x46.Output.Value)) (a0F.wrap (x44+1))
def fV (N:Nat)(t:aD)(l:List aA):Nat→Int→Int→Option (LR (Int) (Int×Int))
 |0,_,_=>none
 |m+1,aBj,x44=>
  if decide (x44<(l.length:Int)) then
   (aZ l x44).bind fun x46=>
   if decide (x46.Output.Value<0) then
    sD N t l aBj x44 x46 (fV N t l m) true
   else
    sD N t l aBj x44 x46 (fV N t l m) (decide (2100000000000000<x46.Output.Value))
  else
   some (.brk aBj)
def sO (N:Nat)(t:aD)(l:List aA):Option (Int×Int):=
 (fV N t l N 0 0).bind fun q=>match q with
  | .ret v=>some v
  | .brk p5=>
   pC N t p5
def iZ (N:Nat)(t:aD)(l:List aA):Nat→Int→Option (LR (Unit) (Int×Int))
 |0,_=>none
 |m+1,x26=>
  if decide (x26<(l.length:Int)) then
   (aZ l x26).bind fun x31=>
   (aZ t.Inputs x26).bind fun x37=>
   if !(jS x31.Out.Tx x37.Prev.Tx ((x31.Out.Index == x37.Prev.Index)&&true)) then
    some (.ret (0,101))
   else
    (iZ N t l m) (a0F.wrap (x26+1))
  else
   some (.brk ())
def sT (N:Nat)(t:aD)(l:List aA):Option (Int×Int):=
 (rF N t).bind fun x14=>
 if x14 != 0 then
  some (0,x14)
 else
  if(l.length:Int) != (t.Inputs.length:Int) then
   some (0,8)
  else
   (iZ N t l N 0).bind fun q=>match q with
    | .ret v=>some v
    | .brk p7=>
     sO N t l
def aBZ (N:Nat)(tag:ByteArray)(b:List Int):Option (List Int):=
 (stb tag).bind fun x7=>
 (lV N x7).bind fun x8=>
 (bM 32 x8).bind fun q=>
 (b5 1 [] x8).bind fun x10=>
 (b5 1 x10 x8).bind fun x12=>
 (b5 1 x12 b).bind fun x14=>
 (lV N x14).bind fun x15=>
 (bM 32 x15).bind fun q_1=>
 some x15
def pJ (N:Nat)(t:aD)(vi:Int)(o:aQ)(l3 l4 l5:List Int):Option ((List Int)×Int):=
 (dV N [] t.Version).bind fun x72=>
 (lV N l3).bind fun x75=>
 (eX N x72 x75).bind fun x76=>
 (lV N l4).bind fun x79=>
 (eX N x76 x79).bind fun x80=>
 (lV N l5).bind fun x83=>
 (eX N x80 x83).bind fun x84=>
 (dV N x84 t.Lock).bind fun x88=>
 (dV N x88 (a0H.wrap vi)).bind fun x92=>
 (aA6 N o).bind fun x95=>
 (b5 1 x92 x95).bind fun x96=>
 (aBZ N (⟨#[108,105,103,104,116,99,108,105,101,110,116,47,115,112,101,110,100]⟩) x96).bind fun x97=>
 (bM 32 x97).bind fun q=>
 some (x97,0)
def o7 (N:Nat)(t:aD)(vi:Int)(o:aQ)(l3 l4:List Int):Nat→Int→(List Int)→Option (List Int)
 |0,_,_=>none
 |m+1,x61,dP=>
  if decide (x61<(t.Outputs.length:Int)) then
   (aZ t.Outputs x61).bind fun x63=>
   (aA6 N x63).bind fun x67=>
   (b5 1 dP x67).bind fun x68=>
   (o7 N t vi o l3 l4 m) (a0F.wrap (x61+1)) x68
  else
   some dP
def oF (N:Nat)(t:aD)(vi:Int)(o:aQ)(l3 l4:List Int):Option ((List Int)×Int):=
 (o7 N t vi o l3 l4 N 0 []).bind fun p5=>
 pJ N t vi o l3 l4 p5
def oJ (N:Nat)(t:aD)(vi:Int)(o:aQ):Nat→Int→(List Int)→(List Int)→Option ((List Int)×(List Int))
 |0,_,_,_=>none
 |m+1,x44,eF,dQ=>
  if decide (x44<(t.Inputs.length:Int)) then
   (aZ t.Inputs x44).bind fun x46=>
   (aAf N x46.Prev).bind fun x51=>
   (b5 1 eF x51).bind fun x52=>
   (dV N dQ x46.Sequence).bind fun x56=>
   (oJ N t vi o m) (a0F.wrap (x44+1)) x52 x56
  else
   some (eF,dQ)
def lI (N:Nat)(t:aD)(vi:Int)(o:aQ)(x39:Bool):Option ((List Int)×Int):=
 if x39 then
  some ([0,0,0,0,0,0,0,0,0,0,0,0,0,0,0,0,0,0,0,0,0,0,0,0,0,0,0,0,0,0,0,0],5)
 else
  (oJ N t vi o N 0 [] []).bind fun p6=>
  oF N t vi o p6.1 p6.2
def jE (N:Nat)(t:aD)(vi:Int)(o:aQ)(x29:Bool):Option ((List Int)×Int):=
 if x29 then
  some ([0,0,0,0,0,0,0,0,0,0,0,0,0,0,0,0,0,0,0,0,0,0,0,0,0,0,0,0,0,0,0,0],4)
 else
  if decide (vi<0) then
   lI N t vi o true
  else
   lI N t vi o (decide ((t.Inputs.length:Int)≤vi))
def uL (N:Nat)(t:aD)(vi:Int)(o:aQ):Option ((List Int)×Int):=
 (gH N t).bind fun x17=>
 if !x17 then
  jE N t vi o true
 else
  if decide (o.Value<0) then
   jE N t vi o true
  else
   jE N t vi o (decide (520<(o.Script.length:Int)))
def aDm (N:Nat)(o:cG)(x12:Bool):Option Int:=
 if x12 then
  none
 else
  if o.M != 0 then
   none
  else
   if o.N != 0 then
    none
   else
    if decide (255<(o.Data.length:Int)) then
     none
    else
     if o.Code == 11 then
      none
     else
      some 0
def aLL (N:Nat)(o:cG):Option Int:=
 if decide (o.Code<1) then
  none
 else
  if decide (17<o.Code) then
   none
  else
   if decide (0<(o.Data.length:Int)) then
    aDm N o (o.Code != 1)
   else
    aDm N o false
def aF9 (N:Nat)(x8:Int)(b_1 l2:List Int):Option (Int×(List Int)×Int×Int×(List Int)×Int):=
 (aLL N (cG.mk (a0F.wrap x8) l2 0 0)).bind fun x76=>
 some (a0F.wrap x8,l2,0,0,b_1,x76)
def aOl (N:Nat)(b:List Int):Option (Int×(List Int)×Int×Int×(List Int)×Int):=
 (aZ b 0).bind fun x8=>
 if decide ((a0F.wrap x8)<1) then
  none
 else
  if decide (17<(a0F.wrap x8)) then
   none
  else
   (sub b 1 (b.length:Int)).bind fun x22=>
   if(a0F.wrap x8) == 1 then
    if(x22.length:Int) == 0 then
     none
    else
     (aZ x22 0).bind fun x35=>
     if decide ((a0F.wrap ((x22.length:Int)-1))<(a0F.wrap x35)) then
      none
     else
      (sub x22 1 (a0F.wrap (1+(a0F.wrap x35)))).bind fun x48=>
      (nL N [x48]).bind fun x50=>
      (sub x22 (a0F.wrap (1+(a0F.wrap x35))) (x22.length:Int)).bind fun x53=>
      aF9 N x8 x53 x50
   else
    if(a0F.wrap x8) == 11 then
     none
    else
     aF9 N x8 x22 []
def aH5 (N:Nat)(l0:List cG):Option ((List cG)×Int):=
 some (l0,0)
def aIf (N:Nat):Nat→(List Int)→(List cG)→Option (LR ((List cG)) ((List cG)×Int))
 |0,_,_=>none
 |m+1,b_1,aK=>
  if decide (0<(b_1.length:Int)) then
   (aOl N b_1).bind fun x16=>
   if x16.2.2.2.2.2 != 0 then
    some (.ret ([],x16.2.2.2.2.2))
   else
    (b5 48 aK [cG.mk x16.1 x16.2.1 x16.2.2.1 x16.2.2.2.1]).bind fun x26=>
    (aIf N m) x16.2.2.2.2.1 x26
  else
   some (.brk aK)
def aHr (N:Nat)(b:List Int):Option ((List cG)×Int):=
 if decide (520<(b.length:Int)) then
  some ([],4)
 else
  (aIf N N b []).bind fun q=>match q with
   | .ret v=>some v
   | .brk p2=>
    aH5 N p2
def aGM (N:Nat):Option Bool:=
 some (((([]:List Int).length:Nat):Int) == 0)
def aGW (N:Nat)(l:List cG):Nat→Int→Option Unit
 |0,_=>none
 |m+1,x8=>
  if decide (x8<(l.length:Int)) then
   (aZ l x8).bind fun x10=>
   if x10.Code == 14 then
    none
   else
    if x10.Code == 15 then
     none
    else
     if x10.Code == 16 then
      none
     else
      (aGW N l m) (a0F.wrap (x8+1))
  else
   some ()
def wO (N:Nat)(l:List cG):Option Bool:=
 (aGW N l N 0).bind fun p2=>
 aGM N
def aJF (N:Nat):Option Bool:=
 some false
def aJz (N:Nat)(vs:List (List Int)):Nat→Int→Option (LR (Unit) (Bool))
 |0,_=>none
 |m+1,x10=>
  if decide (x10<(vs.length:Int)) then
   (aZ vs x10).bind fun x12=>
   if decide (520<(x12.length:Int)) then
    some (.ret true)
   else
    (aJz N vs m) (a0F.wrap (x10+1))
  else
   some (.brk ())
def aBt (N:Nat)(vs:List (List Int)):Option Bool:=
 if decide (64<(vs.length:Int)) then
  some true
 else
  (aJz N vs N 0).bind fun q=>match q with
   | .ret v=>some v
   | .brk p2=>
    aJF N
def aGA (N:Nat)(l0:List (List Int)):Option (List (List Int)):=
 some l0
def aGv (N:Nat)(l:List (List Int)):Nat→Int→(List (List Int))→Option (List (List Int))
 |0,_,_=>none
 |m+1,x11,aK=>
  if decide (x11<(l.length:Int)) then
   (aZ l x11).bind fun x13=>
   (nL N [x13]).bind fun x18=>
   (b5 24 aK [x18]).bind fun x20=>
   (aGv N l m) (a0F.wrap (x11+1)) x20
  else
   some aK
def wF (N:Nat)(l:List (List Int)):Option (List (List Int)):=
 (mks 24 ([]:List Int) (l.length:Int)).bind fun x8=>
 (aGv N l N 0 []).bind fun p2=>
 aGA N p2
def vJ (N:Nat)(x2:Bool):Option Bool:=
 some x2
def aGi (N:Nat)(l:List g7):Option Bool:=
 if(l.length:Int) == 0 then
  vJ N true
 else
  (aZ l (a0F.wrap ((l.length:Int)-1))).bind fun x11=>
  if x11.reached then
   vJ N x11.done
  else
   vJ N false
def aLA (N:Nat)(o:cG):Option Int:=
 if o.Code == 8 then
  some 6
 else
  if o.Code == 10 then
   some 21
  else
   if o.Code == 11 then
    some (a0F.wrap (1+(a0F.wrap (20*o.N))))
   else
    some 1
def aCI (N:Nat)(o:cG)(x15:Bool):Option Int:=
 if x15 then
  some 2
 else
  if o.Code == 11 then
   none
  else
   some 0
def aLu (N:Nat)(o:cG):Option Int:=
 if o.Code == 2 then
  none
 else
  if o.Code == 3 then
   none
  else
   if o.Code == 6 then
    none
   else
    if o.Code == 7 then
     none
    else
     if o.Code == 8 then
      none
     else
      if o.Code == 9 then
       none
      else
       if o.Code == 12 then
        none
       else
        if o.Code == 13 then
         none
        else
         if o.Code == 14 then
          none
         else
          if o.Code == 4 then
           none
          else
           if o.Code == 5 then
            aCI N o (o.Code == 5)
           else
            aCI N o (o.Code == 10)
def aJq (N:Nat):Option Bool:=
 some false
def aJG (N:Nat)(b:List Int):Nat→Int→Option (LR (Unit) (Bool))
 |0,_=>none
 |m+1,x7=>
  if decide (x7<(b.length:Int)) then
   (aZ b x7).bind fun x9=>
   if x9 != 0 then
    some (.ret true)
   else
    (aJG N b m) (a0F.wrap (x7+1))
  else
   some (.brk ())
def aBY (N:Nat)(b:List Int):Option Bool:=
 (aJG N b N 0).bind fun q=>match q with
  | .ret v=>some v
  | .brk p2=>
   aJq N
def aJR (N:Nat)(vs:List (List Int))(mS:List Int):Option ((List (List Int))×Int):=
 if decide (64≤(vs.length:Int)) then
  some ([],4)
 else
  (sub vs 0 (vs.length:Int)).bind fun x14=>
  (b5 24 x14 [mS]).bind fun x17=>
  some (x17,0)
def yJ (N:Nat)(va b:List Int):Option Bool:=
 some ((iG va).toList == (iG b).toList)
def aJK (N:Nat)(l0:List Int):Option (List Int):=
 some l0
def aJt (N:Nat):Nat→Int→(List Int)→Option (List Int)
 |0,_,_=>none
 |m+1,vn_1,aK=>
  if decide (0<vn_1) then
   (b5 1 aK [a0J.wrap vn_1]).bind fun x12=>
   (aJt N m) (a0H.wrap (a0M vn_1 256)) x12
  else
   some aK
def aIM (N:Nat)(vn:Int):Option (List Int):=
 (aJt N N vn []).bind fun p2=>
 aJK N p2
def aDB (N:Nat)(b:Bool):Option (List Int):=
 if b then
  (aIM N 1).bind fun x4=>
  some x4
 else
  (aIM N 0).bind fun x5=>
  some x5
def aB6 (N:Nat)(o:cG)(vs:List (List Int))(v:cC):Option ((List (List Int))×Int):=
 if o.Code == 1 then
  (nL N [o.Data]).bind fun x25=>
  (aJR N vs x25).bind fun x26=>
  some (x26.1,x26.2)
 else
  if o.Code == 2 then
   none
  else
   if o.Code == 3 then
    none
   else
    if o.Code == 4 then
     none
    else
     if o.Code == 5 then
      (sub vs 0 (a0F.wrap ((vs.length:Int)-2))).bind fun x73=>
      (aZ vs (a0F.wrap ((vs.length:Int)-2))).bind fun x77=>
      (aZ vs (a0F.wrap ((vs.length:Int)-1))).bind fun x82=>
      (yJ N x77 x82).bind fun x84=>
      (aDB N x84).bind fun x85=>
      (b5 24 x73 [x85]).bind fun x87=>
      some (x87,0)
     else
      none
def aKf (N:Nat)(vs:List (List Int))(cost:Int):Option ((List (List Int))×Int×Int):=
 some (vs,cost,0)
def kB (N:Nat)(v:cC)(x20:(List cG)×Int):Nat→(List (List Int))→Int→Int→Option (LR ((List (List Int))×Int) ((List (List Int))×Int×Int))
 |0,_,_,_=>none
 |m+1,sI,cost_1,x35=>
  if decide (x35<(x20.1.length:Int)) then
   (aZ x20.1 x35).bind fun x37=>
   (aGi N []).bind fun x40=>
   if x37.Code == 15 then
    none
   else
    if x37.Code == 16 then
     none
    else
     if x40 then
      (aLA N x37).bind fun x59=>
      if decide (500<(a0F.wrap (cost_1+x59))) then
       none
      else
       (aLu N x37).bind fun x66=>
       if decide ((sI.length:Int)<x66) then
        some (.ret ([],0,81))
       else
        if x37.Code == 14 then
         none
        else
         (aB6 N x37 sI v).bind fun aPC=>
         if aPC.2 != 0 then
          none
         else
          (kB N v x20 m) aPC.1 (a0F.wrap (cost_1+x59)) (a0F.wrap (x35+1))
     else
      none
  else
   some (.brk (sI,cost_1))
def xE (N:Nat)(b:List Int)(stack:List (List Int))(v:cC):Option ((List (List Int))×Int×Int):=
 (aHr N b).bind fun x20=>
 if x20.2 != 0 then
  none
 else
  (wO N x20.1).bind fun x27=>
  if !x27 then
   none
  else
   (aBt N stack).bind fun x30=>
   if x30 then
    none
   else
    (wF N stack).bind fun x32=>
    (kB N v x20 N x32 0 0).bind fun q=>match q with
     | .ret v=>some v
     | .brk p2=>
      aKf N p2.1 p2.2
def fM (N:Nat)(b:List Int)(bD:List (List Int))(v:cC):Option Int:=
 (xE N b bD v).bind fun x14=>
 if x14.2.2 != 0 then
  some x14.2.2
 else
  if(x14.1.length:Int) != 1 then
   some 81
  else
   (aZ x14.1 0).bind fun x28=>
   (aBY N x28).bind fun x30=>
   if !x30 then
    some 84
   else
    some 0
def jM (N:Nat)(t:aD)(vi:Int)(c:aA)(height:Int)(x16:(List Int)×Int)(x43:Bool):Option Int:=
 if x43 then
  some 102
 else
  (aZ t.Inputs vi).bind fun x50=>
  (fM N c.Output.Script x50.Witness (cC.mk x16.1 height (a0F.wrap (height-c.Height)))).bind fun x60=>
  some x60
def uU (N:Nat)(t:aD)(vi:Int)(c:aA)(height:Int):Option Int:=
 (uL N t vi c.Output).bind fun x16=>
 (bM 32 x16.1).bind fun q=>
 if x16.2 != 0 then
  some x16.2
 else
  (aZ t.Inputs vi).bind fun x25=>
  if !(jS x25.Prev.Tx c.Out.Tx ((x25.Prev.Index == c.Out.Index)&&true)) then
   some 101
  else
   if decide (16777216<height) then
    jM N t vi c height x16 true
   else
    if decide (c.Height<0) then
     jM N t vi c height x16 true
    else
     jM N t vi c height x16 (decide (height<c.Height))
def aHJ (N:Nat)(x17:Int×Int):Option (Int×Int):=
 some (x17.1,0)
def f9 (N:Nat)(t:aD)(l:List aA)(height:Int)(x17:Int×Int):Nat→Int→Option (LR (Unit) (Int×Int))
 |0,_=>none
 |m+1,x29=>
  if decide (x29<(l.length:Int)) then
   (aZ l x29).bind fun x36=>
   (uU N t x29 x36 height).bind fun x39=>
   if x39 != 0 then
    some (.ret (0,x39))
   else
    (f9 N t l height x17 m) (a0F.wrap (x29+1))
  else
   some (.brk ())
def jX (N:Nat)(t:aD)(l:List aA)(height:Int):Option (Int×Int):=
 (cV N t).bind fun x13=>
 if x13 then
  some (0,92)
 else
  (sT N t l).bind fun x17=>
  if x17.2 != 0 then
   some (0,x17.2)
  else
   (rD N t height).bind fun x25=>
   if !x25 then
    some (0,85)
   else
    (f9 N t l height x17 N 0).bind fun q=>match q with
     | .ret v=>some v
     | .brk p2=>
      aHJ N x17
def aAr (N:Nat)(l:List aA)(vi:Int):Option (List aA):=
 (sub l 0 vi).bind fun x7=>
 (b5 88 [] x7).bind fun x8=>
 (sub l (a0F.wrap (vi+1)) (l.length:Int)).bind fun x12=>
 (b5 88 x8 x12).bind fun x13=>
 some x13
def aAM (N:Nat)(l0:List aA):Option (List aA):=
 some l0
def tQ (N:Nat)(t:aD)(height:Int)(x10:(List Int)):Nat→Int→(List aA)→Option (List aA)
 |0,_,_=>none
 |m+1,x14,l1=>
  if decide (x14<(t.Outputs.length:Int)) then
   (aZ t.Outputs x14).bind fun x17=>
   (cV N t).bind fun x27=>
   (b5 88 l1 [aA.mk (aC.mk x10 (a0H.wrap x14)) x17 height x27]).bind fun x30=>
   (tQ N t height x10 m) (a0F.wrap (x14+1)) x30
  else
   some l1
def pZ (N:Nat)(t:aD)(height:Int):Option (List aA):=
 (aAX N t).bind fun x10=>
 (bM 32 x10).bind fun q=>
 (tQ N t height x10 N 0 []).bind fun p2=>
 aAM N p2
def aEB (N:Nat)(l:List aA)(c:aA)(l1:List aA):Option (List aA):=
 (nT N c).bind fun x31=>
 (b5 88 l1 [x31]).bind fun x33=>
 (sub l (l1.length:Int) (l.length:Int)).bind fun x37=>
 (b5 88 x33 x37).bind fun x38=>
 some x38
def aAx (N:Nat)(l:List aA)(c:aA)(x9:Int)(rec:Int→(List aA)→Option (List aA))(cF:List aA):Option (List aA):=
 rec (a0F.wrap (x9+1)) cF
def mU (N:Nat)(l:List aA)(c:aA):Nat→Int→(List aA)→Option (List aA)
 |0,_,_=>none
 |m+1,x9,bH=>
  if decide (x9<(l.length:Int)) then
   (aZ l x9).bind fun x14=>
   (uH N x14.Out c.Out).bind fun x19=>
   if decide (x19<0) then
    (b5 88 bH [x14]).bind fun x27=>
    aAx N l c x9 (mU N l c m) x27
   else
    aAx N l c x9 (mU N l c m) bH
  else
   some bH
def aBI (N:Nat)(l:List aA)(c:aA):Option (List aA):=
 (mU N l c N 0 []).bind fun p2=>
 aEB N l c p2
def aK3 (N:Nat)(l_1:List aA):Option ((List aA)×Int):=
 some (l_1,0)
def aBH (N:Nat)(x28:(List aA)):Nat→(List aA)→Int→Option (List aA)
 |0,_,_=>none
 |m+1,l_2,x30=>
  if decide (x30<(x28.length:Int)) then
   (aZ x28 x30).bind fun x32=>
   (aBI N l_2 x32).bind fun x36=>
   (aBH N x28 m) x36 (a0F.wrap (x30+1))
  else
   some l_2
def aBJ (N:Nat)(l:List aA)(t:aD)(height:Int):Option ((List aA)×Int):=
 (pZ N t height).bind fun x28=>
 (aBH N x28 N l 0).bind fun p3=>
 aK3 N p3
def wV (N:Nat)(l:List aA)(t:aD)(height:Int)(x14:(List aA)):Nat→Int→Option (LR (Unit) ((List aA)×Int))
 |0,_=>none
 |m+1,x16=>
  if decide (x16<(x14.length:Int)) then
   (aZ x14 x16).bind fun x18=>
   (yL N l x18.Out).bind fun x23=>
   if decide (0≤x23) then
    some (.ret ([],91))
   else
    (wV N l t height x14 m) (a0F.wrap (x16+1))
  else
   some (.brk ())
def aDJ (N:Nat)(l:List aA)(t:aD)(height:Int):Option ((List aA)×Int):=
 (pZ N t height).bind fun x14=>
 (wV N l t height x14 N 0).bind fun q=>match q with
  | .ret v=>some v
  | .brk p4=>
   aBJ N l t height
def aHN (N:Nat)(sum:Int):Option Int:=
 some sum
def r7 (N:Nat)(l:List aA):Nat→Int→Int→Option Int
 |0,_,_=>none
 |m+1,fX,x8=>
  if decide (x8<(l.length:Int)) then
   (aZ l x8).bind fun x10=>
   (r7 N l m) (a0F.wrap (fX+x10.Output.Value)) (a0F.wrap (x8+1))
  else
   some fX
def uR (N:Nat)(l:List aA):Option Int:=
 (r7 N l N 0 0).bind fun p2=>
 aHN N p2
def tZ (N:Nat)(l:aF)(b:aO)(x36:(List Int))(most:Int)(c3 l5:List aA):Option (aF×bC×Int):=
 (aZ b.Txs 0).bind fun aYN=>
 (pZ N aYN (a0F.wrap (l.Height+1))).bind fun aYp=>
 (uR N aYp).bind fun aYm=>
 if decide (most<aYm) then
  some ((aF.mk 0 (a0I 32 0) []),bC.mk [],231)
 else
  (uR N c3).bind fun aXB=>
  if decide (2100000000000000<aXB) then
   some ((aF.mk 0 (a0I 32 0) []),bC.mk [],90)
  else
   if decide (100000<(c3.length:Int)) then
    some ((aF.mk 0 (a0I 32 0) []),bC.mk [],4)
   else
    some ((aF.mk (a0F.wrap (l.Height+1)) x36 c3),bC.mk l5,0)
def pF (N:Nat)(p:aI)(l:aF)(b:aO)(x36:(List Int))(x48:Int)(x51:aD)(rec:Int→Int→(List aA)→(List aA)→Option (LR (Int×(List aA)×(List aA)) (aF×bC×Int)))(aNa:Int)(aBf l7:List aA):Option (LR (Int×(List aA)×(List aA)) (aF×bC×Int)):=
 (aDJ N aBf x51 (a0F.wrap (l.Height+1))).bind fun aT9=>
 if aT9.2 != 0 then
  some (.ret ((aF.mk 0 (a0I 32 0) []),bC.mk [],aT9.2))
 else
  rec aNa (a0F.wrap (x48+1)) aT9.1 l7
def aAW (N:Nat)(p:aI)(l:aF)(b:aO)(x36:(List Int))(oI x48:Int)(l6:List aA)(x51:aD)(x62:(List aA)×Int)(x75:Int×Int)(rec:Int→Int→(List aA)→(List aA)→Option (LR (Int×(List aA)×(List aA)) (aF×bC×Int)))(aEw:List aA):Option (LR (Int×(List aA)×(List aA)) (aF×bC×Int)):=
 (b5 88 l6 x62.1).bind fun aSz=>
 pF N p l b x36 x48 x51 rec (a0F.wrap (oI+x75.1)) aEw aSz
def gY (N:Nat)(p:aI)(l:aF)(b:aO)(x36:(List Int))(oI x48:Int)(l6:List aA)(x51:aD)(x62:(List aA)×Int)(x75:Int×Int):Nat→Int→(List aA)→Option (List aA)
 |0,_,_=>none
 |m+1,x85,c4_3=>
  if decide (x85<(x62.1.length:Int)) then
   (aZ x62.1 x85).bind fun x87=>
   (yL N c4_3 x87.Out).bind fun x95=>
   (aAr N c4_3 x95).bind fun x96=>
   (gY N p l b x36 oI x48 l6 x51 x62 x75 m) (a0F.wrap (x85+1)) x96
  else
   some c4_3
def g5 (N:Nat)(p:aI)(l:aF)(b:aO)(x36:(List Int)):Nat→Int→Int→(List aA)→(List aA)→Option (LR (Int×(List aA)×(List aA)) (aF×bC×Int))
 |0,_,_,_,_=>none
 |m+1,oI,x48,c4,l6=>
  if decide (x48<(b.Txs.length:Int)) then
   (aZ b.Txs x48).bind fun x51=>
   if decide (0<x48) then
    (zP N p c4 x51 (a0F.wrap (l.Height+1))).bind fun x62=>
    if x62.2 != 0 then
     some (.ret ((aF.mk 0 (a0I 32 0) []),bC.mk [],x62.2))
    else
     (jX N x51 x62.1 (a0F.wrap (l.Height+1))).bind fun x75=>
     if x75.2 != 0 then
      some (.ret ((aF.mk 0 (a0I 32 0) []),bC.mk [],x75.2))
     else
      (gY N p l b x36 oI x48 l6 x51 x62 x75 N 0 c4).bind fun p5=>
      aAW N p l b x36 oI x48 l6 x51 x62 x75 (g5 N p l b x36 m) p5
   else
    pF N p l b x36 x48 x51 (g5 N p l b x36 m) oI c4 l6
  else
   some (.brk (oI,c4,l6))
def uF (N:Nat)(p:aI)(l:aF)(b:aO):Option (aF×bC×Int):=
 (nM N p l b).bind fun x25=>
 if x25 != 0 then
  some ((aF.mk 0 (a0I 32 0) []),bC.mk [],x25)
 else
  (nI N b.Header).bind fun x36=>
  (bM 32 x36).bind fun q=>
  (mR N p (a0F.wrap (l.Height+1))).bind fun x44=>
  (g5 N p l b x36 N x44 0 l.Coins []).bind fun q=>match q with
   | .ret v=>some v
   | .brk p2=>
    tZ N l b x36 p2.1 p2.2.1 p2.2.2
def pW (N:Nat)(x4:Bool):Option Bool:=
 some x4
def aI1 (N:Nat)(p:aI)(c:aV):Option Bool:=
 (i5 N p).bind fun x6=>
 if x6 then
  if decide (0≤c.Height) then
   if decide (c.Height≤16777216) then
    pW N ((c.Times.length:Int) == (if 11<(a0F.wrap (c.Height+1))then 11 else(a0F.wrap (c.Height+1))))
   else
    pW N false
  else
   pW N false
 else
  pW N false
def s0 (N:Nat)(c:aV)(vh:bW)(x22:(List Int))(c3:Int)(c1:List Int):Option (aV×Int):=
 some ((aV.mk (a0F.wrap (c.Height+1)) x22 vh.Bits c3 c1),0)
def o8 (N:Nat)(c:aV)(vh:bW)(x22:(List Int))(c3:Int):Option (aV×Int):=
 (b5 4 [] c.Times).bind fun x39=>
 (b5 4 x39 [vh.Time]).bind fun x43=>
 if decide (11<(x43.length:Int)) then
  (sub x43 1 (x43.length:Int)).bind fun x51=>
  s0 N c vh x22 c3 x51
 else
  s0 N c vh x22 c3 x43
def uB (N:Nat)(p:aI)(c:aV)(vh:bW):Option (aV×Int):=
 (aI1 N p c).bind fun x11=>
 if !x11 then
  some ((aV.mk 0 (a0I 32 0) 0 0 []),6)
 else
  if c.Height == 16777216 then
   some ((aV.mk 0 (a0I 32 0) 0 0 []),4)
  else
   (nI N vh).bind fun x22=>
   (bM 32 x22).bind fun q=>
   (rem (a0F.wrap (c.Height+1)) p.Window).bind fun x32=>
   if x32 == 0 then
    o8 N c vh x22 vh.Time
   else
    o8 N c vh x22 c.First
def aH2 (N:Nat):Option Int:=
 some 0
def aCS (N:Nat)(p:aI)(x18:aV×Int)(x76:Int)(rec:Int→Option (LR (Unit) (Int)))(x91:Bool):Option (LR (Unit) (Int)):=
 if x91 then
  some (.ret 143)
 else
  rec (a0F.wrap (x76+1))
def n0 (N:Nat)(p:aI)(x18:aV×Int):Nat→Int→Option (LR (Unit) (Int))
 |0,_=>none
 |m+1,x76=>
  if decide (x76<(p.Checkpoints.length:Int)) then
   (aZ p.Checkpoints x76).bind fun x78=>
   if x78.Height == x18.1.Height then
    (bM 32 x78.Hash).bind fun q_3=>
    aCS N p x18 x76 (n0 N p x18 m) (!(x78.Hash == x18.1.Hash))
   else
    aCS N p x18 x76 (n0 N p x18 m) false
  else
   some (.brk ())
def aDn (N:Nat)(p:aI)(c:aV)(vh:bW)(now:Int):Option Int:=
 (uB N p c vh).bind fun x18=>
 if x18.2 != 0 then
  some x18.2
 else
  (bM 32 vh.Prev).bind fun q=>
  (bM 32 c.Hash).bind fun q_1=>
  if !(vh.Prev == c.Hash) then
   some 144
  else
   if decide (vh.Version<p.Version) then
    some 142
   else
    (yG N p c).bind fun x37=>
    if x37.2 != 0 then
     some x37.2
    else
     if vh.Bits != x37.1 then
      some 130
     else
      (bM 32 x18.1.Hash).bind fun q_2=>
      (aAd N x18.1.Hash vh.Bits).bind fun x53=>
      if !x53 then
       some 121
      else
       (sJ N c.Times).bind fun x60=>
       if decide (vh.Time≤x60) then
        some 140
       else
        if decide ((a0G.wrap ((a0G.wrap now)+(a0G.wrap p.Future)))<(a0G.wrap vh.Time)) then
         some 141
        else
         (n0 N p x18 N 0).bind fun q=>match q with
          | .ret v=>some v
          | .brk p2=>
           aH2 N
def aFZ (N:Nat)(vw:aS)(l2:List aO)(l3:List aF)(l4:List aV)(l5:List bC):Option aS:=
 some (aS.mk vw.Params l2 l3 l4 l5)
def v7 (N:Nat)(vw:aS)(l:List Int)(x31:Int)(rec:Int→(List aO)→(List aF)→(List aV)→(List bC)→Option ((List aO)×(List aF)×(List aV)×(List bC)))(aBW:List aO)(jV:List aF)(rB:List aV)(xA:List bC):Option ((List aO)×(List aF)×(List aV)×(List bC)):=
 rec (a0F.wrap (x31+1)) aBW jV rB xA
def sK (N:Nat)(vw:aS)(l:List Int)(x31:Int)(eZ:List aO)(eF:List aF)(dQ:List aV)(dP:List bC)(x49:aV)(x56:aO)(x62:aF×bC×Int)(rec:Int→(List aO)→(List aF)→(List aV)→(List bC)→Option ((List aO)×(List aF)×(List aV)×(List bC)))(x76:Bool):Option ((List aO)×(List aF)×(List aV)×(List bC)):=
 if x76 then
  v7 N vw l x31 rec eZ eF dQ dP
 else
  (uB N vw.Params x49 x56.Header).bind fun x83=>
  (b5 104 eZ [x56]).bind fun x90=>
  (b5 64 eF [x62.1]).bind fun x95=>
  (b5 72 dQ [x83.1]).bind fun aIG=>
  (b5 24 dP [x62.2.1]).bind fun aQq=>
  v7 N vw l x31 rec x90 x95 aIG aQq
def gX (N:Nat)(vw:aS)(l:List Int):Nat→Int→(List aO)→(List aF)→(List aV)→(List bC)→Option ((List aO)×(List aF)×(List aV)×(List bC))
 |0,_,_,_,_,_=>none
 |m+1,x31,eZ,eF,dQ,dP=>
  if decide (x31<(l.length:Int)) then
   (aZ l x31).bind fun x33=>
   (aZ eF (a0F.wrap ((eF.length:Int)-1))).bind fun x41=>
   (aZ dQ (a0F.wrap ((dQ.length:Int)-1))).bind fun x49=>
   (aEM N vw.Params x41 x49 x33).bind fun x56=>
   (uF N vw.Params x41 x56).bind fun x62=>
   if x62.2.2 != 0 then
    sK N vw l x31 eZ eF dQ dP x49 x56 x62 (gX N vw l m) true
   else
    (aDn N vw.Params x49 x56.Header 1073741824).bind fun x74=>
    sK N vw l x31 eZ eF dQ dP x49 x56 x62 (gX N vw l m) (x74 != 0)
  else
   some (eZ,eF,dQ,dP)
def aDL (N:Nat)(vw:aS)(l:List Int):Option aS:=
 (b5 104 [] vw.Blocks).bind fun x15=>
 (b5 24 [] vw.Undos).bind fun x18=>
 (b5 64 [] vw.Ledgers).bind fun x23=>
 (b5 72 [] vw.Contexts).bind fun x26=>
 (gX N vw l N 0 x15 x23 x26 x18).bind fun p2=>
 aFZ N vw p2.1 p2.2.1 p2.2.2.1 p2.2.2.2
def qV (N:Nat)(v:Int)(l:List Int):Option aS:=
 (aEX N v).bind fun x6=>
 (aDL N x6 l).bind fun x8=>
 some x8
def aEu (N:Nat)(vn:Int):Option (List Int):=
 some [vn,0,0,0]
def aGE (N:Nat)(x:Int):Option Int:=
 if decide (4294967296≤x) then
  none
 else
  if decide (65536≤x) then
   (shr .u64 x 16).bind fun x10=>
   if decide (256≤x10) then
    none
   else
    (aU3 (⟨#[0,1,2,2,3,3,3,3,4,4,4,4,4,4,4,4,5,5,5,5,5,5,5,5,5,5,5,5,5,5,5,5,6,6,6,6,6,6,6,6,6,6,6,6,6,6,6,6,6,6,6,6,6,6,6,6,6,6,6,6,6,6,6,6,7,7,7,7,7,7,7,7,7,7,7,7,7,7,7,7,7,7,7,7,7,7,7,7,7,7,7,7,7,7,7,7,7,7,7,7,7,7,7,7,7,7,7,7,7,7,7,7,7,7,7,7,7,7,7,7,7,7,7,7,7,7,7,7,8,8,8,8,8,8,8,8,8,8,8,8,8,8,8,8,8,8,8,8,8,8,8,8,8,8,8,8,8,8,8,8,8,8,8,8,8,8,8,8,8,8,8,8,8,8,8,8,8,8,8,8,8,8,8,8,8,8,8,8,8,8,8,8,8,8,8,8,8,8,8,8,8,8,8,8,8,8,8,8,8,8,8,8,8,8,8,8,8,8,8,8,8,8,8,8,8,8,8,8,8,8,8,8,8,8,8,8,8,8,8,8,8,8,8,8,8,8,8,8,8,8,8,8,8,8,8,8]⟩) (a0J.wrap x10)).bind fun x22=>
    some (a0F.wrap ((a0F.wrap (0+16))+(a0F.wrap x22)))
  else
   none
def aLm (N:Nat)(va:List Int):Nat→Int→Option (LR (Unit) (Int))
 |0,_=>none
 |m+1,vi=>
  if decide (0≤vi) then
   (cB 4 va vi).bind fun x9=>
   if x9 != 0 then
    (aGE N x9).bind fun x17=>
    some (.ret (a0F.wrap ((a0F.wrap (64*vi))+x17)))
   else
    (aLm N va m) (a0F.wrap (vi-1))
  else
   none
def aQ4 (N:Nat)(va:List Int):Option Int:=
 (aLm N va N 3).bind fun q=>match q with
  | .ret v=>some v
  | .brk p1=>
   none
def aLI (N:Nat)(l1:List Int):Option (List Int):=
 (bM 4 l1).bind fun q=>
 some l1
def aLs (N:Nat)(va:List Int)(vn:Int):Nat→Int→(List Int)→Option (List Int)
 |0,_,_=>none
 |m+1,vi,l2=>
  if decide (vi<4) then
   (cB 4 va (a0F.wrap (vi-(a0F.wrap (a0M vn 64))))).bind fun x28=>
   (shl .u64 x28 (a0L vn 64)).bind fun x31=>
   (cB 4 l2 vi).bind fun x32=>
   if decide ((a0F.wrap (a0M vn 64))<vi) then
    none
   else
    (aLs N va vn m) (a0F.wrap (vi+1)) (l2.set (a0K vi) x31)
  else
   some l2
def aQN (N:Nat)(va:List Int)(vn:Int):Option (List Int):=
 if decide (vn<0) then
  none
 else
  if decide (256≤vn) then
   none
  else
   (aLs N va vn N (a0F.wrap (a0M vn 64)) (a0I 4 0)).bind fun p2=>
   aLI N p2
def aHH (N:Nat)(va:List Int)(vn:Int):Option (List Int):=
 if decide (vn<0) then
  none
 else
  (bM 4 va).bind fun q=>
  (aQN N va vn).bind fun x13=>
  (bM 4 x13).bind fun q_1=>
  some x13
def aED (N:Nat)(kM:Int):Option ((List Int)×Int):=
 (aEu N (a0G.wrap (bits .and .u32 kM 16777215))).bind fun x10=>
 (bM 4 x10).bind fun q=>
 (shr .u32 kM 24).bind fun x12=>
 if(bits .and .u32 kM 8388608) != 0 then
  none
 else
  (aQ4 N x10).bind fun x21=>
  if decide (256<(a0F.wrap (x21+(a0F.wrap (8*(a0F.wrap ((a0F.wrap x12)-3))))))) then
   none
  else
   (aHH N x10 (a0F.wrap (8*(a0F.wrap ((a0F.wrap x12)-3))))).bind fun x29=>
   (bM 4 x29).bind fun q_1=>
   if x29 == [0,0,0,0] then
    none
   else
    some (x29,0)
def aLB (N:Nat)(va b:List Int):Nat→Option (LR (Unit) (Int))
 |0=>none
 |m+1=>
  if decide (0≤3) then
   (cB 4 va 3).bind fun x11=>
   (cB 4 b 3).bind fun x14=>
   if decide (x11<x14) then
    some (.ret (-1))
   else
    none
  else
   none
def aIB (N:Nat)(va b:List Int):Option Int:=
 (aLB N va b N).bind fun q=>match q with
  | .ret v=>some v
  | .brk p1=>
   none
def zC (N:Nat)(p:aI):Option Bool:=
 (aED N p.Genesis.Bits).bind fun x81=>
 (bM 4 x81.1).bind fun q_1=>
 if x81.2 == 0 then
  (aIB N x81.1 p.Limit).bind fun x90=>
  some (decide (x90≤0))
 else
  none
def zL (N:Nat)(p:aI):Nat→Option Unit
 |0=>none
 |m+1=>
  if decide (0<(p.Checkpoints.length:Int)) then
   none
  else
   some ()
def nV (N:Nat)(p:aI):Option Bool:=
 (bM 4 p.Limit).bind fun q=>
 if p.Limit == [0,0,0,0] then
  none
 else
  if decide (p.Window<1) then
   none
  else
   if decide (4096<p.Window) then
    none
   else
    if decide (p.Spacing<1) then
     none
    else
     if decide (1048576<p.Spacing) then
      none
     else
      if decide (p.Subsidy<0) then
       none
      else
       if decide (2100000000000000<p.Subsidy) then
        none
       else
        if decide (p.Halving<1) then
         none
        else
         if decide (16777216<p.Halving) then
          none
         else
          if decide (p.Maturity<0) then
           none
          else
           if decide (16777216<p.Maturity) then
            none
           else
            (zL N p N).bind fun p2=>
            zC N p
def aBn (N:Nat)(l0:List Int):Option (List Int):=
 some l0
def qH (N:Nat)(vn cW:Int):Nat→Int→(List Int)→Option (List Int)
 |0,_,_=>none
 |m+1,x10,aK=>
  if decide (x10<cW) then
   (shr .u64 vn (a0F.wrap (8*x10))).bind fun x18=>
   (aZ aK x10).bind fun x20=>
   (qH N vn cW m) (a0F.wrap (x10+1)) (aK.set (a0K x10) (a0J.wrap x18))
  else
   some aK
def r9 (N:Nat)(vn cW:Int):Option (List Int):=
 (mks 1 0 cW).bind fun x8=>
 (qH N vn cW N 0 x8).bind fun p2=>
 aBn N p2
def fS (N:Nat)(b vs:List Int):Option (List Int):=
 (mks 1 0 (a0F.wrap ((b.length:Int)+(vs.length:Int)))).bind fun x11=>
 (b5 1 (x11.take 0) b).bind fun x14=>
 (b5 1 x14 vs).bind fun x17=>
 some x17
def dS (N:Nat)(b:List Int)(vn:Int):Option (List Int):=
 (r9 N (a0G.wrap vn) 4).bind fun x8=>
 (fS N b x8).bind fun x9=>
 some x9
def jJ (N:Nat)(b vh:List Int):Option (List Int):=
 (bM 32 vh).bind fun q=>
 (fS N b vh).bind fun x7=>
 some x7
def lQ (N:Nat)(vh:bW):Option (List Int):=
 (dS N [] vh.Version).bind fun x6=>
 (bM 32 vh.Prev).bind fun q=>
 (jJ N x6 vh.Prev).bind fun x10=>
 (bM 32 vh.Root).bind fun q_1=>
 (jJ N x10 vh.Root).bind fun x14=>
 (dS N x14 vh.Time).bind fun x18=>
 (dS N x18 vh.Bits).bind fun x22=>
 (dS N x22 vh.Nonce).bind fun x26=>
 some x26
def aNg (N:Nat)(l0:List Int):Option (List Int):=
 some l0
def aBQ (N:Nat)(vn:Int):Nat→Int→(List Int)→Option (List Int)
 |0,_,_=>none
 |m+1,x18,aK=>
  if decide (x18<8) then
   (shr .u64 (a0G.wrap (8*vn)) (a0F.wrap (56-(a0F.wrap (8*x18))))).bind fun x27=>
   (b5 1 aK [a0J.wrap x27]).bind fun x30=>
   (aBQ N vn m) (a0F.wrap (x18+1)) x30
  else
   some aK
def aLa (N:Nat)(vn:Int):Option (List Int):=
 (mkl 1 0 (a0G.wrap (1+(a0L (a0G.wrap (64-(a0L (a0G.wrap (vn+9)) 64))) 64))) (a0G.wrap (9+(a0L (a0G.wrap (64-(a0L (a0G.wrap (vn+9)) 64))) 64)))).bind fun x15=>
 (aZ x15 0).bind fun x17=>
 (aBQ N vn N 0 (x15.set (a0K 0) 128)).bind fun p2=>
 aNg N p2
def aMx (N:Nat)(l0:List Int):Option (List Int):=
 some l0
def aBS (N:Nat)(parts:List (List Int)):Nat→Int→(List Int)→Option (List Int)
 |0,_,_=>none
 |m+1,x8,aK=>
  if decide (x8<(parts.length:Int)) then
   (aZ parts x8).bind fun x10=>
   (b5 1 aK x10).bind fun x14=>
   (aBS N parts m) (a0F.wrap (x8+1)) x14
  else
   some aK
def aHT (N:Nat)(parts:List (List Int)):Option (List Int):=
 (aBS N parts N 0 []).bind fun p2=>
 aMx N p2
def dI (N:Nat)(x vn:Int):Option Int:=
 (lO N x (a0F.wrap (0-vn))).bind fun x8=>
 some x8
def vC (N:Nat)(bH:List Int):Option (List Int):=
 (bM 64 bH).bind fun q=>
 some bH
def mJ (N:Nat):Nat→Int→(List Int)→Option (List Int)
 |0,_,_=>none
 |m+1,vi,cF=>
  if decide (vi<64) then
   (cB 64 cF (a0F.wrap (vi-15))).bind fun x37=>
   (dI N x37 7).bind fun x39=>
   (dI N x37 18).bind fun x44=>
   (shr .u32 x37 3).bind fun x50=>
   (cB 64 cF (a0F.wrap (vi-2))).bind fun x54=>
   (dI N x54 17).bind fun x56=>
   (dI N x54 19).bind fun x61=>
   (shr .u32 x54 10).bind fun x67=>
   (cB 64 cF (a0F.wrap (vi-16))).bind fun x72=>
   (cB 64 cF (a0F.wrap (vi-7))).bind fun x78=>
   (cB 64 cF vi).bind fun x83=>
   (mJ N m) (a0F.wrap (vi+1)) (cF.set (a0K vi) (a0H.wrap ((a0H.wrap ((a0H.wrap (x72+(bits .xor .u32 (bits .xor .u32 x39 x44) x50)))+x78))+(bits .xor .u32 (bits .xor .u32 x56 x61) x67))))
  else
   some cF
def vO (N:Nat)(l1:List Int):Option (List Int):=
 (mJ N N 16 l1).bind fun p3=>
 vC N p3
def aBC (N:Nat)(block:List Int)(x9:Int)(rec:Int→(List Int)→Option (List Int))(eZ:List Int):Option (List Int):=
 rec (a0F.wrap (x9+1)) eZ
def fN (N:Nat)(block:List Int)(x9:Int):Nat→Int→(List Int)→Option (List Int)
 |0,_,_=>none
 |m+1,x12,aBW=>
  if decide (x12<4) then
   (cB 64 aBW x9).bind fun x17=>
   (shl .u32 x17 8).bind fun x19=>
   (cB 64 block (a0F.wrap ((a0F.wrap (4*x9))+x12))).bind fun x24=>
   (fN N block x9 m) (a0F.wrap (x12+1)) (aBW.set (a0K x9) (bits .or .u32 x19 (a0H.wrap x24)))
  else
   some aBW
def kK (N:Nat)(block:List Int):Nat→Int→(List Int)→Option (List Int)
 |0,_,_=>none
 |m+1,x9,l2=>
  if decide (x9<16) then
   (fN N block x9 N 0 l2).bind fun p6=>
   aBC N block x9 (kK N block m) p6
  else
   some l2
def sG (N:Nat)(block:List Int):Option (List Int):=
 (kK N block N 0 (a0I 64 0)).bind fun p4=>
 vO N p4
def vH (N:Nat)(cS:List Int)(va b c d ve f g vh:Int):Option (List Int):=
 (cB 8 cS 0).bind fun x98=>
 (cB 8 cS 1).bind fun aIG=>
 (cB 8 cS 2).bind fun aVd=>
 (cB 8 cS 3).bind fun aUN=>
 (cB 8 cS 4).bind fun aFu=>
 (cB 8 cS 5).bind fun aUE=>
 (cB 8 cS 6).bind fun aUw=>
 (cB 8 cS 7).bind fun aUv=>
 some [a0H.wrap (x98+va),a0H.wrap (aIG+b),a0H.wrap (aVd+c),a0H.wrap (aUN+d),a0H.wrap (aFu+ve),a0H.wrap (aUE+f),a0H.wrap (aUw+g),a0H.wrap (aUv+vh)]
def mN (N:Nat)(cS:List Int)(x18:(List Int)):Nat→Int→Int→Int→Int→Int→Int→Int→Int→Int→Option (Int×Int×Int×Int×Int×Int×Int×Int)
 |0,_,_,_,_,_,_,_,_,_=>none
 |m+1,va_1,b_1,c_1,d_1,ve_1,f_1,g_1,vh_1,x35=>
  if decide (x35<64) then
   (dI N ve_1 6).bind fun x40=>
   (dI N ve_1 11).bind fun x42=>
   (dI N ve_1 25).bind fun x45=>
   (cB 64 aHu x35).bind fun x58=>
   (cB 64 x18 x35).bind fun x62=>
   (dI N va_1 2).bind fun x66=>
   (dI N va_1 13).bind fun x68=>
   (dI N va_1 22).bind fun x71=>
   (mN N cS x18 m) (a0H.wrap ((a0H.wrap ((a0H.wrap ((a0H.wrap ((a0H.wrap (vh_1+(bits .xor .u32 (bits .xor .u32 x40 x42) x45)))+(bits .xor .u32 (bits .and .u32 ve_1 f_1) (bits .and .u32 (bits .xor .u32 (a0N .u32) ve_1) g_1))))+x58))+x62))+(a0H.wrap ((bits .xor .u32 (bits .xor .u32 x66 x68) x71)+(bits .xor .u32 (bits .xor .u32 (bits .and .u32 va_1 b_1) (bits .and .u32 va_1 c_1)) (bits .and .u32 b_1 c_1)))))) va_1 b_1 c_1 (a0H.wrap (d_1+(a0H.wrap ((a0H.wrap ((a0H.wrap ((a0H.wrap (vh_1+(bits .xor .u32 (bits .xor .u32 x40 x42) x45)))+(bits .xor .u32 (bits .and .u32 ve_1 f_1) (bits .and .u32 (bits .xor .u32 (a0N .u32) ve_1) g_1))))+x58))+x62)))) ve_1 f_1 g_1 (a0F.wrap (x35+1))
  else
   some (va_1,b_1,c_1,d_1,ve_1,f_1,g_1,vh_1)
def lR (N:Nat)(cS block:List Int):Option (List Int):=
 (bM 64 block).bind fun q=>
 (sG N block).bind fun x18=>
 (bM 64 x18).bind fun q_1=>
 (cB 8 cS 0).bind fun x19=>
 (cB 8 cS 1).bind fun x21=>
 (cB 8 cS 2).bind fun x23=>
 (cB 8 cS 3).bind fun x25=>
 (cB 8 cS 4).bind fun x27=>
 (cB 8 cS 5).bind fun x29=>
 (cB 8 cS 6).bind fun x31=>
 (cB 8 cS 7).bind fun x33=>
 (mN N cS x18 N x19 x21 x23 x25 x27 x29 x31 x33 0).bind fun p2=>
 vH N cS p2.1 p2.2.1 p2.2.2.1 p2.2.2.2.1 p2.2.2.2.2.1 p2.2.2.2.2.2.1 p2.2.2.2.2.2.2.1 p2.2.2.2.2.2.2.2
def aIy (N:Nat)(bH:List Int):Option (List Int):=
 (bM 32 bH).bind fun q=>
 some bH
def aE1 (N:Nat)(l1:List Int):Nat→Int→(List Int)→Option (List Int)
 |0,_,_=>none
 |m+1,x31,l2=>
  if decide (x31<32) then
   (cB 8 l1 (a0F.wrap (a0M x31 4))).bind fun x37=>
   (shr .u32 x37 (a0F.wrap (24-(a0F.wrap ((a0L x31 4)*8))))).bind fun x43=>
   (cB 32 l2 x31).bind fun x45=>
   (aE1 N l1 m) (a0F.wrap (x31+1)) (l2.set (a0K x31) (a0J.wrap x43))
  else
   some l2
def aII (N:Nat)(l1:List Int):Option (List Int):=
 (aE1 N l1 N 0 (a0I 32 0)).bind fun p3=>
 aIy N p3
def aE4 (N:Nat)(x14:(List Int)):Nat→Int→(List Int)→Option (List Int)
 |0,_,_=>none
 |m+1,x19,cF=>
  if decide (x19<(a0F.wrap (a0M (x14.length:Int) 64))) then
   (bM 8 cF).bind fun q_1=>
   (sub x14 (a0F.wrap (64*x19)) (x14.length:Int)).bind fun x26=>
   (arp 64 x26).bind fun x27=>
   (lR N cF x27).bind fun x29=>
   (bM 8 x29).bind fun q_2=>
   (aE4 N x14 m) (a0F.wrap (x19+1)) x29
  else
   some cF
def yD (N:Nat)(b:List Int):Option (List Int):=
 (aLa N (a0G.wrap (b.length:Int))).bind fun x12=>
 (aHT N [b,x12]).bind fun x14=>
 (aE4 N x14 N 0 aAJ).bind fun p4=>
 aII N p4
def aCj (N:Nat)(b:List Int):Option (List Int):=
 (yD N b).bind fun x5=>
 (bM 32 x5).bind fun q=>
 (yD N x5).bind fun x7=>
 (bM 32 x7).bind fun q_1=>
 some x7
def aBX (N:Nat)(vh:bW):Option (List Int):=
 (lQ N vh).bind fun x4=>
 (aCj N x4).bind fun x5=>
 (bM 32 x5).bind fun q=>
 some x5
def r8 (N:Nat)(p:aI):Option (aF×Int):=
 (nV N p).bind fun x5=>
 if !x5 then
  some ((aF.mk 0 (a0I 32 0) []),6)
 else
  (aBX N p.Genesis).bind fun x10=>
  (bM 32 x10).bind fun q=>
  some ((aF.mk 0 x10 []),0)
def aBg (N:Nat)(a b:List Int):Option Int:=some (aQe a b)
def aEy (N:Nat)(va b:List Int):Option Int:=
 (aBg N va b).bind fun x7=>
 some x7
def tU (N:Nat)(x:Int):Option Bool:=
 some (x != x)
def xD (N:Nat)(x y:Int):Option Int:=
 (tU N x).bind fun x8=>
 (tU N y).bind fun x10=>
 if x8 then
  if x10 then
   some 0
  else
   some (-1)
 else
  if x10 then
   some 1
  else
   if decide (x<y) then
    some (-1)
   else
    if decide (y<x) then
     some 1
    else
     some 0
def aEh (N:Nat):Option Int:=
 some 0
def uK (N:Nat)(aBd:List Int):Nat→Int→Option (LR (Unit) (Int))
 |0,_=>none
 |m+1,x8=>
  if decide (x8<(aBd.length:Int)) then
   (aZ aBd x8).bind fun x10=>
   if x10 != 0 then
    some (.ret x10)
   else
    (uK N aBd m) (a0F.wrap (x8+1))
  else
   some (.brk ())
def aE3 (N:Nat)(aBd:List Int):Option Int:=
 (uK N aBd N 0).bind fun q=>match q with
  | .ret v=>some v
  | .brk p2=>
   aEh N
def aCl (N:Nat)(va b:aC):Option Int:=
 (bM 32 va.Tx).bind fun q=>
 (bM 32 b.Tx).bind fun q_1=>
 (aEy N va.Tx b.Tx).bind fun x9=>
 (xD N va.Index b.Index).bind fun x14=>
 (aE3 N [x9,x14]).bind fun x16=>
 some x16
def aGt (N:Nat)(sum:Int):Option (Int×Bool):=
 some (sum,true)
def vY (N:Nat)(l:List aA)(fX x10:Int)(x12:aA)(rec:Int→Int→Option (LR (Int) (Int×Bool)))(x24:Bool):Option (LR (Int) (Int×Bool)):=
 if x24 then
  some (.ret (0,false))
 else
  rec (a0F.wrap (fX+x12.Output.Value)) (a0F.wrap (x10+1))
def l8 (N:Nat)(l:List aA):Nat→Int→Int→Option (LR (Int) (Int×Bool))
 |0,_,_=>none
 |m+1,fX,x10=>
  if decide (x10<(l.length:Int)) then
   (aZ l x10).bind fun x12=>
   if decide (x12.Output.Value<0) then
    vY N l fX x10 x12 (l8 N l m) true
   else
    vY N l fX x10 x12 (l8 N l m) (decide ((a0F.wrap (2100000000000000-fX))<x12.Output.Value))
  else
   some (.brk fX)
def oZ (N:Nat)(l:List aA):Option (Int×Bool):=
 (l8 N l N 0 0).bind fun q=>match q with
  | .ret v=>some v
  | .brk p2=>
   aGt N p2
def aBr (N:Nat)(l:aF):Option Bool:=
 (oZ N l.Coins).bind fun x65=>
 some x65.2
def mO (N:Nat)(l:aF)(x24:Int)(rec:Int→Option (LR (Unit) (Bool)))(x60:Bool):Option (LR (Unit) (Bool)):=
 if x60 then
  some (.ret false)
 else
  rec (a0F.wrap (x24+1))
def mA (N:Nat)(l:aF)(x24:Int)(x27:aA)(rec:Int→Option (LR (Unit) (Bool)))(x43:Bool):Option (LR (Unit) (Bool)):=
 if x43 then
  some (.ret false)
 else
  if decide (520<(x27.Output.Script.length:Int)) then
   mO N l x24 rec true
  else
   if decide (x27.Height<1) then
    mO N l x24 rec true
   else
    mO N l x24 rec (decide (l.Height<x27.Height))
def fH (N:Nat)(l:aF):Nat→Int→Option (LR (Unit) (Bool))
 |0,_=>none
 |m+1,x24=>
  if decide (x24<(l.Coins.length:Int)) then
   (aZ l.Coins x24).bind fun x27=>
   if decide (0<x24) then
    (aZ l.Coins (a0F.wrap (x24-1))).bind fun x36=>
    (aCl N x36.Out x27.Out).bind fun x41=>
    mA N l x24 x27 (fH N l m) (decide (0≤x41))
   else
    mA N l x24 x27 (fH N l m) false
  else
   some (.brk ())
def kI (N:Nat)(l:aF)(x20:Bool):Option Bool:=
 if x20 then
  some false
 else
  (fH N l N 0).bind fun q=>match q with
   | .ret v=>some v
   | .brk p3=>
    aBr N l
def wY (N:Nat)(l:aF):Option Bool:=
 if decide (l.Height<0) then
  kI N l true
 else
  if decide (16777216<l.Height) then
   kI N l true
  else
   kI N l (decide (100000<(l.Coins.length:Int)))
def aB3 (N:Nat)(b:List Int)(vn:Int):Option (List Int):=
 (r9 N (a0G.wrap vn) 2).bind fun x8=>
 (fS N b x8).bind fun x9=>
 some x9
def mK (N:Nat)(b:List Int)(vn:Int):Option (List Int):=
 (r9 N vn 8).bind fun x7=>
 (fS N b x7).bind fun x8=>
 some x8
def g9 (N:Nat)(b:List Int)(vn:Int):Option (List Int):=
 if decide (vn<253) then
  (fS N b [a0J.wrap vn]).bind fun x12=>
  some x12
 else
  if decide (vn<65536) then
   (fS N b [253]).bind fun x18=>
   (aB3 N x18 (IntKind.u16.wrap vn)).bind fun x21=>
   some x21
  else
   if decide (vn<4294967296) then
    (fS N b [254]).bind fun x27=>
    (dS N x27 (a0H.wrap vn)).bind fun x30=>
    some x30
   else
    (fS N b [255]).bind fun x33=>
    (mK N x33 vn).bind fun x35=>
    some x35
def aGf (N:Nat)(o:aC):Option (List Int):=
 (bM 32 o.Tx).bind fun q=>
 (jJ N [] o.Tx).bind fun x5=>
 (dS N x5 o.Index).bind fun x8=>
 some x8
def kQ (N:Nat)(b vs:List Int):Option (List Int):=
 (g9 N b (a0G.wrap (vs.length:Int))).bind fun x9=>
 (fS N x9 vs).bind fun x11=>
 some x11
def aJ4 (N:Nat)(l0:List Int):Option (List Int):=
 some l0
def aGc (N:Nat)(t:aD)(x79:Int)(rec:Int→(List Int)→Option (List Int))(d9:List Int):Option (List Int):=
 rec (a0F.wrap (x79+1)) d9
def rX (N:Nat)(t:aD)(x79:Int)(x81:bL):Nat→Int→(List Int)→Option (List Int)
 |0,_,_=>none
 |m+1,x93,gP=>
  if decide (x93<(x81.Witness.length:Int)) then
   (aZ x81.Witness x93).bind fun x95=>
   (kQ N [] x95).bind fun x99=>
   (b5 1 gP x99).bind fun aNY=>
   (rX N t x79 x81 m) (a0F.wrap (x93+1)) aNY
  else
   some gP
def oO (N:Nat)(t:aD):Nat→Int→(List Int)→Option (List Int)
 |0,_,_=>none
 |m+1,x79,aK=>
  if decide (x79<(t.Inputs.length:Int)) then
   (aZ t.Inputs x79).bind fun x81=>
   (g9 N [] (a0G.wrap (x81.Witness.length:Int))).bind fun x88=>
   (b5 1 aK x88).bind fun x89=>
   (rX N t x79 x81 N 0 x89).bind fun p6=>
   aGc N t x79 (oO N t m) p6
  else
   some aK
def aFt (N:Nat)(t:aD)(bD:Bool)(bH:List Int):Option (List Int):=
 (dS N [] t.Lock).bind fun x71=>
 (b5 1 bH x71).bind fun x72=>
 if !bD then
  some x72
 else
  (oO N t N 0 x72).bind fun p4=>
  aJ4 N p4
def r6 (N:Nat)(t:aD)(bD:Bool):Nat→Int→(List Int)→Option (List Int)
 |0,_,_=>none
 |m+1,x52,cF=>
  if decide (x52<(t.Outputs.length:Int)) then
   (aZ t.Outputs x52).bind fun x54=>
   (mK N [] (a0G.wrap x54.Value)).bind fun x60=>
   (b5 1 cF x60).bind fun x61=>
   (kQ N [] x54.Script).bind fun x65=>
   (b5 1 x61 x65).bind fun x66=>
   (r6 N t bD m) (a0F.wrap (x52+1)) x66
  else
   some cF
def aFL (N:Nat)(t:aD)(bD:Bool)(l1:List Int):Option (List Int):=
 (g9 N [] (a0G.wrap (t.Outputs.length:Int))).bind fun x47=>
 (b5 1 l1 x47).bind fun x48=>
 (r6 N t bD N 0 x48).bind fun p7=>
 aFt N t bD p7
def sP (N:Nat)(t:aD)(bD:Bool):Nat→Int→(List Int)→Option (List Int)
 |0,_,_=>none
 |m+1,x27,l1_3=>
  if decide (x27<(t.Inputs.length:Int)) then
   (aZ t.Inputs x27).bind fun x29=>
   (aGf N x29.Prev).bind fun x34=>
   (b5 1 l1_3 x34).bind fun x35=>
   (dS N [] x29.Sequence).bind fun x39=>
   (b5 1 x35 x39).bind fun x40=>
   (sP N t bD m) (a0F.wrap (x27+1)) x40
  else
   some l1_3
def aD3 (N:Nat)(t:aD)(bD:Bool):Option (List Int):=
 (dS N [] t.Version).bind fun x16=>
 (g9 N [] (a0G.wrap (t.Inputs.length:Int))).bind fun x22=>
 (b5 1 x16 x22).bind fun x23=>
 (sP N t bD N 0 x23).bind fun p8=>
 aFL N t bD p8
def aI3 (N:Nat)(t:aD):Option Bool:=
 (aD3 N t true).bind fun x60=>
 some (decide ((x60.length:Int)≤20000))
def aI8 (N:Nat)(t:aD)(x39:Int)(rec:Int→Option (LR (Unit) (Bool))):Option (LR (Unit) (Bool)):=
 rec (a0F.wrap (x39+1))
def aE7 (N:Nat)(t:aD)(x39:Int)(x41:bL):Nat→Int→Option (LR (Unit) (Bool))
 |0,_=>none
 |m+1,x50=>
  if decide (x50<(x41.Witness.length:Int)) then
   (aZ x41.Witness x50).bind fun x52=>
   if decide (520<(x52.length:Int)) then
    some (.ret false)
   else
    (aE7 N t x39 x41 m) (a0F.wrap (x50+1))
  else
   some (.brk ())
def xR (N:Nat)(t:aD):Nat→Int→Option (LR (Unit) (Bool))
 |0,_=>none
 |m+1,x39=>
  if decide (x39<(t.Inputs.length:Int)) then
   (aZ t.Inputs x39).bind fun x41=>
   if decide (32<(x41.Witness.length:Int)) then
    some (.ret false)
   else
    (aE7 N t x39 x41 N 0).bind fun q=>match q with
     | .ret v=>some (.ret v)
     | .brk p6=>
      aI8 N t x39 (xR N t m)
  else
   some (.brk ())
def aFf (N:Nat)(t:aD):Option Bool:=
 (xR N t N 0).bind fun q=>match q with
  | .ret v=>some v
  | .brk p4=>
   aI3 N t
def aE5 (N:Nat)(t:aD)(x22:Int)(rec:Int→Option (LR (Unit) (Bool)))(x34:Bool):Option (LR (Unit) (Bool)):=
 if x34 then
  some (.ret false)
 else
  rec (a0F.wrap (x22+1))
def tO (N:Nat)(t:aD):Nat→Int→Option (LR (Unit) (Bool))
 |0,_=>none
 |m+1,x22=>
  if decide (x22<(t.Outputs.length:Int)) then
   (aZ t.Outputs x22).bind fun x24=>
   if decide (x24.Value<0) then
    aE5 N t x22 (tO N t m) true
   else
    aE5 N t x22 (tO N t m) (decide (520<(x24.Script.length:Int)))
  else
   some (.brk ())
def aB2 (N:Nat)(t:aD)(x18:Bool):Option Bool:=
 if x18 then
  some false
 else
  (tO N t N 0).bind fun q=>match q with
   | .ret v=>some v
   | .brk p7=>
    aFf N t
def aFg (N:Nat)(t:aD):Option Bool:=
 if decide (64<(t.Inputs.length:Int)) then
  aB2 N t true
 else
  aB2 N t (decide (64<(t.Outputs.length:Int)))
def aA5 (N:Nat)(t:aD)(bD:Bool):Option ((List Int)×Int):=
 (aFg N t).bind fun x7=>
 if !x7 then
  some ([],4)
 else
  (aD3 N t bD).bind fun x11=>
  some (x11,0)
def aCo (N:Nat)(l0:List Int):Option ((List Int)×Int):=
 if decide (100000<(l0.length:Int)) then
  some ([],4)
 else
  some (l0,0)
def vE (N:Nat)(b:aO):Nat→Int→(List Int)→Option (LR ((List Int)) ((List Int)×Int))
 |0,_,_=>none
 |m+1,x24,aK=>
  if decide (x24<(b.Txs.length:Int)) then
   (aZ b.Txs x24).bind fun x26=>
   (aA5 N x26 true).bind fun x30=>
   if x30.2 != 0 then
    some (.ret ([],4))
   else
    (b5 1 aK x30.1).bind fun x37=>
    (vE N b m) (a0F.wrap (x24+1)) x37
  else
   some (.brk aK)
def aCh (N:Nat)(b:aO):Option ((List Int)×Int):=
 if decide (256<(b.Txs.length:Int)) then
  some ([],4)
 else
  (lQ N b.Header).bind fun x15=>
  (g9 N x15 (a0G.wrap (b.Txs.length:Int))).bind fun x20=>
  (vE N b N 0 x20).bind fun q=>match q with
   | .ret v=>some v
   | .brk p2=>
    aCo N p2
def aNn (N:Nat)(o:aC):Option Bool:=
 some (jS o.Tx (a0I 32 0) ((o.Index == 4294967295)&&true))
def yU (N:Nat)(x2:Bool):Option Bool:=
 some x2
def qZ (N:Nat)(t:aD):Option Bool:=
 if(t.Inputs.length:Int) == 1 then
  (aZ t.Inputs 0).bind fun x10=>
  (aNn N x10.Prev).bind fun x13=>
  yU N x13
 else
  yU N false
def aLJ (N:Nat):Option Bool:=
 some true
def uV (N:Nat)(l:List aQ):Nat→Int→Int→Option (LR (Unit) (Bool))
 |0,_,_=>none
 |m+1,sum,x8=>
  if decide (x8<(l.length:Int)) then
   (aZ l x8).bind fun x10=>
   if decide ((a0F.wrap (2100000000000000-sum))<x10.Value) then
    some (.ret false)
   else
    (uV N l m) (a0F.wrap (sum+x10.Value)) (a0F.wrap (x8+1))
  else
   some (.brk ())
def aIi (N:Nat)(l:List aQ):Option Bool:=
 (uV N l N 0 0).bind fun q=>match q with
  | .ret v=>some v
  | .brk p2=>
   aLJ N
def aDs (N:Nat)(x46:Bool):Option Int:=
 if x46 then
  some 92
 else
  some 0
def aHe (N:Nat)(t:aD)(l1:List (aC×Bool)):Option Int:=
 if(oP tG l1 (aC.mk (a0I 32 0) 4294967295) false) then
  (qZ N t).bind fun x44=>
  aDs N (!x44)
 else
  aDs N false
def aDq (N:Nat)(t:aD):Nat→Int→(List (aC×Bool))→Option (LR ((List (aC×Bool))) (Int))
 |0,_,_=>none
 |m+1,x27,bH=>
  if decide (x27<(t.Inputs.length:Int)) then
   (aZ t.Inputs x27).bind fun x29=>
   if(oP tG bH x29.Prev false) then
    some (.ret 91)
   else
    (aDq N t m) (a0F.wrap (x27+1)) (wX tG bH x29.Prev true)
  else
   some (.brk bH)
def aDx (N:Nat)(t:aD)(x18:Bool):Option Int:=
 if x18 then
  some 93
 else
  (aIi N t.Outputs).bind fun x21=>
  if !x21 then
   some 90
  else
   (aDq N t N 0 []).bind fun q=>match q with
    | .ret v=>some v
    | .brk p4=>
     aHe N t p4
def aFM (N:Nat)(t:aD):Option Int:=
 (aFg N t).bind fun x7=>
 if !x7 then
  some 4
 else
  if(t.Inputs.length:Int) == 0 then
   aDx N t true
  else
   aDx N t ((t.Outputs.length:Int) == 0)
def aDI (N:Nat)(t:aD)(bD:Bool):Option (List Int):=
 (aA5 N t bD).bind fun x10=>
 if x10.2 != 0 then
  some [0,0,0,0,0,0,0,0,0,0,0,0,0,0,0,0,0,0,0,0,0,0,0,0,0,0,0,0,0,0,0,0]
 else
  (aCj N x10.1).bind fun x17=>
  (bM 32 x17).bind fun q=>
  some x17
def aMY (N:Nat)(t:aD):Option (List Int):=
 (aDI N t false).bind fun x4=>
 (bM 32 x4).bind fun q=>
 some x4
def aCO (N:Nat):Option Int:=
 some 0
def aC0 (N:Nat)(l:List aD)(x74:Int)(rec:Int→(List (aC×Bool))→Option (LR (Unit) (Int)))(d9:List (aC×Bool)):Option (LR (Unit) (Int)):=
 rec (a0F.wrap (x74+1)) d9
def n8 (N:Nat)(l:List aD)(x74:Int)(x76:aD):Nat→Int→(List (aC×Bool))→Option (LR ((List (aC×Bool))) (Int))
 |0,_,_=>none
 |m+1,x81,gP=>
  if decide (x81<(x76.Inputs.length:Int)) then
   (aZ x76.Inputs x81).bind fun x83=>
   if(oP tG gP x83.Prev false) then
    some (.ret 91)
   else
    (n8 N l x74 x76 m) (a0F.wrap (x81+1)) (wX tG gP x83.Prev true)
  else
   some (.brk gP)
def lF (N:Nat)(l:List aD):Nat→Int→(List (aC×Bool))→Option (LR (Unit) (Int))
 |0,_,_=>none
 |m+1,x74,aK=>
  if decide (x74<(l.length:Int)) then
   (aZ l x74).bind fun x76=>
   (n8 N l x74 x76 N 0 aK).bind fun q=>match q with
    | .ret v=>some (.ret v)
    | .brk p6=>
     aC0 N l x74 (lF N l m) p6
  else
   some (.brk ())
def aCW (N:Nat)(l:List aD):Option Int:=
 (lF N l N 0 []).bind fun q=>match q with
  | .ret v=>some v
  | .brk p4=>
   aCO N
def aCK (N:Nat)(l:List aD)(l0:List (List Int×Int))(x43:Int)(rec:Int→Option (LR (Unit) (Int))):Option (LR (Unit) (Int)):=
 rec (a0F.wrap (x43+1))
def vP (N:Nat)(l:List aD)(l0:List (List Int×Int))(x43:Int)(x46:aD)(x51:Int)(rec:Int→Option (LR (Unit) (Int)))(x68:Bool):Option (LR (Unit) (Int)):=
 if x68 then
  some (.ret 101)
 else
  rec (a0F.wrap (x51+1))
def jK (N:Nat)(l:List aD)(l0:List (List Int×Int))(x43:Int)(x46:aD):Nat→Int→Option (LR (Unit) (Int))
 |0,_=>none
 |m+1,x51=>
  if decide (x51<(x46.Inputs.length:Int)) then
   (aZ x46.Inputs x51).bind fun x53=>
   (bM 32 x53.Prev.Tx).bind fun q=>
   if tD yE l0 x53.Prev.Tx then
    vP N l l0 x43 x46 x51 (jK N l l0 x43 x46 m) (decide (x43≤(oP yE l0 x53.Prev.Tx 0)))
   else
    vP N l l0 x43 x46 x51 (jK N l l0 x43 x46 m) false
  else
   some (.brk ())
def fZ (N:Nat)(l:List aD)(l0:List (List Int×Int)):Nat→Int→Option (LR (Unit) (Int))
 |0,_=>none
 |m+1,x43=>
  if decide (x43<(l.length:Int)) then
   (aZ l x43).bind fun x46=>
   (jK N l l0 x43 x46 N 0).bind fun q=>match q with
    | .ret v=>some (.ret v)
    | .brk p9=>
     aCK N l l0 x43 (fZ N l l0 m)
  else
   some (.brk ())
def aCE (N:Nat)(l:List aD)(l0:List (List Int×Int)):Option Int:=
 (fZ N l l0 N 0).bind fun q=>match q with
  | .ret v=>some v
  | .brk p7=>
   aCW N l
def mD (N:Nat)(l:List aD):Nat→Int→(List (List Int×Int))→Option (LR ((List (List Int×Int))) (Int))
 |0,_,_=>none
 |m+1,x23,l0_4=>
  if decide (x23<(l.length:Int)) then
   (aZ l x23).bind fun x26=>
   (aMY N x26).bind fun x29=>
   (bM 32 x29).bind fun q_1=>
   if tD yE l0_4 x29 then
    some (.ret 91)
   else
    (mD N l m) (a0F.wrap (x23+1)) (wX yE l0_4 x29 x23)
  else
   some (.brk l0_4)
def aHz (N:Nat)(l:List aD):Option Int:=
 (mD N l N 0 []).bind fun q=>match q with
  | .ret v=>some v
  | .brk p11=>
   aCE N l p11
def aIe (N:Nat)(t:aD):Option (List Int):=
 (aDI N t true).bind fun x4=>
 (bM 32 x4).bind fun q=>
 some x4
def aDu (N:Nat)(l vr:List Int):Option (List Int):=
 (bM 32 l).bind fun q=>
 (b5 1 [1] l).bind fun x9=>
 (bM 32 vr).bind fun q_1=>
 (b5 1 x9 vr).bind fun x12=>
 (yD N x12).bind fun x14=>
 (bM 32 x14).bind fun q_2=>
 some x14
def aAF (N:Nat)(l0:List (List (List Int))):Option (List (List (List Int))):=
 some l0
def aAT (N:Nat)(aK:List (List (List Int)))(rec:(List (List Int))→(List (List (List Int)))→Option (List (List (List Int))))(l1:List (List Int)):Option (List (List (List Int))):=
 (aHw 32 l1).bind fun q=>
 (b5 24 aK [l1]).bind fun x45=>
 rec l1 x45
def tX (N:Nat)(l_1:List (List Int))(aK:List (List (List Int)))(vi:Int)(rec:Int→(List (List Int))→Option (List (List Int)))(cF:List (List Int)):Option (List (List Int)):=
 rec (a0F.wrap (vi+2)) cF
def k9 (N:Nat)(l_1:List (List Int))(aK:List (List (List Int))):Nat→Int→(List (List Int))→Option (List (List Int))
 |0,_,_=>none
 |m+1,vi,bH=>
  if decide (vi<(l_1.length:Int)) then
   if decide ((a0F.wrap (vi+1))<(l_1.length:Int)) then
    (aZ l_1 vi).bind fun x25=>
    (bM 32 x25).bind fun q_1=>
    (aZ l_1 (a0F.wrap (vi+1))).bind fun x30=>
    (bM 32 x30).bind fun q_2=>
    (aDu N x25 x30).bind fun x32=>
    (bM 32 x32).bind fun q_3=>
    (b5 32 bH [x32]).bind fun x34=>
    tX N l_1 aK vi (k9 N l_1 aK m) x34
   else
    (aZ l_1 vi).bind fun x38=>
    (bM 32 x38).bind fun q_4=>
    (b5 32 bH [x38]).bind fun x41=>
    tX N l_1 aK vi (k9 N l_1 aK m) x41
  else
   some bH
def oA (N:Nat):Nat→(List (List Int))→(List (List (List Int)))→Option (List (List (List Int)))
 |0,_,_=>none
 |m+1,l_1,aK=>
  if decide (1<(l_1.length:Int)) then
   (k9 N l_1 aK N 0 []).bind fun p4=>
   aAT N aK (oA N m) p4
  else
   some aK
def aEA (N:Nat)(l:List (List Int)):Option (List (List (List Int))):=
 (oA N N l [l]).bind fun p2=>
 aAF N p2
def sF (N:Nat)(l:List (List Int))(x11:Bool):Option (List Int):=
 if x11 then
  some [0,0,0,0,0,0,0,0,0,0,0,0,0,0,0,0,0,0,0,0,0,0,0,0,0,0,0,0,0,0,0,0]
 else
  (aEA N l).bind fun x14=>
  (aZ x14 (a0F.wrap ((x14.length:Int)-1))).bind fun x19=>
  (aZ x19 0).bind fun x21=>
  (bM 32 x21).bind fun q=>
  some x21
def zS (N:Nat)(l:List (List Int)):Option (List Int):=
 if(l.length:Int) == 0 then
  sF N l true
 else
  sF N l (decide (1024<(l.length:Int)))
def aD4 (N:Nat)(l1:List (List Int)):Option (List Int):=
 (aHw 32 l1).bind fun q=>
 (zS N l1).bind fun x19=>
 (bM 32 x19).bind fun q_1=>
 some x19
def aAw (N:Nat)(l:List aD):Nat→Int→(List (List Int))→Option (List (List Int))
 |0,_,_=>none
 |m+1,x8,bH=>
  if decide (x8<(l.length:Int)) then
   (aZ l x8).bind fun x10=>
   (aIe N x10).bind fun x14=>
   (bM 32 x14).bind fun q_2=>
   (b5 32 bH [x14]).bind fun x16=>
   (aAw N l m) (a0F.wrap (x8+1)) x16
  else
   some bH
def aEO (N:Nat)(l:List aD):Option (List Int):=
 (aAw N l N 0 []).bind fun p2=>
 aD4 N p2
def yW (N:Nat)(b:aO):Option Int:=
 (aHz N b.Txs).bind fun x52=>
 if x52 != 0 then
  some x52
 else
  (aEO N b.Txs).bind fun x58=>
  (bM 32 b.Header.Root).bind fun q=>
  (bM 32 x58).bind fun q_1=>
  if !(x58 == b.Header.Root) then
   some 110
  else
   some 0
def r3 (N:Nat)(b:aO):Nat→Int→Option (LR (Unit) (Int))
 |0,_=>none
 |m+1,x40=>
  if decide (x40<(b.Txs.length:Int)) then
   (aZ b.Txs x40).bind fun x42=>
   (aFM N x42).bind fun x45=>
   if x45 != 0 then
    some (.ret x45)
   else
    (r3 N b m) (a0F.wrap (x40+1))
  else
   some (.brk ())
def aCZ (N:Nat)(b:aO):Option Int:=
 (r3 N b N 0).bind fun q=>match q with
  | .ret v=>some v
  | .brk p3=>
   yW N b
def xP (N:Nat)(b:aO):Nat→Int→Option (LR (Unit) (Int))
 |0,_=>none
 |m+1,x26=>
  if decide (x26<(b.Txs.length:Int)) then
   (aZ b.Txs x26).bind fun x29=>
   (qZ N x29).bind fun x32=>
   if x32 != (x26 == 0) then
    some (.ret 111)
   else
    (xP N b m) (a0F.wrap (x26+1))
  else
   some (.brk ())
def aDG (N:Nat)(b:aO):Option Int:=
 (aCh N b).bind fun x13=>
 if x13.2 != 0 then
  some x13.2
 else
  if(b.Txs.length:Int) == 0 then
   some 93
  else
   (xP N b N 0).bind fun q=>match q with
    | .ret v=>some v
    | .brk p4=>
     aCZ N b
def aHn (N:Nat):Option Bool:=
 some true
def aDD (N:Nat)(t:aD):Nat→Int→Option (LR (Unit) (Bool))
 |0,_=>none
 |m+1,x15=>
  if decide (x15<(t.Inputs.length:Int)) then
   (aZ t.Inputs x15).bind fun x17=>
   if x17.Sequence != 4294967295 then
    some (.ret false)
   else
    (aDD N t m) (a0F.wrap (x15+1))
  else
   some (.brk ())
def aFJ (N:Nat)(t:aD)(height:Int):Option Bool:=
 if decide ((a0F.wrap t.Lock)≤height) then
  some true
 else
  (aDD N t N 0).bind fun q=>match q with
   | .ret v=>some v
   | .brk p2=>
    aHn N
def sE (N:Nat)(l:aF)(b:aO)(x15:Bool):Option Int:=
 if x15 then
  some 6
 else
  if l.Height == 16777216 then
   some 4
  else
   (bM 32 b.Header.Prev).bind fun q=>
   (bM 32 l.Tip).bind fun q_1=>
   if !(b.Header.Prev == l.Tip) then
    some 144
   else
    (aDG N b).bind fun x26=>
    if x26 != 0 then
     some x26
    else
     (aZ b.Txs 0).bind fun x32=>
     (aZ x32.Inputs 0).bind fun x35=>
     if x35.Sequence != (a0H.wrap (a0F.wrap (l.Height+1))) then
      some 102
     else
      (aFJ N x32 (a0F.wrap (l.Height+1))).bind fun x50=>
      if !x50 then
       some 85
      else
       some 0
def zV (N:Nat)(p:aI)(l:aF)(b:aO):Option Int:=
 (nV N p).bind fun x9=>
 if !x9 then
  sE N l b true
 else
  (wY N l).bind fun x13=>
  sE N l b (!x13)
def aKR (N:Nat)(aPj:Int):Option (Int×Bool):=
 some (aPj,true)
def aBU (N:Nat)(l:List aA)(pV x9:Int)(x11:aA)(rec:Int→Int→Option (LR (Int) (Int×Bool)))(x24:Bool):Option (LR (Int) (Int×Bool)):=
 if x24 then
  some (.ret (0,false))
 else
  rec (a0F.wrap (pV+x11.Output.Value)) (a0F.wrap (x9+1))
def lP (N:Nat)(l:List aA):Nat→Int→Int→Option (LR (Int) (Int×Bool))
 |0,_,_=>none
 |m+1,pV,x9=>
  if decide (x9<(l.length:Int)) then
   (aZ l x9).bind fun x11=>
   if decide (x11.Output.Value<0) then
    aBU N l pV x9 x11 (lP N l m) true
   else
    aBU N l pV x9 x11 (lP N l m) (decide ((a0F.wrap (2100000000000000-pV))<x11.Output.Value))
  else
   some (.brk pV)
def aGV (N:Nat)(l:List aA):Option (Int×Bool):=
 (lP N l N 0 0).bind fun q=>match q with
  | .ret v=>some v
  | .brk p2=>
   aKR N p2
def aJ7 (N:Nat)(fee:Int):Option (Int×Int):=
 if decide (fee<0) then
  some (0,100)
 else
  some (fee,0)
def wQ (N:Nat)(t:aD):Nat→Int→Int→Option Int
 |0,_,_=>none
 |m+1,fee_1,x51=>
  if decide (x51<(t.Outputs.length:Int)) then
   (aZ t.Outputs x51).bind fun x53=>
   (wQ N t m) (a0F.wrap (fee_1-x53.Value)) (a0F.wrap (x51+1))
  else
   some fee_1
def aBi (N:Nat)(t:aD)(l:List aA):Option (Int×Int):=
 (aGV N l).bind fun x43=>
 if !x43.2 then
  some (0,90)
 else
  (wQ N t N x43.1 0).bind fun p3=>
  aJ7 N p3
def aB8 (N:Nat)(t:aD)(l:List aA):Nat→Int→Option (LR (Unit) (Int×Int))
 |0,_=>none
 |m+1,x26=>
  if decide (x26<(l.length:Int)) then
   (aZ l x26).bind fun x29=>
   (aZ t.Inputs x26).bind fun x36=>
   if !(jS x29.Out.Tx x36.Prev.Tx ((x29.Out.Index == x36.Prev.Index)&&true)) then
    some (.ret (0,101))
   else
    (aB8 N t l m) (a0F.wrap (x26+1))
  else
   some (.brk ())
def aGI (N:Nat)(t:aD)(l:List aA):Option (Int×Int):=
 (aFM N t).bind fun x14=>
 if x14 != 0 then
  some (0,x14)
 else
  if(l.length:Int) != (t.Inputs.length:Int) then
   some (0,8)
  else
   (aB8 N t l N 0).bind fun q=>match q with
    | .ret v=>some v
    | .brk p4=>
     aBi N t l
def aET (N:Nat)(t:aD):Option Bool:=
 (aA5 N t true).bind fun x7=>
 some (x7.2 == 0)
def pG (N:Nat)(vn:Int):Option (List Int):=
 (dS N [] vn).bind fun x4=>
 some x4
def aKQ (N:Nat)(l0:List Int):Option (List Int):=
 some l0
def wH (N:Nat)(parts:List (List Int)):Nat→Int→(List Int)→Option (List Int)
 |0,_,_=>none
 |m+1,x8,aK=>
  if decide (x8<(parts.length:Int)) then
   (aZ parts x8).bind fun x10=>
   (b5 1 aK x10).bind fun x14=>
   (wH N parts m) (a0F.wrap (x8+1)) x14
  else
   some aK
def aDU (N:Nat)(parts:List (List Int)):Option (List Int):=
 (wH N parts N 0 []).bind fun p2=>
 aKQ N p2
def wE (N:Nat)(o:aQ):Option (List Int):=
 (mK N [] (a0G.wrap o.Value)).bind fun x6=>
 (kQ N [] o.Script).bind fun x9=>
 (aDU N [x6,x9]).bind fun x11=>
 some x11
def sQ (N:Nat)(b:List Int):Option (List Int):=
 (yD N b).bind fun x5=>
 (bM 32 x5).bind fun q=>
 some x5
def aE9 (N:Nat)(tag:ByteArray)(b:List Int):Option (List Int):=
 (stb tag).bind fun x7=>
 (yD N x7).bind fun x8=>
 (bM 32 x8).bind fun q=>
 (aHT N [x8,x8,b]).bind fun x13=>
 (yD N x13).bind fun x14=>
 (bM 32 x14).bind fun q_1=>
 some x14
def pI (N:Nat)(t:aD)(vi:Int)(o:aQ)(l3 l4 l5:List Int):Option ((List Int)×Int):=
 (pG N t.Version).bind fun x72=>
 (sQ N l3).bind fun x74=>
 (sQ N l4).bind fun x76=>
 (sQ N l5).bind fun x78=>
 (pG N t.Lock).bind fun x81=>
 (pG N (a0H.wrap vi)).bind fun x84=>
 (wE N o).bind fun x86=>
 (aDU N [x72,x74,x76,x78,x81,x84,x86]).bind fun x88=>
 (aE9 N (⟨#[108,105,103,104,116,99,108,105,101,110,116,47,115,112,101,110,100]⟩) x88).bind fun x89=>
 (bM 32 x89).bind fun q=>
 some (x89,0)
def pA (N:Nat)(t:aD)(vi:Int)(o:aQ)(l3 l4:List Int):Nat→Int→(List Int)→Option (List Int)
 |0,_,_=>none
 |m+1,x61,dP=>
  if decide (x61<(t.Outputs.length:Int)) then
   (aZ t.Outputs x61).bind fun x63=>
   (wE N x63).bind fun x67=>
   (b5 1 dP x67).bind fun x68=>
   (pA N t vi o l3 l4 m) (a0F.wrap (x61+1)) x68
  else
   some dP
def oH (N:Nat)(t:aD)(vi:Int)(o:aQ)(l3 l4:List Int):Option ((List Int)×Int):=
 (pA N t vi o l3 l4 N 0 []).bind fun p5=>
 pI N t vi o l3 l4 p5
def pD (N:Nat)(t:aD)(vi:Int)(o:aQ):Nat→Int→(List Int)→(List Int)→Option ((List Int)×(List Int))
 |0,_,_,_=>none
 |m+1,x43,eF,dQ=>
  if decide (x43<(t.Inputs.length:Int)) then
   (aZ t.Inputs x43).bind fun x45=>
   (aGf N x45.Prev).bind fun x50=>
   (b5 1 eF x50).bind fun x51=>
   (pG N x45.Sequence).bind fun x55=>
   (b5 1 dQ x55).bind fun x56=>
   (pD N t vi o m) (a0F.wrap (x43+1)) x51 x56
  else
   some (eF,dQ)
def lB (N:Nat)(t:aD)(vi:Int)(o:aQ)(x38:Bool):Option ((List Int)×Int):=
 if x38 then
  some ([0,0,0,0,0,0,0,0,0,0,0,0,0,0,0,0,0,0,0,0,0,0,0,0,0,0,0,0,0,0,0,0],5)
 else
  (pD N t vi o N 0 [] []).bind fun p6=>
  oH N t vi o p6.1 p6.2
def lG (N:Nat)(t:aD)(vi:Int)(o:aQ)(x28:Bool):Option ((List Int)×Int):=
 if x28 then
  some ([0,0,0,0,0,0,0,0,0,0,0,0,0,0,0,0,0,0,0,0,0,0,0,0,0,0,0,0,0,0,0,0],4)
 else
  if decide (vi<0) then
   lB N t vi o true
  else
   lB N t vi o (decide ((t.Inputs.length:Int)≤vi))
def uE (N:Nat)(t:aD)(vi:Int)(o:aQ):Option ((List Int)×Int):=
 (aET N t).bind fun x16=>
 if !x16 then
  lG N t vi o true
 else
  if decide (o.Value<0) then
   lG N t vi o true
  else
   lG N t vi o (decide (520<(o.Script.length:Int)))
def aBD (N:Nat)(x2:Bool):Option Bool:=
 some x2
def aFq (N:Nat)(code:Int):Option Bool:=
 if decide (1≤code) then
  aBD N (decide (code≤17))
 else
  aBD N false
def aJv (N:Nat)(l0:List Int):Option (List Int):=
 some l0
def aJM (N:Nat)(parts:List (List Int)):Nat→Int→(List Int)→Option (List Int)
 |0,_,_=>none
 |m+1,x8,aK=>
  if decide (x8<(parts.length:Int)) then
   (aZ parts x8).bind fun x10=>
   (b5 1 aK x10).bind fun x14=>
   (aJM N parts m) (a0F.wrap (x8+1)) x14
  else
   some aK
def aIS (N:Nat)(parts:List (List Int)):Option (List Int):=
 (aJM N parts N 0 []).bind fun p2=>
 aJv N p2
def aC9 (N:Nat)(x8:Int)(b_1 l2:List Int):Option (Int×(List Int)×Int×Int×(List Int)×Int):=
 some (a0F.wrap x8,l2,0,0,b_1,0)
def aLC (N:Nat)(b:List Int):Option (Int×(List Int)×Int×Int×(List Int)×Int):=
 (aZ b 0).bind fun x8=>
 (aFq N (a0F.wrap x8)).bind fun x14=>
 if !x14 then
  none
 else
  (sub b 1 (b.length:Int)).bind fun x18=>
  if(a0F.wrap x8) == 1 then
   if(x18.length:Int) == 0 then
    none
   else
    (aZ x18 0).bind fun x31=>
    if decide ((a0F.wrap ((x18.length:Int)-1))<(a0F.wrap x31)) then
     none
    else
     (sub x18 1 (a0F.wrap (1+(a0F.wrap x31)))).bind fun x44=>
     (aIS N [x44]).bind fun x46=>
     (sub x18 (a0F.wrap (1+(a0F.wrap x31))) (x18.length:Int)).bind fun x49=>
     aC9 N x8 x49 x46
  else
   if(a0F.wrap x8) == 11 then
    none
   else
    aC9 N x8 x18 []
def aGZ (N:Nat)(l0:List cG):Option ((List cG)×Int):=
 some (l0,0)
def aGu (N:Nat):Nat→(List Int)→(List cG)→Option (LR ((List cG)) ((List cG)×Int))
 |0,_,_=>none
 |m+1,b_1,aK=>
  if decide (0<(b_1.length:Int)) then
   (aLC N b_1).bind fun x16=>
   if x16.2.2.2.2.2 != 0 then
    some (.ret ([],x16.2.2.2.2.2))
   else
    (b5 48 aK [cG.mk x16.1 x16.2.1 x16.2.2.1 x16.2.2.2.1]).bind fun x26=>
    (aGu N m) x16.2.2.2.2.1 x26
  else
   some (.brk aK)
def aFX (N:Nat)(b:List Int):Option ((List cG)×Int):=
 if decide (520<(b.length:Int)) then
  some ([],4)
 else
  (aGu N N b []).bind fun q=>match q with
   | .ret v=>some v
   | .brk p2=>
    aGZ N p2
def aFO (N:Nat):Option Bool:=
 some (((([]:List Int).length:Nat):Int) == 0)
def aFH (N:Nat)(l:List cG):Nat→Int→Option Unit
 |0,_=>none
 |m+1,x9=>
  if decide (x9<(l.length:Int)) then
   (aZ l x9).bind fun x11=>
   if x11.Code == 14 then
    none
   else
    if x11.Code == 15 then
     none
    else
     if x11.Code == 16 then
      none
     else
      (aFH N l m) (a0F.wrap (x9+1))
  else
   some ()
def aAz (N:Nat)(l:List cG):Option Bool:=
 (aFH N l N 0).bind fun p2=>
 aFO N
def aEI (N:Nat):Option Bool:=
 some true
def aEG (N:Nat)(stack:List (List Int)):Nat→Int→Option (LR (Unit) (Bool))
 |0,_=>none
 |m+1,x10=>
  if decide (x10<(stack.length:Int)) then
   (aZ stack x10).bind fun x12=>
   if decide (520<(x12.length:Int)) then
    some (.ret false)
   else
    (aEG N stack m) (a0F.wrap (x10+1))
  else
   some (.brk ())
def yI (N:Nat)(stack:List (List Int)):Option Bool:=
 if decide (64<(stack.length:Int)) then
  some false
 else
  (aEG N stack N 0).bind fun q=>match q with
   | .ret v=>some v
   | .brk p2=>
    aEI N
def aF4 (N:Nat)(l0:List (List Int)):Option (List (List Int)):=
 some l0
def aGr (N:Nat)(stack:List (List Int)):Nat→Int→(List (List Int))→Option (List (List Int))
 |0,_,_=>none
 |m+1,x8,aK=>
  if decide (x8<(stack.length:Int)) then
   (aZ stack x8).bind fun x10=>
   (aIS N [x10]).bind fun x15=>
   (b5 24 aK [x15]).bind fun x17=>
   (aGr N stack m) (a0F.wrap (x8+1)) x17
  else
   some aK
def mV (N:Nat)(stack:List (List Int)):Option (List (List Int)):=
 (aGr N stack N 0 []).bind fun p2=>
 aF4 N p2
def aA7 (N:Nat)(b6:cC)(bY:List (List Int))(bB:List dE)(cY:Int):Option Bool:=
 if(bB.length:Int) == 0 then
  some true
 else
  none
def aKG (N:Nat)(op:cG):Option Int:=
 if op.Code == 8 then
  some 6
 else
  if op.Code == 10 then
   some 21
  else
   if op.Code == 11 then
    some (a0F.wrap (1+(a0F.wrap (20*op.N))))
   else
    some 1
def aBN (N:Nat)(op:cG)(x5:Bool):Option Int:=
 if x5 then
  some 0
 else
  if op.Code == 4 then
   none
  else
   if op.Code == 5 then
    some 2
   else
    none
def aJ6 (N:Nat)(op:cG):Option Int:=
 if op.Code == 1 then
  aBN N op (op.Code == 1)
 else
  if op.Code == 15 then
   none
  else
   if op.Code == 16 then
    none
   else
    aBN N op (op.Code == 17)
def aDM (N:Nat)(b6:cC)(bY:List (List Int))(bB:List dE)(cY:Int):Option (List Int):=
 (aZ bY (a0F.wrap ((bY.length:Int)-1))).bind fun x13=>
 some x13
def aGY (N:Nat):Option Bool:=
 some false
def aG5 (N:Nat)(mS:List Int):Nat→Int→Option (LR (Unit) (Bool))
 |0,_=>none
 |m+1,x7=>
  if decide (x7<(mS.length:Int)) then
   (aZ mS x7).bind fun x9=>
   if x9 != 0 then
    some (.ret true)
   else
    (aG5 N mS m) (a0F.wrap (x7+1))
  else
   some (.brk ())
def aBh (N:Nat)(mS:List Int):Option Bool:=
 (aG5 N mS N 0).bind fun q=>match q with
  | .ret v=>some v
  | .brk p2=>
   aGY N
def aCw (N:Nat)(b6:cC)(bY:List (List Int))(bB:List dE)(cY vn:Int):Option (List (List Int)):=
 (sub bY 0 (a0F.wrap ((bY.length:Int)-vn))).bind fun x16=>
 some x16
def aCv (N:Nat)(b6:cC)(bY:List (List Int))(bB:List dE)(cY:Int)(mS:List Int):Option (Int×(List (List Int))):=
 if decide (64≤(bY.length:Int)) then
  some (4,bY)
 else
  (b5 24 bY [mS]).bind fun x18=>
  some (0,x18)
def aDC (N:Nat)(va b:List Int):Option Bool:=
 some ((iG va).toList == (iG b).toList)
def aHX (N:Nat)(l0:List Int):Option (List Int):=
 some l0
def aH9 (N:Nat):Nat→Int→(List Int)→Option (List Int)
 |0,_,_=>none
 |m+1,vn_1,aK=>
  if decide (0<vn_1) then
   (b5 1 aK [a0J.wrap vn_1]).bind fun x12=>
   (shr .u32 vn_1 8).bind fun x7=>
   (aH9 N m) x7 x12
  else
   some aK
def aHg (N:Nat)(vn:Int):Option (List Int):=
 (aH9 N N vn []).bind fun p2=>
 aHX N p2
def aHy (N:Nat)(v:Bool):Option (List Int):=
 if v then
  (aHg N 1).bind fun x4=>
  some x4
 else
  (aHg N 0).bind fun x5=>
  some x5
def rE (N:Nat)(b6:cC)(bY:List (List Int))(bB:List dE)(cY vn:Int)(mS:List Int):Option (List (List Int)):=
 (aCw N b6 bY bB cY vn).bind fun x8=>
 (b5 24 x8 [mS]).bind fun x16=>
 some x16
def nD (N:Nat)(b6:cC)(bY:List (List Int))(bB:List dE)(cY:Int)(op:cG):Option (Int×(List (List Int))):=
 if op.Code == 1 then
  (aCv N b6 bY bB cY op.Data).bind fun x14=>
  some (x14.1,x14.2)
 else
  if op.Code == 2 then
   none
  else
   if op.Code == 3 then
    none
   else
    if op.Code == 4 then
     none
    else
     if op.Code == 5 then
      (aDM N b6 bY bB cY).bind fun x66=>
      (aZ bY (a0F.wrap ((bY.length:Int)-2))).bind fun x77=>
      (aDC N x66 x77).bind fun x79=>
      (aHy N x79).bind fun x80=>
      (rE N b6 bY bB cY 2 x80).bind fun x81=>
      some (0,x81)
     else
      none
def pM (N:Nat)(b6:cC)(bY:List (List Int))(bB:List dE)(cY:Int)(op:cG):Option (Int×(List (List Int))×Int):=
 (aA7 N b6 bY bB cY).bind fun x8=>
 if op.Code == 15 then
  none
 else
  if op.Code == 16 then
   none
  else
   if x8 then
    (aKG N op).bind fun x36=>
    if decide (500<(a0F.wrap (cY+x36))) then
     none
    else
     (aJ6 N op).bind fun x51=>
     if decide ((bY.length:Int)<x51) then
      some (81,bY,a0F.wrap (cY+x36))
     else
      if op.Code == 14 then
       none
      else
       (nD N b6 bY bB (a0F.wrap (cY+x36)) op).bind fun x64=>
       some (x64.1,x64.2,a0F.wrap (cY+x36))
   else
    none
def aJn (N:Nat)(ve:cC)(c0:Int)(l1:List (List Int)):Option ((List (List Int))×Int×Int):=
 (mV N l1).bind fun x47=>
 some (x47,c0,0)
def mP (N:Nat)(ve:cC)(x17:(List cG)×Int):Nat→Int→Int→(List (List Int))→Option (LR (Int×(List (List Int))) ((List (List Int))×Int×Int))
 |0,_,_,_=>none
 |m+1,x35,c0_1,l2=>
  if decide (x35<(x17.1.length:Int)) then
   (aZ x17.1 x35).bind fun x37=>
   (pM N ve l2 [] c0_1 x37).bind fun x40=>
   if x40.1 != 0 then
    some (.ret ([],0,x40.1))
   else
    (mP N ve x17 m) (a0F.wrap (x35+1)) x40.2.2 x40.2.1
  else
   some (.brk (c0_1,l2))
def aCc (N:Nat)(b:List Int)(stack:List (List Int))(ve:cC):Option ((List (List Int))×Int×Int):=
 (aFX N b).bind fun x17=>
 if x17.2 != 0 then
  none
 else
  (aAz N x17.1).bind fun x24=>
  if !x24 then
   none
  else
   (yI N stack).bind fun x27=>
   if !x27 then
    none
   else
    (mV N stack).bind fun x31=>
    (mP N ve x17 N 0 0 x31).bind fun q=>match q with
     | .ret v=>some v
     | .brk p2=>
      aJn N ve p2.1 p2.2
def lD (N:Nat)(b:List Int)(bD:List (List Int))(ve:cC):Option Int:=
 (aCc N b bD ve).bind fun x14=>
 if x14.2.2 != 0 then
  some x14.2.2
 else
  if(x14.1.length:Int) != 1 then
   some 81
  else
   (aZ x14.1 0).bind fun x28=>
   (aBh N x28).bind fun x30=>
   if !x30 then
    some 84
   else
    some 0
def nZ (N:Nat)(t:aD)(vi:Int)(c:aA)(height:Int)(x17:(List Int)×Int)(x34:Bool):Option Int:=
 if x34 then
  some 102
 else
  (aZ t.Inputs vi).bind fun x61=>
  (lD N c.Output.Script x61.Witness (cC.mk x17.1 height (a0F.wrap (height-c.Height)))).bind fun x65=>
  some x65
def aDr (N:Nat)(t:aD)(vi:Int)(c:aA)(height:Int):Option Int:=
 (uE N t vi c.Output).bind fun x17=>
 (bM 32 x17.1).bind fun q=>
 if x17.2 != 0 then
  some x17.2
 else
  (aZ t.Inputs vi).bind fun x28=>
  if !(jS x28.Prev.Tx c.Out.Tx ((x28.Prev.Index == c.Out.Index)&&true)) then
   some 101
  else
   if decide (c.Height<0) then
    nZ N t vi c height x17 true
   else
    if decide (height<c.Height) then
     nZ N t vi c height x17 true
    else
     nZ N t vi c height x17 (decide (16777216<height))
def aHO (N:Nat)(x18:Int×Int):Option (Int×Int):=
 some (x18.1,0)
def yY (N:Nat)(t:aD)(l:List aA)(height:Int)(x18:Int×Int):Nat→Int→Option (LR (Unit) (Int×Int))
 |0,_=>none
 |m+1,x30=>
  if decide (x30<(l.length:Int)) then
   (aZ l x30).bind fun x33=>
   (aDr N t x30 x33 height).bind fun x39=>
   if x39 != 0 then
    some (.ret (0,x39))
   else
    (yY N t l height x18 m) (a0F.wrap (x30+1))
  else
   some (.brk ())
def aDw (N:Nat)(t:aD)(l:List aA)(height:Int):Option (Int×Int):=
 (qZ N t).bind fun x14=>
 if x14 then
  some (0,92)
 else
  (aGI N t l).bind fun x18=>
  if x18.2 != 0 then
   some (0,x18.2)
  else
   (aFJ N t height).bind fun x26=>
   if !x26 then
    some (0,85)
   else
    (yY N t l height x18 N 0).bind fun q=>match q with
     | .ret v=>some v
     | .brk p2=>
      aHO N x18
def dJ (N:Nat)(vs:List Int):Option ((List Int)):=(b5 1 [] vs).bind fun x7=>
 some x7
def jD (N:Nat)(c:aA):Option aA:=
 (dJ N c.Output.Script).bind fun x6=>
 some (aA.mk c.Out (aQ.mk c.Output.Value x6) c.Height c.Coinbase)
def vA (N:Nat)(aB:aI)(bG bX:Int)(x71:Int×Int)(l1:List (aC×aA))(l3:List aA):Option (Int×(List (aC×aA))×(List aA)×Int):=
 some (0,l1,l3,a0F.wrap (bX+x71.1))
def iX (N:Nat)(aB:aI)(bG bX:Int)(l4:List aA)(x71:Int×Int):Nat→Int→(List (aC×aA))→(List aA)→Option ((List (aC×aA))×(List aA))
 |0,_,_,_=>none
 |m+1,x87,bH,dQ=>
  if decide (x87<(l4.length:Int)) then
   (aZ l4 x87).bind fun x89=>
   (jD N x89).bind fun aVa=>
   (b5 88 dQ [aVa]).bind fun aSz=>
   (iX N aB bG bX l4 x71 m) (a0F.wrap (x87+1)) (aMi iF bH x89.Out) aSz
  else
   some (bH,dQ)
def uZ (N:Nat)(aB:aI)(bG:Int)(bT:List (aC×aA))(bF:List aA)(bX:Int)(t:aD)(l4:List aA):Option (Int×(List (aC×aA))×(List aA)×Int):=
 (aDw N t l4 bG).bind fun x71=>
 if x71.2 != 0 then
  some (x71.2,bT,bF,bX)
 else
  (iX N aB bG bX l4 x71 N 0 bT bF).bind fun p4=>
  vA N aB bG bX x71 p4.1 p4.2
def pP (N:Nat)(aB:aI)(bG:Int)(bT:List (aC×aA))(bF:List aA)(bX:Int)(t:aD)(l4:List aA)(x42:Int)(rec:Int→Option (LR (Unit) (Int×(List (aC×aA))×(List aA)×Int)))(x62:Bool):Option (LR (Unit) (Int×(List (aC×aA))×(List aA)×Int)):=
 if x62 then
  some (.ret (230,bT,bF,bX))
 else
  rec (a0F.wrap (x42+1))
def e8 (N:Nat)(aB:aI)(bG:Int)(bT:List (aC×aA))(bF:List aA)(bX:Int)(t:aD)(l4:List aA):Nat→Int→Option (LR (Unit) (Int×(List (aC×aA))×(List aA)×Int))
 |0,_=>none
 |m+1,x42=>
  if decide (x42<(l4.length:Int)) then
   (aZ l4 x42).bind fun x44=>
   if x44.Coinbase then
    pP N aB bG bT bF bX t l4 x42 (e8 N aB bG bT bF bX t l4 m) (decide ((a0F.wrap (bG-x44.Height))<aB.Maturity))
   else
    pP N aB bG bT bF bX t l4 x42 (e8 N aB bG bT bF bX t l4 m) false
  else
   some (.brk ())
def u6 (N:Nat)(aB:aI)(bG:Int)(bT:List (aC×aA))(bF:List aA)(bX:Int)(t:aD)(l4:List aA):Option (Int×(List (aC×aA))×(List aA)×Int):=
 (e8 N aB bG bT bF bX t l4 N 0).bind fun q=>match q with
  | .ret v=>some v
  | .brk p5=>
   uZ N aB bG bT bF bX t l4
def iT (N:Nat)(aB:aI)(bG:Int)(bT:List (aC×aA))(bF:List aA)(bX:Int)(t:aD):Nat→Int→(List aA)→Option (LR ((List aA)) (Int×(List (aC×aA))×(List aA)×Int))
 |0,_,_=>none
 |m+1,x19,rB=>
  if decide (x19<(t.Inputs.length:Int)) then
   (aZ t.Inputs x19).bind fun x21=>
   if !(tD iF bT x21.Prev) then
    some (.ret (101,bT,bF,bX))
   else
    (b5 88 rB [oP iF bT x21.Prev (aA.mk (aC.mk (a0I 32 0) 0) (aQ.mk 0 []) 0 false)]).bind fun x38=>
    (iT N aB bG bT bF bX t m) (a0F.wrap (x19+1)) x38
  else
   some (.brk rB)
def tJ (N:Nat)(aB:aI)(bG:Int)(bT:List (aC×aA))(bF:List aA)(bX:Int)(t:aD):Option (Int×(List (aC×aA))×(List aA)×Int):=
 (iT N aB bG bT bF bX t N 0 []).bind fun q=>match q with
  | .ret v=>some v
  | .brk p7=>
   u6 N aB bG bT bF bX t p7
def zA (N:Nat)(l0:List aA):Option (List aA):=
 some l0
def rI (N:Nat)(t:aD)(height:Int)(jH:Bool)(x13:(List Int)):Nat→Int→(List aA)→Option (List aA)
 |0,_,_=>none
 |m+1,x17,aK=>
  if decide (x17<(t.Outputs.length:Int)) then
   (aZ t.Outputs x17).bind fun x20=>
   (b5 88 aK [aA.mk (aC.mk x13 (a0H.wrap x17)) x20 height jH]).bind fun x33=>
   (rI N t height jH x13 m) (a0F.wrap (x17+1)) x33
  else
   some aK
def yO (N:Nat)(t:aD)(height:Int)(jH:Bool):Option (List aA):=
 (aMY N t).bind fun x13=>
 (bM 32 x13).bind fun q=>
 (rI N t height jH x13 N 0 []).bind fun p2=>
 zA N p2
def aCu (N:Nat)(aB:aI)(bG:Int)(bF:List aA)(bX:Int)(l1:List (aC×aA)):Option (Int×(List (aC×aA))):=
 some (0,l1)
def pO (N:Nat)(aB:aI)(bG:Int)(bF:List aA)(bX:Int)(x17:(List aA)):Nat→Int→(List (aC×aA))→Option (LR ((List (aC×aA))) (Int×(List (aC×aA))))
 |0,_,_=>none
 |m+1,x19,bH=>
  if decide (x19<(x17.length:Int)) then
   (aZ x17 x19).bind fun x21=>
   if tD iF bH x21.Out then
    some (.ret (91,bH))
   else
    (pO N aB bG bF bX x17 m) (a0F.wrap (x19+1)) (wX iF bH x21.Out x21)
  else
   some (.brk bH)
def t6 (N:Nat)(aB:aI)(bG:Int)(bT:List (aC×aA))(bF:List aA)(bX:Int)(t:aD)(jH:Bool):Option (Int×(List (aC×aA))):=
 (yO N t bG jH).bind fun x17=>
 (pO N aB bG bF bX x17 N 0 bT).bind fun q=>match q with
  | .ret v=>some v
  | .brk p2=>
   aCu N aB bG bF bX p2
def rH (N:Nat)(p:aI)(height:Int)(x11:Bool):Option Int:=
 if x11 then
  some 0
 else
  (quo .i64 height p.Halving).bind fun x17=>
  (shr .i64 p.Subsidy x17).bind fun x18=>
  some x18
def jR (N:Nat)(p:aI)(height:Int):Option Int:=
 (nV N p).bind fun x6=>
 if !x6 then
  rH N p height true
 else
  rH N p height (decide (height<0))
def qG (N:Nat)(va b:aA):Option Int:=
 (aCl N va.Out b.Out).bind fun x9=>
 some x9
def mX (N:Nat)(aB:aI)(bG:Int)(bT:List (aC×aA))(bF:List aA)(bX:Int):Option ((List aA)):=if∀e∈bT,e.2.Output.Script.length≤100000 then nO (bT.map Prod.snd)else none
def rJ (N:Nat)(p:aI)(l:aF)(b:aO)(c4:Int)(dP:List (aC×aA))(l6:List aA)(aQR:Int):Option (aF×bC×Int):=
 (jR N p (a0F.wrap (l.Height+1))).bind fun aKW=>
 if decide ((a0F.wrap (aKW+c4))<aQR) then
  some ((aF.mk 0 (a0I 32 0) []),bC.mk [],231)
 else
  (mX N p (a0F.wrap (l.Height+1)) dP l6 c4).bind fun aFu=>
  (oZ N aFu).bind fun aXu=>
  if !aXu.2 then
   some ((aF.mk 0 (a0I 32 0) []),bC.mk [],90)
  else
   if decide (100000<(aFu.length:Int)) then
    some ((aF.mk 0 (a0I 32 0) []),bC.mk [],4)
   else
    (aBX N b.Header).bind fun aMc=>
    (bM 32 aMc).bind fun q=>
    some ((aF.mk (a0F.wrap (l.Height+1)) aMc aFu),bC.mk l6,0)
def fB (N:Nat)(p:aI)(l:aF)(b:aO)(c4:Int)(dP:List (aC×aA))(l6:List aA)(x85:aD):Nat→Int→Int→Option Int
 |0,_,_=>none
 |m+1,made_1,x89=>
  if decide (x89<(x85.Outputs.length:Int)) then
   (aZ x85.Outputs x89).bind fun x91=>
   (fB N p l b c4 dP l6 x85 m) (a0F.wrap (made_1+x91.Value)) (a0F.wrap (x89+1))
  else
   some made_1
def mZ (N:Nat)(p:aI)(l:aF)(b:aO)(c4:Int)(dP:List (aC×aA))(l6:List aA):Option (aF×bC×Int):=
 (aZ b.Txs 0).bind fun x85=>
 (fB N p l b c4 dP l6 x85 N 0 0).bind fun p4=>
 rJ N p l b c4 dP l6 p4
def kN (N:Nat)(p:aI)(l:aF)(b:aO)(x57:Int)(x60:aD)(rec:Int→Int→(List (aC×aA))→(List aA)→Option (LR (Int×(List (aC×aA))×(List aA)) (aF×bC×Int)))(aEw:Int)(aPx:List (aC×aA))(l7:List aA):Option (LR (Int×(List (aC×aA))×(List aA)) (aF×bC×Int)):=
 (t6 N p (a0F.wrap (l.Height+1)) aPx l7 aEw x60 (x57 == 0)).bind fun x76=>
 if x76.1 != 0 then
  some (.ret ((aF.mk 0 (a0I 32 0) []),bC.mk [],x76.1))
 else
  rec (a0F.wrap (x57+1)) aEw x76.2 l7
def fA (N:Nat)(p:aI)(l:aF)(b:aO):Nat→Int→Int→(List (aC×aA))→(List aA)→Option (LR (Int×(List (aC×aA))×(List aA)) (aF×bC×Int))
 |0,_,_,_,_=>none
 |m+1,x57,aBf,xA,l6_1=>
  if decide (x57<(b.Txs.length:Int)) then
   (aZ b.Txs x57).bind fun x60=>
   if decide (0<x57) then
    (tJ N p (a0F.wrap (l.Height+1)) xA l6_1 aBf x60).bind fun x66=>
    if x66.1 != 0 then
     some (.ret ((aF.mk 0 (a0I 32 0) []),bC.mk [],x66.1))
    else
     kN N p l b x57 x60 (fA N p l b m) x66.2.2.2 x66.2.1 x66.2.2.1
   else
    kN N p l b x57 x60 (fA N p l b m) aBf xA l6_1
  else
   some (.brk (aBf,xA,l6_1))
def rG (N:Nat)(p:aI)(l:aF)(b:aO)(l5:List (aC×aA)):Option (aF×bC×Int):=
 (fA N p l b N 0 0 l5 []).bind fun q=>match q with
  | .ret v=>some v
  | .brk p5=>
   mZ N p l b p5.1 p5.2.1 p5.2.2
def iL (N:Nat)(p:aI)(l:aF)(b:aO):Nat→Int→(List (aC×aA))→Option (List (aC×aA))
 |0,_,_=>none
 |m+1,x42,l5_3=>
  if decide (x42<(l.Coins.length:Int)) then
   (aZ l.Coins x42).bind fun x44=>
   (iL N p l b m) (a0F.wrap (x42+1)) (wX iF l5_3 x44.Out x44)
  else
   some l5_3
def k7 (N:Nat)(p:aI)(l:aF)(b:aO):Option (aF×bC×Int):=
 (zV N p l b).bind fun x26=>
 if x26 != 0 then
  some ((aF.mk 0 (a0I 32 0) []),bC.mk [],x26)
 else
  (iL N p l b N 0 []).bind fun p7=>
  rG N p l b p7
def aJE (N:Nat)(l:List aO)(c1:Int)(u0:List Int)(aHo:List aA)(l2:List bC):Option (aF×(List bC)×Int×Int):=
 some ((aF.mk c1 u0 aHo),l2,(l.length:Int),0)
def uD (N:Nat)(p:aI)(l:List aO):Nat→Int→Int→(List Int)→(List aA)→(List bC)→Option (Int×(List Int)×(List aA)×(List bC))
 |0,_,_,_,_,_=>none
 |m+1,x27,c2,c2_1,c2_2,l3=>
  if decide (x27<(l.length:Int)) then
   (aZ l x27).bind fun x30=>
   (k7 N p (aF.mk c2 c2_1 c2_2) x30).bind fun x36=>
   if x36.2.2 != 0 then
    none
   else
    (b5 24 l3 [x36.2.1]).bind fun x50=>
    (uD N p l m) (a0F.wrap (x27+1)) x36.1.Height x36.1.Tip x36.1.Coins x50
  else
   some (c2,c2_1,c2_2,l3)
def y5 (N:Nat)(p:aI)(l:List aO):Option (aF×(List bC)×Int×Int):=
 (r8 N p).bind fun x18=>
 if x18.2 != 0 then
  none
 else
  (uD N p l N 0 x18.1.Height x18.1.Tip x18.1.Coins []).bind fun p2=>
  aJE N l p2.1 p2.2.1 p2.2.2.1 p2.2.2.2
def aKn (N:Nat)(l0:List aA):Option (List aA):=
 some l0
def aKa (N:Nat)(l:aF)(l1:List (ByteArray×Bool)):Nat→Int→(List aA)→Option (List aA)
 |0,_,_=>none
 |m+1,x25,bH=>
  if decide (x25<(l.Coins.length:Int)) then
   (aZ l.Coins x25).bind fun x27=>
   if(oP aPr l1 (iG x27.Output.Script) false) then
    (jD N x27).bind fun x37=>
    (b5 88 bH [x37]).bind fun x39=>
    (aKa N l l1 m) (a0F.wrap (x25+1)) x39
   else
    none
  else
   some bH
def aJS (N:Nat)(l:aF)(l1:List (ByteArray×Bool)):Option (List aA):=
 (aKa N l l1 N 0 []).bind fun p3=>
 aKn N p3
def aKE (N:Nat)(l:aF)(uT:List (List Int)):Nat→Int→(List (ByteArray×Bool))→Option (List (ByteArray×Bool))
 |0,_,_=>none
 |m+1,x14,cF=>
  if decide (x14<(uT.length:Int)) then
   (aZ uT x14).bind fun x16=>
   (aKE N l uT m) (a0F.wrap (x14+1)) (wX aPr cF (iG x16) true)
  else
   some cF
def aGT (N:Nat)(l:aF)(uT:List (List Int)):Option (List aA):=
 (aKE N l uT N 0 []).bind fun p4=>
 aJS N l p4
def jQ (N:Nat)(l:List aA):Option Int:=
 if decide (100000<(l.length:Int)) then
  some 0
 else
  (oZ N l).bind fun x10=>
  some x10.1
def xQ (N:Nat):Option Bool:=
 (qV N 0 [0]).bind fun x8=>
 (y5 N x8.Params x8.Blocks).bind fun x14=>
 (nN N 0).bind fun x20=>
 (aGT N x14.1 [x20]).bind fun x22=>
 if x14.2.2.2 == 0 then
  if x14.2.2.1 == 1 then
   if(x14.2.1.length:Int) == 1 then
    if(x22.length:Int) == 1 then
     (aZ x22 0).bind fun x41=>
     if x41.Coinbase then
      (jQ N x22).bind fun x47=>
      some (x47 == 1000)
     else
      none
    else
     none
   else
    none
  else
   none
 else
  none
def aKm (N:Nat)(l:List Int)(vn:Int):Option (List Int):=
 (sub l 0 (if vn<(l.length:Int)then vn else(l.length:Int))).bind fun x10=>
 some x10
def aDo (N:Nat)(v:Int)(mG:List Int):Option aS:=
 (aKm N mG 8).bind fun x7=>
 (qV N v x7).bind fun x8=>
 some x8
def nF (N:Nat)(x18:aS):Option Bool:=
 (jR N x18.Params 1).bind fun x75=>
 some (decide (x75≤x18.Params.Subsidy))
def nK (N:Nat)(x18:aS):Nat→Int→Int→Int→(List Int)→(List aA)→Option Unit
 |0,_,_,_,_,_=>none
 |m+1,most,x28,c1,u0,aHo=>
  if decide (x28<(x18.Blocks.length:Int)) then
   (aZ x18.Blocks x28).bind fun x31=>
   (k7 N x18.Params (aF.mk c1 u0 aHo) x31).bind fun x38=>
   if x38.2.2 != 0 then
    none
   else
    (jR N x18.Params (a0F.wrap (x28+1))).bind fun x49=>
    (jQ N x38.1.Coins).bind fun x53=>
    if decide ((a0F.wrap (most+x49))<x53) then
     none
    else
     (jQ N aHo).bind fun x62=>
     if decide ((a0F.wrap (x62+x49))<x53) then
      none
     else
      (nK N x18 m) (a0F.wrap (most+x49)) (a0F.wrap (x28+1)) x38.1.Height x38.1.Tip x38.1.Coins
  else
   some ()
def rS (N:Nat)(v:Int)(mG:List Int):Option Bool:=
 (xQ N).bind fun x14=>
 if !x14 then
  none
 else
  (aDo N v mG).bind fun x18=>
  (r8 N x18.Params).bind fun x22=>
  (nK N x18 N 0 0 x22.1.Height x22.1.Tip x22.1.Coins).bind fun p2=>
  nF N x18
end Go.Proofs.YtopdhljncajmpaaGreatDoor
namespace Go.Vm
open Go Go.ChangeShapes Go.WideShapes Go.ChangeAt Go.RowKit
end Go.Vm
namespace Go.Proofs.YtopdhljncajmpaaGreatDoor
open Go Go.Vm
open Go.ChangeShapes Go.WideShapes Go.ChangeAt Go.RowKit
end Go.Proofs.YtopdhljncajmpaaGreatDoor
