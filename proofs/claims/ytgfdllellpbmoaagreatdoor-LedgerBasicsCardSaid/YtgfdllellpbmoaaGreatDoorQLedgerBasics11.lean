/- Texts of ours, joined: SaneD. -/
import Derived.Test.YtgfdllellpbmoaaGreatDoorQLedgerBasics10
open Nat renaming beq → aYV
namespace Go.Proofs.YtgfdllellpbmoaaGreatDoor
open Go Go.Vm
set_option maxRecDepth 100000
def cA :List V:=[eI .u8 0,.row none 1 [eI .u8 0]]
def aP :V:=cY wp
def aB :V:=k6 wb
def aL :V:= .agg (eI .i64 0::(wg.map (eI .u8)++[aKU]))
def rC :V:= .tup [dO ⟨1,wk,[wc]⟩,.agg [aKU],eI .i64 0]
def rR :V:= .tup [dO ⟨1,wk,[wc]⟩,.row none 1 [.agg [.row none 1 []]],eI .i64 1,eI .i64 0]
def u8s :List V→Option (List Int)
 | []=>some []
 | .sc (.int .u8 n)::l=>(u8s l).map (n:: ·)
 |_=>none
def lB :uF:=fun f h xs=>
 bif aYV f 61 then(bif eqH h hL&&tH xs [.ptr 6 0]then some (rL,some hL)else none)
 else bif aYV f 17 then(bif tH xs cA then some (gM ww,none)else none)
 else bif aYV f 22 then(bif tH xs [aP]then some (eB true,none)else none)
 else bif aYV f 39 then(match xs with
  | [.row _ 1 es]=>(u8s es).bind fun b=>(zP 100000 b).map fun r=>(.agg (r.map (eI .u8)),none)
  |_=>none)
 else none
def nK :FuncId→Bool:=fun f=>[17,39,169].elem f
def nM :FuncId→Bool:=fun f=> !(nK f)&& !([59,60].elem f)
def nL :FuncId→Bool:=fun f=>[67,68,107,163,188,189,193,221].elem f
def aN9 (O:uF)(f:FuncId)(xs:List V)(v:V):uF:=fun g h ys=>bif aYV g f&&tH ys xs then some (v,none)else O g h ys
noncomputable def aOy (O:uF)(f:FuncId)(xs:List V):Option V:=aDU (aBq Tryz.prog nF nM nT (aEx Tryz.prog nF nM nL nK nT O NF) NF f [] xs)
def o1 :uF:=aN9 lB 96 [aB] (eI .i64 0)
def o2 :uF:=aN9 o1 35 [aP,aL,aB] rC
def o3 :uF:=aN9 o2 18 [aP,.row none 69 [aB]] rR
theorem aXT :aOy lB 96 [aB]=some (eI .i64 0):=by kernel_rfl
theorem aYL :aOy o1 35 [aP,aL,aB]=some rC:=by kernel_rfl
theorem aX3 :aOy o2 18 [aP,.row none 69 [aB]]=some rR:=by kernel_rfl
theorem aYw :aOy o3 4 []=some (eB true):=by kernel_rfl
end Go.Proofs.YtgfdllellpbmoaaGreatDoor
