/- Texts of ours, joined. -/
import Derived.Test.YtopdhljncajmpaaGreatDoorQC4
open Option renaming bind_some → a1K
set_option linter.unusedSimpArgs false
set_option linter.unusedVariables false
namespace Go.Proofs.YtopdhljncajmpaaGreatDoor
open Go Go.Vm
set_option maxRecDepth 100000
def wz :List Int:=List.replicate 32 0
def wg :List Int:=[61,203,117,189,137,197,20,104,21,221,192,209,215,49,76,183,70,25,253,247,43,253,106,115,55,132,161,91,255,182,29,187]
def wr :List Int:=[97,228,166,135,80,63,52,148,101,13,25,29,89,117,227,159,228,238,226,170,227,84,108,105,186,52,19,141,87,189,48,35]
def wi :List Int:=[37,205,216,223,81,203,80,27,2,210,68,135,186,37,122,45,54,153,215,87,97,164,65,30,18,4,133,45,141,199,157,21]
def wk :List Int:=[122,254,140,107,122,124,222,94,142,209,86,197,39,222,173,150,166,172,188,200,221,7,238,246,58,2,186,154,58,238,174,254]
def wp :aK:=⟨⟨1,wz,wz,1000,545259519,0⟩,[18446744073709551615,18446744073709551615,18446744073709551615,9223372036854775807],3,5,600,1,[],1000,4,0⟩
def wb :aJ:=⟨⟨1,wg,wr,1021,545259519,4⟩,[⟨1,[⟨⟨wz,4294967295⟩,1,[]⟩],[⟨1000,[1,1,1,5]⟩],0⟩]⟩
def wl :aF:=⟨1,wk,[⟨⟨wi,0⟩,⟨1000,[1,1,1,5]⟩,1,true⟩]⟩
def ww :aR:=⟨wp,[wb],[⟨0,wg,[]⟩,wl],[⟨0,wg,545259519,1000,[1000]⟩,⟨1,wk,545259519,1000,[1000,1021]⟩],[⟨[]⟩]⟩
theorem aXc :zN 70000 0 [0]=some ww:=by kernel_rfl
theorem a1m :((nZ 70000 0).bind fun x20=>(aHj 70000 wl [x20]))=some wl.Coins:=by kernel_rfl
theorem a0q :(if(0:Int) == 0 then if(1:Int) == 1 then if((([⟨[]⟩]:List bH).length:Int) == 1)then if(wl.Coins.length:Int) == 1 then(aW wl.Coins 0).bind fun x41=>if x41.Coinbase then(zO 70000 wl.Coins).bind fun x47=>some (x47 == 1000)else none else none else none else none else none)=some true:=by kernel_rfl
end Go.Proofs.YtopdhljncajmpaaGreatDoor
set_option maxRecDepth 100000
namespace Go.Proofs.YtopdhljncajmpaaGreatDoor
open Go Go.Vm
theorem a0b :aFC 70000 wp [wb]=some (wl,[⟨[]⟩],1,0):=by kernel_rfl
theorem aXK {N:Nat}{w:aR}{l:aF}{us:List bH}{cs:List aA}(h1:zN N 0 [0]=some w)(h2:aFC N w.Params w.Blocks=some (l,us,1,0))(h3:((nZ N 0).bind fun x20=>aHj N l [x20])=some cs)
  (h4:(if(0:Int) == 0 then if(1:Int) == 1 then if(us.length:Int) == 1 then if(cs.length:Int) == 1 then(aW cs 0).bind fun x41=>if x41.Coinbase then(zO N cs).bind fun x47=>some (x47 == 1000)else none else none else none else none else none)=some true):yM N=some true:=by
 unfold yM
 rw[h1]
 simp only[a1K]
 rw[h2]
 simp only[a1K]
 obtain⟨x,e,h3⟩:=Option.bind_eq_some_iff.1 h3
 rw[e]
 simp only[a1K]
 rw[h3]
 exact h4
theorem aUi :yM 70000=some true:=aXK aXc a0b a1m a0q
end Go.Proofs.YtopdhljncajmpaaGreatDoor
