/- Texts of ours, joined: Wk3. -/
import Derived.Test.YtbjiaghljpoliaaGreatDoorQSpendChecks7
open List renaming replicate → aXj,length_map → aXv
open Bool renaming eq_false_or_eq_true → aXk
open Go.Vm.AB renaming seq → aXl,block → aXn,seq_g → aXo,ghost → aXr,loopN → aXs,rs → aXx
open Go.IntKind renaming i64 → aXm
open Go.Vm.DrawG renaming pick → aXp,jg → aXK,fork → aXL,nil → aXN
open Go.Vm.Convs renaming same → aXq,cons → aXt,nil → aXC
open Go.Vm.HCv renaming live → aXu,dead → aXA,nil → aXI
open Go.Vm.Ghost renaming trans → aXw,conv → aXz
open Int renaming toNat → aXy,tdiv → aXM
open Go.Vm.Conv renaming same → aXB,tup → aXE,row → aXF
open Go.Vm.FCv renaming cons → aXD,nil → aXH
open Go.Vm.Fork renaming cons → aXG
open Go.Vm.OpsX renaming ghost → aXJ
set_option linter.unusedVariables false
set_option linter.unusedSimpArgs false
set_option maxRecDepth 20000
set_option maxHeartbeats 1000000
namespace Go.Proofs.YtbjiaghljpoliaaGreatDoor
open Go Go.Vm
theorem aJK {N:Nat}{l:List aX}{r:Bool}(hr:y6 N l=some r):
  Vm.Fn Tryz.prog 69 [] [(.row none 4 (l.map yI))] (eB r) []:=by
 refine zf Tryz.func69 Tryz.ntmps69 ?_
 unfold y6 at hr
 refine zz ?_
 refine aXo fun K1 hK1 hG1=> ?_
 have J1: ∀(l0:List Bool),aBT N l0=some r→K1 (aI 51 [(3,(.sl 0 0 l0.length 1 false))]) [some ⟨4,l0.map eB⟩]:=by
  intro l0 hr
  unfold aBT at hr
  refine hK1 _ _ ?_
  refine zz ?_
  obtain rfl:=sj hr
  exact bE Tryz.results69 []
 obtain⟨bL,hL2,hr⟩:=aD hr
 refine zz ?_
 refine aXn<|aXs (fun m s h=> ∃(x8:Int)(aS:List Bool),eP N l m x8 aS=some bL∧Ghost 0 s h (aI 51 [(3,(.sl 0 0 aS.length 1 false)),(6,(.row none 4 (l.map yI))),(7,(eI .i64 (l.length:Int))),(8,(eI .i64 x8))]) [some ⟨4,aS.map eB⟩]) (n:=N) ⟨0,[],hL2,(zW 4 [0])⟩ (by rintro s h ⟨_,_,h0,_⟩;simp[eP]at h0) ?_
 rintro m2 s h ⟨x8,aS,hr2,hg⟩
 refine aXr hg ?_
 clear hg hL2
 rw[eP]at hr2
 refine zz ?_
 refine aXl ?_
 refine zk hr2 rfl (fun h1 hr2=> ?_) (fun h1 hr2=> ?_)
 ·refine zz ?_
  refine aXo fun K3 hK3 hG3=> ?_
  have J3: ∀(fL:List Bool),mV N l x8 (eP N l m2) fL=some bL→K3 (aI 51 [(3,(.sl 0 0 fL.length 1 false)),(6,(.row none 4 (l.map yI))),(7,(eI .i64 (l.length:Int))),(8,(eI .i64 x8))]) [some ⟨4,fL.map eB⟩]:=by
   intro fL hr2
   unfold mV at hr2
   refine hK3 _ _ ?_
   refine zz ?_
   exact⟨aXm.wrap (x8+1),fL,hr2,(zG [0])⟩
  refine aXn ?_
  obtain⟨cD,h_2,hr2⟩:=aD hr2
  refine zz ?_
  refine aXn ?_
  refine zz ?_
  refine zk hr2 rfl (fun h3 hr2=> ?_) (fun h3 hr2=> ?_)
  ·obtain⟨x18,h_4,hr2⟩:=aD hr2
   refine zz ?_
   exact hG3 _ _ _ _ (zG [3]) (J3 x18 hr2)
  refine zz ?_
  refine zk hr2 rfl (fun h5 hr2=> ?_) (fun h5 hr2=> ?_)
  ·refine aXl ?_
   refine aXo fun K4 hK4 hG4=> ?_
   have J4: ∀(eG:Bool),sW N l x8 aS (eP N l m2) eG=some bL→K4 (aI 51 [(3,(.sl 0 0 aS.length 1 false)),(6,(.row none 4 (l.map yI))),(7,(eI .i64 (l.length:Int))),(8,(eI .i64 x8)),(31,(eB eG))]) [some ⟨4,aS.map eB⟩]:=by
    intro eG hr2
    unfold sW at hr2
    refine hK4 _ _ ?_
    refine zk hr2 rfl (fun h6 hr2=> ?_) (fun h6 hr2=> ?_)
    ·refine zz ?_
     obtain rfl:=sj hr2
     obtain rfl:=sj hr
     exact bE Tryz.results69 []
    obtain⟨x36,h_7,hr2⟩:=aD hr2
    refine zz ?_
    exact hG3 _ _ _ _ (lU [0]) (J3 (aS.set (aXy (aXm.wrap ((aS.length:Int)-1))) true) hr2)
   rcases aXk ((aS.length:Int) == 0)with h8|h8
   ·replace hr2:=cQ hr2 h8
    refine xr ?_
    refine zz ?_
    exact hG4 _ _ _ _ (zG [0]) (J4 true hr2)
   replace hr2:=cR hr2 h8
   obtain⟨x29,h_9,hr2⟩:=aD hr2
   refine xr ?_
   refine zz ?_
   exact hG4 _ _ _ _ (zG [0]) (J4 x29 hr2)
  refine zz ?_
  refine zk hr2 rfl (fun h10 hr2=> ?_) (fun h10 hr2=> ?_)
  ·refine aXl ?_
   refine zz ?_
   refine zk hr2 rfl (fun h11 hr2=> ?_) (fun h11 hr2=> ?_)
   ·refine zz ?_
    obtain rfl:=sj hr2
    obtain rfl:=sj hr
    exact bE Tryz.results69 []
   obtain⟨x46,h_12,hr2⟩:=aD hr2
   refine zz ?_
   refine xw (v:=(.sl 0 0 x46.length 1 false)) (cW rfl rfl rfl (aJo (l:=aS) rfl aOD ti4 rfl rfl rfl h_12)) ?_
   refine aXJ (Ghost.cutM (t:=46) (E:=eB) (l:=aS) (h':=[some ⟨4,x46.map eB⟩,some ⟨90,[(eI .i64 cD.Code),(.row none 1 (cD.Data.map (eI .u8))),(eI .i64 cD.M),(eI .i64 cD.N)]⟩]) rfl rfl h_12 rfl) ?_
   refine zz ?_
   exact hG3 _ _ _ _ (zG [0]) (J3 x46 hr2)
  refine zz ?_
  exact hG3 _ _ _ _ (zG [0]) (J3 aS hr2)
 refine zz ?_
 obtain rfl:=sj hr2
 refine zz ?_
 exact hG1 _ _ _ _ (zG [0]) (J1 aS hr)
theorem aLF {N:Nat}{vs:List (List Int)}{r:Bool}(hr:aCe N vs=some r):
  Vm.Fn Tryz.prog 70 [] [(.row none 1 (vs.map (eL 1 (eI .u8))))] (eB r) []:=by
 refine zf Tryz.func70 Tryz.ntmps70 ?_
 unfold aCe at hr
 refine zz ?_
 refine aXl ?_
 refine zz ?_
 refine zk hr rfl (fun h1 hr=> ?_) (fun h1 hr=> ?_)
 ·refine zz ?_
  obtain rfl:=sj hr
  exact bE Tryz.results70 []
 refine zz ?_
 refine aXo fun K1 hK1 hG1=> ?_
 have J1:aDn N=some r→K1 (aI 18 []) []:=by
  intro hr
  unfold aDn at hr
  refine hK1 _ _ ?_
  refine zz ?_
  obtain rfl:=sj hr
  exact bE Tryz.results70 []
 obtain⟨bL,hL2,hr⟩:=aD hr
 refine zz ?_
 refine aXn<|aXs (fun m s h=> ∃(cD:Int),nK N vs m cD=some bL∧Ghost 0 s h (aI 18 [(8,(.row none 1 (vs.map (eL 1 (eI .u8))))),(9,(eI .i64 (vs.length:Int))),(10,(eI .i64 cD))]) []) (n:=N) ⟨0,hL2,(zG [])⟩ (by rintro s h ⟨_,h0,_⟩;simp[nK]at h0) ?_
 rintro m2 s h ⟨cD,hr2,hg⟩
 refine aXr hg ?_
 clear hg hL2
 rw[nK]at hr2
 refine zz ?_
 refine aXl ?_
 refine zk hr2 rfl (fun h2 hr2=> ?_) (fun h2 hr2=> ?_)
 ·refine zz ?_
  refine aXl<|aXn ?_
  obtain⟨fR,h_3,hr2⟩:=aD hr2
  refine zz ?_
  refine zk hr2 rfl (fun h4 hr2=> ?_) (fun h4 hr2=> ?_)
  ·refine zz ?_
   obtain rfl:=sj hr2
   obtain rfl:=sj hr
   exact bE Tryz.results70 []
  refine zz ?_
  exact⟨aXm.wrap (cD+1),hr2,(zG [])⟩
 refine zz ?_
 obtain rfl:=sj hr2
 refine zz ?_
 exact hG1 _ _ _ _ (zG []) (J1 hr)
theorem aI8 {N:Nat}{l:List (List Int)}{r:(List (List Int))}(hr:xJ N l=some r):
  Vm.Fn Tryz.prog 71 [] [(.row none 1 (l.map (eL 1 (eI .u8))))] (.sl 0 0 r.length 1 false) [some ⟨31,r.map (eL 1 (eI .u8))⟩]:=by
 refine zf Tryz.func71 Tryz.ntmps71 ?_
 unfold xJ at hr
 obtain⟨x8,h_1,hr⟩:=aD hr
 refine zz ?_
 refine xw (v:=(.sl 0 0 0 1 false)) (h':=[some ⟨31,x8.map (eL 1 (eI .u8))⟩]) (aKf rfl rfl (mkC (E:=(eL 1 (eI .u8))) (y:=([]:List Int)) aB8 dB ⟨zl,rfl,rfl⟩ rfl rfl rfl h_1 rfl rfl)) ?_
 refine zz ?_
 refine aXo fun K1 hK1 hG1=> ?_
 have J1: ∀(l0:List (List Int)),aBs N l0=some r→K1 (aI 23 [(3,(.sl 0 0 l0.length 1 false))]) [some ⟨31,l0.map (eL 1 (eI .u8))⟩]:=by
  intro l0 hr
  unfold aBs at hr
  refine hK1 _ _ ?_
  refine zz ?_
  obtain rfl:=sj hr
  exact bE Tryz.results71 [0]
 refine zz ?_
 refine aXr (Ghost.cutM (t:=3) (E:=(eL 1 (eI .u8))) (l:=x8) (x:=[]) (h':=[some ⟨31,[].map (eL 1 (eI .u8))⟩]) rfl rfl aVw rfl) ?_
 obtain⟨bL,hL2,hr⟩:=aD hr
 refine aXn<|aXs (fun m s h=> ∃(b4:Int)(aS:List (List Int)),kQ N l m b4 aS=some bL∧Ghost 0 s h (aI 23 [(3,(.sl 0 0 aS.length 1 false)),(9,(.row none 1 (l.map (eL 1 (eI .u8))))),(10,(eI .i64 (l.length:Int))),(11,(eI .i64 b4))]) [some ⟨31,aS.map (eL 1 (eI .u8))⟩]) (n:=N) ⟨0,[],hL2,(lU [0])⟩ (by rintro s h ⟨_,_,h0,_⟩;simp[kQ]at h0) ?_
 rintro m2 s h ⟨b4,aS,hr2,hg⟩
 refine aXr hg ?_
 clear hg hL2
 rw[kQ]at hr2
 refine zz ?_
 refine aXl ?_
 refine zk hr2 rfl (fun h2 hr2=> ?_) (fun h2 hr2=> ?_)
 ·refine zz ?_
  refine aXl<|aXn ?_
  obtain⟨dA,h_3,hr2⟩:=aD hr2
  obtain⟨x18,h_4,hr2⟩:=aD hr2
  obtain⟨bT,h_5,hr2⟩:=aD hr2
  refine zz ?_
  refine jI (aAR h_4) [] [1] ?_
  refine aXJ (zv 2) ?_
  refine zz ?_
  exact⟨aXm.wrap (b4+1),bT,hr2,(zG [4])⟩
 refine zz ?_
 obtain rfl:=sj hr2
 refine zz ?_
 exact hG1 _ _ _ _ (zG [0]) (J1 aS hr)
theorem aJM {N:Nat}{l:List bC}{r:Bool}(hr:xP N l=some r):
  Vm.Fn Tryz.prog 72 [] [(.row none 2 (l.map aEf))] (eB r) []:=by
 refine zf Tryz.func72 Tryz.ntmps72 ?_
 unfold xP at hr
 refine zz ?_
 refine aXo fun K1 hK1 hG1=> ?_
 have J1: ∀(x2:Bool),pG N x2=some r→K1 (aI 24 [(2,(eB x2))]) []:=by
  intro x2 hr
  unfold pG at hr
  refine hK1 _ _ ?_
  refine zz ?_
  obtain rfl:=sj hr
  exact bE Tryz.results72 []
 rcases aXk ((l.length:Int) == 0)with h1|h1
 ·replace hr:=cQ hr h1
  refine xr ?_
  refine zz ?_
  exact hG1 _ _ _ _ (zG []) (J1 true hr)
 replace hr:=cR hr h1
 obtain⟨b4,h_2,hr⟩:=aD hr
 rcases aXk b4.reached with h3|h3
 ·replace hr:=cQ hr h3
  refine xr ?_
  refine zz ?_
  exact hG1 _ _ _ _ (zG []) (J1 b4.done hr)
 replace hr:=cR hr h3
 refine xr ?_
 refine zz ?_
 exact hG1 _ _ _ _ (zG []) (J1 false hr)
theorem aKi {N:Nat}{aT:Int}{bP:List Int}{o_M o_N r:Int}(hr:aCL N aT bP o_M o_N=some r):
  Vm.Fn Tryz.prog 73 [] [(.agg [(eI .i64 aT),(.row none 1 (bP.map (eI .u8))),(eI .i64 o_M),(eI .i64 o_N)])] (eI .i64 r) []:=by
 refine zf Tryz.func73 Tryz.ntmps73 ?_
 unfold aCL at hr
 refine zz ?_
 refine aXl ?_
 refine zz ?_
 refine aXn ?_
 refine zz ?_
 refine zk hr rfl (fun h1 hr=> ?_) (fun h1 hr=> ?_)
 ·refine zz ?_
  obtain rfl:=sj hr
  exact bE Tryz.results73 []
 refine zz ?_
 refine zk hr rfl (fun h2 hr=> ?_) (fun h2 hr=> ?_)
 ·refine zz ?_
  obtain rfl:=sj hr
  exact bE Tryz.results73 []
 refine zz ?_
 refine zk hr rfl (fun h3 hr=> ?_) (fun h3 hr=> ?_)
 ·refine zz ?_
  obtain rfl:=sj hr
  exact bE Tryz.results73 []
 refine zz ?_
 obtain rfl:=sj hr
 exact bE Tryz.results73 []
theorem aKg {N:Nat}{aT:Int}{bP:List Int}{o_M o_N r:Int}(hr:aAq N aT bP o_M o_N=some r):
  Vm.Fn Tryz.prog 74 [] [(.agg [(eI .i64 aT),(.row none 1 (bP.map (eI .u8))),(eI .i64 o_M),(eI .i64 o_N)])] (eI .i64 r) []:=by
 refine zf Tryz.func74 Tryz.ntmps74 ?_
 unfold aAq at hr
 refine zz ?_
 refine aXl ?_
 refine zz ?_
 refine aXn ?_
 refine aXo fun K1 hK1 hG1=> ?_
 have J1: ∀(x5:Bool),fW N aT bP o_M o_N x5=some r→K1 (aI 24 [(1,(.ptr 0 0)),(4,(eI .i64 aT)),(5,(eB x5))]) [some ⟨90,[(eI .i64 aT),(.row none 1 (bP.map (eI .u8))),(eI .i64 o_M),(eI .i64 o_N)]⟩]:=by
  intro x5 hr
  unfold fW at hr
  refine hK1 _ _ ?_
  refine zk hr rfl (fun h1 hr=> ?_) (fun h1 hr=> ?_)
  ·refine zz ?_
   obtain rfl:=sj hr
   exact bE Tryz.results74 []
  refine aXo fun K2 hK2 hG2=> ?_
  have J2: ∀(x15:Bool),qW N aT bP o_M o_N x15=some r→K2 (aI 24 [(1,(.ptr 0 0)),(4,(eI .i64 aT)),(15,(eB x15))]) [some ⟨90,[(eI .i64 aT),(.row none 1 (bP.map (eI .u8))),(eI .i64 o_M),(eI .i64 o_N)]⟩]:=by
   intro x15 hr
   unfold qW at hr
   refine hK2 _ _ ?_
   refine zk hr rfl (fun h2 hr=> ?_) (fun h2 hr=> ?_)
   ·refine zz ?_
    obtain rfl:=sj hr
    exact bE Tryz.results74 []
   refine zz ?_
   refine zk hr rfl (fun h3 hr=> ?_) (fun h3 hr=> ?_)
   ·refine zz ?_
    obtain rfl:=sj hr
    exact bE Tryz.results74 []
   refine zz ?_
   obtain rfl:=sj hr
   exact bE Tryz.results74 []
  refine zz ?_
  refine zk hr rfl (fun h4 hr=> ?_) (fun h4 hr=> ?_)
  ·refine zz ?_
   exact hG2 _ _ _ _ (zG [0]) (J2 (aT == 4) hr)
  refine zz ?_
  refine zk hr rfl (fun h5 hr=> ?_) (fun h5 hr=> ?_)
  ·refine zz ?_
   exact hG2 _ _ _ _ (zG [0]) (J2 (aT == 5) hr)
  refine zz ?_
  exact hG2 _ _ _ _ (zG [0]) (J2 (aT == 10) hr)
 refine zz ?_
 refine zk hr rfl (fun h6 hr=> ?_) (fun h6 hr=> ?_)
 ·refine zz ?_
  exact hG1 _ _ _ _ (zG [0]) (J1 (aT == 2) hr)
 refine zz ?_
 refine zk hr rfl (fun h7 hr=> ?_) (fun h7 hr=> ?_)
 ·refine zz ?_
  exact hG1 _ _ _ _ (zG [0]) (J1 (aT == 3) hr)
 refine zz ?_
 refine zk hr rfl (fun h8 hr=> ?_) (fun h8 hr=> ?_)
 ·refine zz ?_
  exact hG1 _ _ _ _ (zG [0]) (J1 (aT == 6) hr)
 refine zz ?_
 refine zk hr rfl (fun h9 hr=> ?_) (fun h9 hr=> ?_)
 ·refine zz ?_
  exact hG1 _ _ _ _ (zG [0]) (J1 (aT == 7) hr)
 refine zz ?_
 refine zk hr rfl (fun h10 hr=> ?_) (fun h10 hr=> ?_)
 ·refine zz ?_
  exact hG1 _ _ _ _ (zG [0]) (J1 (aT == 8) hr)
 refine zz ?_
 refine zk hr rfl (fun h11 hr=> ?_) (fun h11 hr=> ?_)
 ·refine zz ?_
  exact hG1 _ _ _ _ (zG [0]) (J1 (aT == 9) hr)
 refine zz ?_
 refine zk hr rfl (fun h12 hr=> ?_) (fun h12 hr=> ?_)
 ·refine zz ?_
  exact hG1 _ _ _ _ (zG [0]) (J1 (aT == 12) hr)
 refine zz ?_
 refine zk hr rfl (fun h13 hr=> ?_) (fun h13 hr=> ?_)
 ·refine zz ?_
  exact hG1 _ _ _ _ (zG [0]) (J1 (aT == 13) hr)
 refine zz ?_
 exact hG1 _ _ _ _ (zG [0]) (J1 (aT == 14) hr)
theorem aAM {N:Nat}{b:List Int}{r:Bool}(hr:qE N b=some r):
  Vm.Fn Tryz.prog 42 [] [(.row none 1 (b.map (eI .u8)))] (eB r) []:=by
 refine zf Tryz.func42 Tryz.ntmps42 ?_
 unfold qE at hr
 refine zz ?_
 refine aXo fun K1 hK1 hG1=> ?_
 have J1:aDi N=some r→K1 (aI 14 []) []:=by
  intro hr
  unfold aDi at hr
  refine hK1 _ _ ?_
  refine zz ?_
  obtain rfl:=sj hr
  exact bE Tryz.results42 []
 obtain⟨bL,hL2,hr⟩:=aD hr
 refine zz ?_
 refine aXn<|aXs (fun m s h=> ∃(x7:Int),pX N b m x7=some bL∧Ghost 0 s h (aI 14 [(5,(.row none 1 (b.map (eI .u8)))),(6,(eI .i64 (b.length:Int))),(7,(eI .i64 x7))]) []) (n:=N) ⟨0,hL2,(zG [])⟩ (by rintro s h ⟨_,h0,_⟩;simp[pX]at h0) ?_
 rintro m2 s h ⟨x7,hr2,hg⟩
 refine aXr hg ?_
 clear hg hL2
 rw[pX]at hr2
 refine zz ?_
 refine aXl ?_
 refine zk hr2 rfl (fun h1 hr2=> ?_) (fun h1 hr2=> ?_)
 ·refine zz ?_
  refine aXl<|aXn ?_
  obtain⟨x9,h_2,hr2⟩:=aD hr2
  refine zz ?_
  refine zk hr2 rfl (fun h3 hr2=> ?_) (fun h3 hr2=> ?_)
  ·refine zz ?_
   obtain rfl:=sj hr2
   obtain rfl:=sj hr
   exact bE Tryz.results42 []
  refine zz ?_
  exact⟨aXm.wrap (x7+1),hr2,(zG [])⟩
 refine zz ?_
 obtain rfl:=sj hr2
 refine zz ?_
 exact hG1 _ _ _ _ (zG []) (J1 hr)
theorem aBW {N:Nat}{vs:List (List Int)}{gM:List Int}{r:(List (List Int))×Int}(hr:o4 N vs gM=some r):
  Vm.Fn Tryz.prog 96 [] [(.row none 1 (vs.map (eL 1 (eI .u8)))),(.row none 1 (gM.map (eI .u8)))] (.tup [(.sl 0 0 r.1.length 1 false),(eI .i64 r.2)]) [some ⟨31,r.1.map (eL 1 (eI .u8))⟩]:=by
 refine zf Tryz.func96 Tryz.ntmps96 ?_
 unfold o4 at hr
 refine zz ?_
 refine aXl ?_
 refine zz ?_
 refine zk hr rfl (fun h1 hr=> ?_) (fun h1 hr=> ?_)
 ·refine zz ?_
  obtain rfl:=sj hr
  exact oL Tryz.results96 bJ bJ (zW 31 [0])
 obtain⟨bQ,h_2,hr⟩:=aD hr
 obtain⟨x17,h_3,hr⟩:=aD hr
 refine zz ?_
 obtain rfl:=sj hr
 exact kG Tryz.results96 [1]
theorem aLz {N:Nat}{va b:List Int}{r:Bool}(hr:aDQ N va b=some r):
  Vm.Fn Tryz.prog 98 [] [(.row none 1 (va.map (eI .u8))),(.row none 1 (b.map (eI .u8)))] (eB r) []:=by
 refine zf Tryz.func98 Tryz.ntmps98 ?_
 unfold aDQ at hr
 refine zz ?_
 refine xw (v:=(eS (sY va))) (jX rfl (aLN dB ti9 dO (aEA (fun _=>rfl)))) ?_
 refine zz ?_
 refine xw (v:=(eS (sY b))) (jX rfl (aLN dB ti9 dO (aEA (fun _=>rfl))))<|xw (tD rfl rfl (aNi ..)) ?_
 refine zz ?_
 obtain rfl:=sj hr
 exact bE Tryz.results98 []
theorem aDp {N:Nat}{vn:Int}{r:(List Int)}(hr:vG N vn=some r):
  Vm.Fn Tryz.prog 99 [] [(eI .u32 vn)] (.sl 0 0 r.length 1 false) [some ⟨5,r.map (eI .u8)⟩]:=by
 refine zf Tryz.func99 Tryz.ntmps99 ?_
 unfold vG at hr
 refine zz ?_
 refine aXo fun K1 hK1 hG1=> ?_
 have J1: ∀(l0:List Int),aDy N l0=some r→K1 (aI 14 [(3,(.sl 0 0 l0.length 1 false))]) [some ⟨5,l0.map (eI .u8)⟩]:=by
  intro l0 hr
  unfold aDy at hr
  refine hK1 _ _ ?_
  refine zz ?_
  obtain rfl:=sj hr
  exact bE Tryz.results99 [0]
 obtain⟨bL,hL2,hr⟩:=aD hr
 refine aXn<|aXs (fun m s h=> ∃(eC:Int)(aS:List Int),pQ N m eC aS=some bL∧Ghost 0 s h (aI 14 [(0,(eI .u32 eC)),(3,(.sl 0 0 aS.length 1 false))]) [some ⟨5,aS.map (eI .u8)⟩]) (n:=N) ⟨vn,[],hL2,(zW 5 [0])⟩ (by rintro s h ⟨_,_,h0,_⟩;simp[pQ]at h0) ?_
 rintro m2 s h ⟨eC,aS,hr2,hg⟩
 refine aXr hg ?_
 clear hg hL2
 rw[pQ]at hr2
 refine aXl ?_
 refine zz ?_
 refine zk hr2 rfl (fun h1 hr2=> ?_) (fun h1 hr2=> ?_)
 ·refine zz ?_
  refine aXl<|aXn ?_
  obtain⟨fR,h_2,hr2⟩:=aD hr2
  refine zz ?_
  exact⟨IntKind.u32.wrap (aXM eC 256),fR,hr2,(zG [2])⟩
 refine zz ?_
 obtain rfl:=sj hr2
 refine zz ?_
 exact hG1 _ _ _ _ (zG [0]) (J1 aS hr)
theorem zT {N:Nat}{b:Bool}{r:(List Int)}(hr:oN N b=some r):
  Vm.Fn Tryz.prog 97 [] [(eB b)] (.row none 1 (r.map (eI .u8))) []:=by
 refine zf Tryz.func97 Tryz.ntmps97 ?_
 unfold oN at hr
 refine zz ?_
 refine aXl ?_
 refine zz ?_
 refine zk hr rfl (fun h1 hr=> ?_) (fun h1 hr=> ?_)
 ·obtain⟨x4,h_2,hr⟩:=aD hr
  refine zz ?_
  refine zc (aDp h_2) [] ?_
  refine zz ?_
  obtain rfl:=sj hr
  exact iE Tryz.results97 bJ (aXw (zv 0) (zG []))
 obtain⟨x5,h_3,hr⟩:=aD hr
 refine zz ?_
 refine zc (aDp h_3) [] ?_
 refine zz ?_
 obtain rfl:=sj hr
 exact iE Tryz.results97 bJ (aXw (zv 0) (zG []))
theorem sT {N:Nat}{vh:List Int}{r:(List Int)}(hr:i7 N vh=some r):
  Vm.Fn Tryz.prog 117 [] [(.agg (vh.map (eI .u8)))] (.agg (r.map (eI .u64))) []:=by
 refine zf Tryz.func117 Tryz.ntmps117 ?_
 unfold i7 at hr
 refine zz ?_
 refine aXo fun K1 hK1 hG1=> ?_
 have J1: ∀(l1:List Int),sI N l1=some r→K1 (aI 27 [(2,(.ptr 0 0)),(3,(.ptr 1 0))]) [some ⟨135,(aXj 4 0).map (eI .u64)⟩,some ⟨135,l1.map (eI .u64)⟩]:=by
  intro l1 hr
  unfold sI at hr
  refine hK1 _ _ ?_
  obtain⟨q,h_1,hr⟩:=aD hr
  refine zz ?_
  obtain rfl:=sj hr
  exact iE Tryz.results117 bJ (zG [])
 obtain⟨bL,hL2,hr⟩:=aD hr
 refine zz ?_
 refine aXn<|aXs (fun m s h=> ∃(x6:Int)(l2:List Int),j4 N vh m x6 l2=some bL∧Ghost 0 s h (aI 27 [(1,(.ptr 0 0)),(2,(.ptr 1 0)),(3,(.ptr 2 0)),(6,(eI .i64 x6))]) [some ⟨28,vh.map (eI .u8)⟩,some ⟨135,(aXj 4 0).map (eI .u64)⟩,some ⟨135,l2.map (eI .u64)⟩]) (n:=N) ⟨0,aXj 4 0,hL2,(zG [0,1,2])⟩ (by rintro s h ⟨_,_,h0,_⟩;simp[j4]at h0) ?_
 rintro m2 s h ⟨x6,l2,hr2,hg⟩
 refine aXr hg ?_
 clear hg hL2
 rw[j4]at hr2
 refine zz ?_
 refine aXl ?_
 refine zk hr2 rfl (fun h2 hr2=> ?_) (fun h2 hr2=> ?_)
 ·refine zz ?_
  refine aXl<|aXn ?_
  obtain⟨dA,h_3,hr2⟩:=aD hr2
  obtain⟨x16,h_4,hr2⟩:=aD hr2
  obtain⟨bV,h_5,hr2⟩:=aD hr2
  refine zz ?_
  refine aXx mixed [] [] [[0,1,2,3,4,5,6,7,8,9,10,11,12,13,14]] ?_
  refine zz ?_
  exact⟨aXm.wrap (x6+1),l2.set (aXy (aXm.wrap (aXM (aXm.wrap (31-x6)) 8))) (bits .or .u64 dA bV),hr2,(zG [0,1,2])⟩
 refine zz ?_
 obtain rfl:=sj hr2
 refine zz ?_
 exact hG1 _ _ _ _ (zG [1,2]) (J1 l2 hr)
theorem nC {N:Nat}{vn:Int}{r:(List Int)}(hr:gW N vn=some r):
  Vm.Fn Tryz.prog 124 [] [(eI .u64 vn)] (.agg (r.map (eI .u64))) []:=by
 refine zf Tryz.func124 Tryz.ntmps124 ?_
 unfold gW at hr
 refine zz ?_
 refine xw (v:=(.agg ([vn,0,0,0].map (eI .u64)))) (cE rfl (nR b8 nQ rfl)) ?_
 refine zz ?_
 obtain rfl:=sj hr
 exact iE Tryz.results124 bJ (zG [])
theorem r8 {N:Nat}{va:List Int}{r:Bool}(hr:s9 N va=some r):
  Vm.Fn Tryz.prog 137 [] [(.agg (va.map (eI .u64)))] (eB r) []:=by
 refine zf Tryz.func137 Tryz.ntmps137 ?_
 unfold s9 at hr
 obtain⟨q,h_1,hr⟩:=aD hr
 refine zz ?_
 refine xw (v:=(.agg ([0,0,0,0].map (eI .u64)))) (cE rfl (nR b8 nQ rfl)) ?_
 refine zz ?_
 obtain rfl:=sj hr
 exact bE Tryz.results137 []
theorem aB7 {N:Nat}{va b:List Int}{r:(List Int)×Bool}(hr:sV N va b=some r):
  Vm.Fn Tryz.prog 127 [] [(.agg (va.map (eI .u64))),(.agg (b.map (eI .u64)))] (.tup [(.agg (r.1.map (eI .u64))),(eB r.2)]) []:=by
 refine zf Tryz.func127 Tryz.ntmps127 ?_
 unfold sV at hr
 refine zz ?_
 refine aXo fun K1 hK1 hG1=> ?_
 have J1: ∀(borrow:Int)(l1:List Int),aBA N borrow l1=some r→K1 (aI 29 [(4,(.ptr 0 0)),(6,(.ptr 1 0)),(7,(eI .u64 borrow))]) [some ⟨135,(aXj 4 0).map (eI .u64)⟩,some ⟨135,l1.map (eI .u64)⟩]:=by
  intro borrow l1 hr
  unfold aBA at hr
  refine hK1 _ _ ?_
  obtain⟨q,h_1,hr⟩:=aD hr
  refine zz ?_
  obtain rfl:=sj hr
  exact oL Tryz.results127 bJ bJ (lU [])
 obtain⟨bL,hL2,hr⟩:=aD hr
 refine zz ?_
 refine aXn<|aXs (fun m s h=> ∃(borrow_1 x9:Int)(l3:List Int),q4 N va b m borrow_1 x9 l3=some bL∧Ghost 0 s h (aI 29 [(2,(.ptr 0 0)),(3,(.ptr 1 0)),(4,(.ptr 2 0)),(6,(.ptr 3 0)),(7,(eI .u64 borrow_1)),(9,(eI .i64 x9))]) [some ⟨135,va.map (eI .u64)⟩,some ⟨135,b.map (eI .u64)⟩,some ⟨135,(aXj 4 0).map (eI .u64)⟩,some ⟨135,l3.map (eI .u64)⟩]) (n:=N) ⟨0,0,aXj 4 0,hL2,(zG [0,1,2,3])⟩ (by rintro s h ⟨_,_,_,h0,_⟩;simp[q4]at h0) ?_
 rintro m2 s h ⟨borrow_1,x9,l3,hr2,hg⟩
 refine aXr hg ?_
 clear hg hL2
 rw[q4]at hr2
 refine zz ?_
 refine aXl ?_
 refine zk hr2 rfl (fun h2 hr2=> ?_) (fun h2 hr2=> ?_)
 ·refine zz ?_
  refine aXl<|aXn ?_
  obtain⟨x15,h_3,hr2⟩:=aD hr2
  obtain⟨x18,h_4,hr2⟩:=aD hr2
  obtain⟨d5,h_5,hr2⟩:=aD hr2
  obtain⟨fG,h_7,hr2⟩:=aD hr2
  refine zz ?_
  refine aXx mixed [141] [] [[0,1,2,3,4,5,6,7,8,9,10,11,12,13,14]] ?_
  refine zz ?_
  refine xu (aC4 h_5) ?_
  refine zz ?_
  exact⟨d5.2,aXm.wrap (x9+1),l3.set (aXy x9) d5.1,hr2,(zG [0,1,2,3])⟩
 refine zz ?_
 obtain rfl:=sj hr2
 refine zz ?_
 exact hG1 _ _ _ _ (zG [2,3]) (J1 borrow_1 l3 hr)
theorem rM {N:Nat}{r:(List Int)}(hr:nP N=some r):
  Vm.Fn Tryz.prog 139 [] [] (.agg (r.map (eI .u64))) []:=by
 refine zf Tryz.func139 Tryz.ntmps139 ?_
 unfold nP at hr
 obtain⟨x5,h_1,hr⟩:=aD hr
 obtain⟨x6,h_2,hr⟩:=aD hr
 obtain⟨q,h_3,hr⟩:=aD hr
 refine zz ?_
 refine xw (v:=(.agg ([0,0,0,0].map (eI .u64)))) (cE rfl (nR b8 nQ rfl))<|xp (nC h_1)<|xp (aB7 h_2) ?_
 refine zz ?_
 obtain rfl:=sj hr
 exact iE Tryz.results139 bJ (zG [])
theorem uE {N:Nat}{va b:List Int}{r:Int}(hr:sL N va b=some r):
  Vm.Fn Tryz.prog 138 [] [(.agg (va.map (eI .u64))),(.agg (b.map (eI .u64)))] (eI .i64 r) []:=by
 refine zf Tryz.func138 Tryz.ntmps138 ?_
 unfold sL at hr
 refine zz ?_
 refine aXo fun K1 hK1 hG1=> ?_
 have J1:aEw N=some r→K1 (aI 24 []) []:=by
  intro hr
  unfold aEw at hr
  refine hK1 _ _ ?_
  refine zz ?_
  obtain rfl:=sj hr
  exact bE Tryz.results138 []
 obtain⟨bL,hL2,hr⟩:=aD hr
 refine zz ?_
 refine aXn<|aXs (fun m s h=> ∃(vi:Int),rD N va b m vi=some bL∧Ghost 0 s h (aI 24 [(2,(.ptr 0 0)),(3,(.ptr 1 0)),(5,(eI .i64 vi))]) [some ⟨135,va.map (eI .u64)⟩,some ⟨135,b.map (eI .u64)⟩]) (n:=N) ⟨3,hL2,(zG [0,1])⟩ (by rintro s h ⟨_,h0,_⟩;simp[rD]at h0) ?_
 rintro m2 s h ⟨vi,hr2,hg⟩
 refine aXr hg ?_
 clear hg hL2
 rw[rD]at hr2
 refine aXl ?_
 refine zz ?_
 refine zk hr2 rfl (fun h1 hr2=> ?_) (fun h1 hr2=> ?_)
 ·refine zz ?_
  refine aXl<|aXn<|aXl<|aXl ?_
  obtain⟨b4,h_2,hr2⟩:=aD hr2
  obtain⟨bQ,h_3,hr2⟩:=aD hr2
  refine aXx mixed [] [] [[0,1,2,3,4,5,6]] ?_
  refine zz ?_
  refine zk hr2 rfl (fun h4 hr2=> ?_) (fun h4 hr2=> ?_)
  ·refine zz ?_
   obtain rfl:=sj hr2
   obtain rfl:=sj hr
   exact bE Tryz.results138 []
  refine zz ?_
  refine aXl<|aXx mixed [] [] [[0,1,2,3,4,5,6]] ?_
  refine zz ?_
  refine zk hr2 rfl (fun h5 hr2=> ?_) (fun h5 hr2=> ?_)
  ·refine zz ?_
   obtain rfl:=sj hr2
   obtain rfl:=sj hr
   exact bE Tryz.results138 []
  refine zz ?_
  exact⟨aXm.wrap (vi-1),hr2,(zG [0,1])⟩
 refine zz ?_
 obtain rfl:=sj hr2
 refine zz ?_
 exact hG1 _ _ _ _ (zG []) (J1 hr)
theorem yU {N:Nat}{va:List Int}{vi:Int}{r:Bool}(hr:o6 N va vi=some r):
  Vm.Fn Tryz.prog 156 [] [(.agg (va.map (eI .u64))),(eI .i64 vi)] (eB r) []:=by
 refine zf Tryz.func156 Tryz.ntmps156 ?_
 unfold o6 at hr
 obtain⟨x7,h_1,hr⟩:=aD hr
 obtain⟨b4,h_2,hr⟩:=aD hr
 refine zz ?_
 obtain rfl:=sj hr
 exact bE Tryz.results156 []
theorem aMh {N:Nat}{va:List Int}{vn:Int}{r:(List Int)}(hr:aEP N va vn=some r):
  Vm.Fn Tryz.prog 142 [] [(.agg (va.map (eI .u64))),(eI .i64 vn)] (.agg (r.map (eI .u64))) []:=by
 refine zf Tryz.func142 Tryz.ntmps142 ?_
 unfold aEP at hr
 refine zz ?_
 refine aXl ?_
 refine zz ?_
 refine zk hr rfl (fun h1 hr=> ?_) (fun h1 hr=> ?_)
 ·obtain⟨q,h_2,hr⟩:=aD hr
  refine zz ?_
  obtain rfl:=sj hr
  exact iE Tryz.results142 bJ (zG [])
 refine zz ?_
 refine aXl ?_
 refine zz ?_
 refine zk hr rfl (fun h3 hr=> ?_) (fun h3 hr=> ?_)
 ·refine zz ?_
  refine xw (v:=(.agg ([0,0,0,0].map (eI .u64)))) (cE rfl (nR b8 nQ rfl)) ?_
  refine zz ?_
  obtain rfl:=sj hr
  exact iE Tryz.results142 bJ (zG [])
 refine zz ?_
 refine aXo fun K1 hK1 hG1=> ?_
 have J1: ∀(l1:List Int),aEv N l1=some r→K1 (aI 34 [(4,(.ptr 0 0)),(5,(.ptr 1 0))]) [some ⟨135,(aXj 4 0).map (eI .u64)⟩,some ⟨135,l1.map (eI .u64)⟩]:=by
  intro l1 hr
  unfold aEv at hr
  refine hK1 _ _ ?_
  obtain⟨q_1,h_4,hr⟩:=aD hr
  refine zz ?_
  obtain rfl:=sj hr
  exact iE Tryz.results142 bJ (zG [])
 obtain⟨bL,hL2,hr⟩:=aD hr
 refine zz ?_
 refine aXn<|aXs (fun m s h=> ∃(vi:Int)(l2:List Int),jQ N va vn m vi l2=some bL∧Ghost 0 s h (aI 34 [(1,(eI .i64 vn)),(2,(.ptr 0 0)),(4,(.ptr 1 0)),(5,(.ptr 2 0)),(6,(eI .i64 vi))]) [some ⟨135,va.map (eI .u64)⟩,some ⟨135,(aXj 4 0).map (eI .u64)⟩,some ⟨135,l2.map (eI .u64)⟩]) (n:=N) ⟨0,aXj 4 0,hL2,(zG [0,1,2])⟩ (by rintro s h ⟨_,_,h0,_⟩;simp[jQ]at h0) ?_
 rintro m2 s h ⟨vi,l2,hr2,hg⟩
 refine aXr hg ?_
 clear hg hL2
 rw[jQ]at hr2
 refine aXl ?_
 refine zz ?_
 refine zk hr2 rfl (fun h5 hr2=> ?_) (fun h5 hr2=> ?_)
 ·refine zz ?_
  refine aXo fun K3 hK3 hG3=> ?_
  have J3: ∀(jD:List Int),aB6 N va vn vi (jQ N va vn m2) jD=some bL→K3 (aI 34 [(1,(eI .i64 vn)),(2,(.ptr 0 0)),(4,(.ptr 1 0)),(5,(.ptr 2 0)),(6,(eI .i64 vi))]) [some ⟨135,va.map (eI .u64)⟩,some ⟨135,(aXj 4 0).map (eI .u64)⟩,some ⟨135,jD.map (eI .u64)⟩]:=by
   intro jD hr2
   unfold aB6 at hr2
   refine hK3 _ _ ?_
   refine zz ?_
   exact⟨aXm.wrap (vi+1),jD,hr2,(zG [0,1,2])⟩
  refine aXn ?_
  obtain⟨q_2,h_6,hr2⟩:=aD hr2
  obtain⟨iD,h_7,hr2⟩:=aD hr2
  refine zz ?_
  refine xp (yU h_7) ?_
  refine zz ?_
  refine zk hr2 rfl (fun h8 hr2=> ?_) (fun h8 hr2=> ?_)
  ·obtain⟨x26,h_9,hr2⟩:=aD hr2
   obtain⟨jL,h_10,hr2⟩:=aD hr2
   refine aXx mixed [] [] [[0,1,2,3,4,5,6,7,8,9]] ?_
   refine zz ?_
   exact hG3 _ _ _ _ (zG [0,1,2]) (J3 (l2.set (aXy (aXm.wrap (aXM vi 64))) (bits .or .u64 x26 jL)) hr2)
  refine zz ?_
  exact hG3 _ _ _ _ (zG [0,1,2]) (J3 l2 hr2)
 refine zz ?_
 obtain rfl:=sj hr2
 refine zz ?_
 exact hG1 _ _ _ _ (zG [1,2]) (J1 l2 hr)
theorem zO {N:Nat}{r:(List Int)}(hr:qK N=some r):
  Vm.Fn Tryz.prog 128 [] [] (.agg (r.map (eI .u64))) []:=by
 refine zf Tryz.func128 Tryz.ntmps128 ?_
 unfold qK at hr
 obtain⟨x1,h_1,hr⟩:=aD hr
 obtain⟨x2,h_2,hr⟩:=aD hr
 obtain⟨q,h_3,hr⟩:=aD hr
 refine zz ?_
 refine xp (rM h_1)<|xp (aMh h_2) ?_
 refine zz ?_
 obtain rfl:=sj hr
 exact iE Tryz.results128 bJ (zG [])
theorem aGV {N:Nat}{va b:List Int}{r:(List Int)×Bool}(hr:zE N va b=some r):
  Vm.Fn Tryz.prog 172 [] [(.agg (va.map (eI .u64))),(.agg (b.map (eI .u64)))] (.tup [(.agg (r.1.map (eI .u64))),(eB r.2)]) []:=by
 refine zf Tryz.func172 Tryz.ntmps172 ?_
 unfold zE at hr
 refine zz ?_
 refine aXo fun K1 hK1 hG1=> ?_
 have J1: ∀(lA:Int)(l1:List Int),aBG N lA l1=some r→K1 (aI 29 [(4,(.ptr 0 0)),(6,(.ptr 1 0)),(7,(eI .u64 lA))]) [some ⟨135,(aXj 4 0).map (eI .u64)⟩,some ⟨135,l1.map (eI .u64)⟩]:=by
  intro lA l1 hr
  unfold aBG at hr
  refine hK1 _ _ ?_
  obtain⟨q,h_1,hr⟩:=aD hr
  refine zz ?_
  obtain rfl:=sj hr
  exact oL Tryz.results172 bJ bJ (lU [])
 obtain⟨bL,hL2,hr⟩:=aD hr
 refine zz ?_
 refine aXn<|aXs (fun m s h=> ∃(carry_1 x9:Int)(l3:List Int),q9 N va b m carry_1 x9 l3=some bL∧Ghost 0 s h (aI 29 [(2,(.ptr 0 0)),(3,(.ptr 1 0)),(4,(.ptr 2 0)),(6,(.ptr 3 0)),(7,(eI .u64 carry_1)),(9,(eI .i64 x9))]) [some ⟨135,va.map (eI .u64)⟩,some ⟨135,b.map (eI .u64)⟩,some ⟨135,(aXj 4 0).map (eI .u64)⟩,some ⟨135,l3.map (eI .u64)⟩]) (n:=N) ⟨0,0,aXj 4 0,hL2,(zG [0,1,2,3])⟩ (by rintro s h ⟨_,_,_,h0,_⟩;simp[q9]at h0) ?_
 rintro m2 s h ⟨carry_1,x9,l3,hr2,hg⟩
 refine aXr hg ?_
 clear hg hL2
 rw[q9]at hr2
 refine zz ?_
 refine aXl ?_
 refine zk hr2 rfl (fun h2 hr2=> ?_) (fun h2 hr2=> ?_)
 ·refine zz ?_
  refine aXl<|aXn ?_
  obtain⟨x15,h_3,hr2⟩:=aD hr2
  obtain⟨x18,h_4,hr2⟩:=aD hr2
  obtain⟨d5,h_5,hr2⟩:=aD hr2
  obtain⟨fG,h_7,hr2⟩:=aD hr2
  refine zz ?_
  refine aXx mixed [171] [] [[0,1,2,3,4,5,6,7,8,9,10,11,12,13,14]] ?_
  refine zz ?_
  refine xu (lO h_5) ?_
  refine zz ?_
  exact⟨d5.2,aXm.wrap (x9+1),l3.set (aXy x9) d5.1,hr2,(zG [0,1,2,3])⟩
 refine zz ?_
 obtain rfl:=sj hr2
 refine zz ?_
 exact hG1 _ _ _ _ (zG [2,3]) (J1 carry_1 l3 hr)
theorem aGS {N:Nat}{hi lo b:List Int}{r:(List Int)×(List Int)×Bool}(hr:aBf N hi lo b=some r):
  Vm.Fn Tryz.prog 159 [] [(.agg (hi.map (eI .u64))),(.agg (lo.map (eI .u64))),(.agg (b.map (eI .u64)))] (.tup [(.agg (r.1.map (eI .u64))),(.agg (r.2.1.map (eI .u64))),(eB r.2.2)]) []:=by
 refine zf Tryz.func159 Tryz.ntmps159 ?_
 unfold aBf at hr
 refine zz ?_
 refine aXl ?_
 obtain⟨q,h_1,hr⟩:=aD hr
 obtain⟨q_1,h_2,hr⟩:=aD hr
 obtain⟨dA,h_3,hr⟩:=aD hr
 refine zz ?_
 refine xp (uE h_3) ?_
 refine zz ?_
 refine zk hr rfl (fun h4 hr=> ?_) (fun h4 hr=> ?_)
 ·refine aXl<|AB.rd (fQ []) (fQ []) mixed<|aXp (n:=4) (i:=0) (by decide +kernel) rfl (gS (v:=(.agg ((aXj 4 0).map (eI .u64)))) (sv (cA rfl (ldA (E:=(eI .u64)) (l:=aXj 4 0) b8 rfl rfl rfl)))) ?_
  refine DrawG.jn (m:=2) (L:=lst [0,1,2] 5) (s1:=aI 61 [(6,(.ptr 0 0)),(7,(.ptr 1 0)),(8,(eB false)),(16,(.agg ((aXj 4 0).map (eI .u64))))]) (h1:=[some ⟨135,(aXj 4 0).map (eI .u64)⟩,some ⟨135,(aXj 4 0).map (eI .u64)⟩]) ?_ (fun J=> ?_)
  ·refine aXp (n:=1) (i:=3) (by decide +kernel) rfl (gN (h':=[some ⟨135,(aXj 4 0).map (eI .u64)⟩,some ⟨135,(aXj 4 0).map (eI .u64)⟩]) (sv (bO rfl rfl (stA (E:=(eI .u64)) (l:=aXj 4 0) b8 rfl rfl (fun _=>rfl) rfl rfl rfl))))<|aXp (n:=0) (i:=4) (by decide +kernel) rfl (gS (v:=(eB false)) (sv (pS rfl)))<|aXN (by decide +kernel) ?_
   refine zz ?_
   obtain rfl:=sj hr
   exact zF Tryz.results159 bJ bJ bJ (lU [])
  refine aXL (n:=3) [1,2] (by decide +kernel) (by decide) ?_
  refine(aXG rfl (gS (v:=(.agg ((aXj 4 0).map (eI .u64)))) (sv (cA rfl (ldA (E:=(eI .u64)) (l:=aXj 4 0) b8 rfl rfl rfl)))) ?_ (aXG rfl (gN (h':=[some ⟨135,hi.map (eI .u64)⟩,some ⟨135,lo.map (eI .u64)⟩,some ⟨135,b.map (eI .u64)⟩,some ⟨135,(aXj 4 0).map (eI .u64)⟩,some ⟨135,(aXj 4 0).map (eI .u64)⟩]) (sv (bO rfl rfl (stA (E:=(eI .u64)) (l:=aXj 4 0) b8 rfl rfl (fun _=>rfl) rfl rfl rfl)))) ?_ Fork.nil))
  ·refine aXp (n:=2) (i:=2) (by decide +kernel) rfl (gN (h':=[some ⟨135,hi.map (eI .u64)⟩,some ⟨135,lo.map (eI .u64)⟩,some ⟨135,b.map (eI .u64)⟩,some ⟨135,(aXj 4 0).map (eI .u64)⟩,some ⟨135,(aXj 4 0).map (eI .u64)⟩]) (sv (bO rfl rfl (stA (E:=(eI .u64)) (l:=aXj 4 0) b8 rfl rfl (fun _=>rfl) rfl rfl rfl)))) ?_
   exact aXK (by decide +kernel) (by decide +kernel) (zG [3,4]) J
  refine aXp (n:=2) (i:=1) (by decide +kernel) rfl (gS (v:=(.agg ((aXj 4 0).map (eI .u64)))) (sv (cA rfl (ldA (E:=(eI .u64)) (l:=aXj 4 0) b8 rfl rfl rfl)))) ?_
  exact aXK (by decide +kernel) (by decide +kernel) (zG [3,4]) J
 refine zz ?_
 refine aXo fun K1 hK1 hG1=> ?_
 have J1: ∀(l0 l1:List Int),aBh N l0 l1=some r→K1 (aI 61 [(6,(.ptr 0 0)),(7,(.ptr 1 0))]) [some ⟨135,l0.map (eI .u64)⟩,some ⟨135,l1.map (eI .u64)⟩]:=by
  intro l0 l1 hr
  unfold aBh at hr
  refine hK1 _ _<|aXl ?_
  obtain⟨q_2,h_5,hr⟩:=aD hr
  obtain⟨q_3,h_6,hr⟩:=aD hr
  refine AB.rd (fQ []) (fQ []) mixed<|aXp (n:=4) (i:=0) (by decide +kernel) rfl (gS (v:=(.agg (l0.map (eI .u64)))) (sv (cA rfl (ldA (E:=(eI .u64)) (l:=l0) b8 rfl rfl (bH h_5))))) ?_
  refine DrawG.jn (m:=2) (L:=lst [0,1,2] 5) (s1:=aI 61 [(6,(.ptr 0 0)),(7,(.ptr 1 0)),(60,(.agg (l1.map (eI .u64))))]) (h1:=[some ⟨135,l0.map (eI .u64)⟩,some ⟨135,l1.map (eI .u64)⟩]) ?_ (fun J=> ?_)
  ·refine aXp (n:=1) (i:=3) (by decide +kernel) rfl (gN (h':=[some ⟨135,l0.map (eI .u64)⟩,some ⟨135,l1.map (eI .u64)⟩]) (sv (bO rfl rfl (stA (E:=(eI .u64)) (l:=l1) b8 rfl rfl (fun _=>rfl) (bH h_6) (bH h_6) rfl))))<|aXp (n:=0) (i:=4) (by decide +kernel) rfl (gS (v:=(eB true)) (sv (pS rfl)))<|aXN (by decide +kernel) ?_
   refine zz ?_
   obtain rfl:=sj hr
   exact zF Tryz.results159 bJ bJ bJ (lU [])
  refine aXL (n:=3) [1,2] (by decide +kernel) (by decide) ?_
  refine(aXG rfl (gS (v:=(.agg (l1.map (eI .u64)))) (sv (cA rfl (ldA (E:=(eI .u64)) (l:=l1) b8 rfl rfl (bH h_6))))) ?_ (aXG rfl (gN (h':=[some ⟨135,l0.map (eI .u64)⟩,some ⟨135,l1.map (eI .u64)⟩]) (sv (bO rfl rfl (stA (E:=(eI .u64)) (l:=l0) b8 rfl rfl (fun _=>rfl) (bH h_5) (bH h_5) rfl)))) ?_ Fork.nil))
  ·refine aXp (n:=2) (i:=2) (by decide +kernel) rfl (gN (h':=[some ⟨135,l0.map (eI .u64)⟩,some ⟨135,l1.map (eI .u64)⟩]) (sv (bO rfl rfl (stA (E:=(eI .u64)) (l:=l0) b8 rfl rfl (fun _=>rfl) (bH h_5) (bH h_5) rfl)))) ?_
   exact aXK (by decide +kernel) (by decide +kernel) (zG [0,1]) J
  refine aXp (n:=2) (i:=1) (by decide +kernel) rfl (gS (v:=(.agg (l1.map (eI .u64)))) (sv (cA rfl (ldA (E:=(eI .u64)) (l:=l1) b8 rfl rfl (bH h_6))))) ?_
  exact aXK (by decide +kernel) (by decide +kernel) (zG [0,1]) J
 obtain⟨bL,hL2,hr⟩:=aD hr
 refine zz ?_
 refine aXn<|aXs (fun m s h=> ∃(vi:Int)(l2 l3:List Int),fN N lo b m vi l2 l3=some bL∧Ghost 0 s h (aI 61 [(4,(.ptr 0 0)),(5,(.ptr 1 0)),(6,(.ptr 2 0)),(7,(.ptr 3 0)),(9,(eI .i64 vi))]) [some ⟨135,lo.map (eI .u64)⟩,some ⟨135,b.map (eI .u64)⟩,some ⟨135,l2.map (eI .u64)⟩,some ⟨135,l3.map (eI .u64)⟩]) (n:=N) ⟨255,aXj 4 0,hi,hL2,(zG [1,2,3,4])⟩ (by rintro s h ⟨_,_,_,h0,_⟩;simp[fN]at h0) ?_
 rintro m2 s h ⟨vi,l2,l3,hr2,hg⟩
 refine aXr hg ?_
 clear hg hL2
 rw[fN]at hr2
 refine aXl ?_
 refine zz ?_
 refine zk hr2 rfl (fun h7 hr2=> ?_) (fun h7 hr2=> ?_)
 ·refine zz ?_
  refine aXo fun K3 hK3 hG3=> ?_
  have J3: ∀(jD e9:List Int),t9 N lo b vi (fN N lo b m2) jD e9=some bL→K3 (aI 61 [(4,(.ptr 0 0)),(5,(.ptr 1 0)),(6,(.ptr 2 0)),(7,(.ptr 3 0)),(9,(eI .i64 vi))]) [some ⟨135,lo.map (eI .u64)⟩,some ⟨135,b.map (eI .u64)⟩,some ⟨135,jD.map (eI .u64)⟩,some ⟨135,e9.map (eI .u64)⟩]:=by
   intro jD e9 hr2
   unfold t9 at hr2
   refine hK3 _ _ ?_
   refine zz ?_
   exact⟨aXm.wrap (vi-1),jD,e9,hr2,(zG [0,1,2,3])⟩
  refine aXn ?_
  obtain⟨q_4,h_8,hr2⟩:=aD hr2
  obtain⟨iD,h_9,hr2⟩:=aD hr2
  refine zz ?_
  refine xp (yU h_9) ?_
  obtain⟨x27,h_10,hr2⟩:=aD hr2
  obtain⟨q_5,h_11,hr2⟩:=aD hr2
  refine zz ?_
  refine xp (aGV h_10) ?_
  refine zz ?_
  refine aXo fun K4 hK4 hG4=> ?_
  have J4: ∀(jZ:List Int),uT N lo b vi l2 iD (fN N lo b m2) jZ=some bL→K4 (aI 61 [(4,(.ptr 0 0)),(5,(.ptr 1 0)),(6,(.ptr 2 0)),(7,(.ptr 3 0)),(9,(eI .i64 vi)),(10,(eB iD))]) [some ⟨135,lo.map (eI .u64)⟩,some ⟨135,b.map (eI .u64)⟩,some ⟨135,l2.map (eI .u64)⟩,some ⟨135,jZ.map (eI .u64)⟩]:=by
   intro jZ hr2
   unfold uT at hr2
   refine hK4 _ _ ?_
   refine aXo fun K5 hK5 hG5=> ?_
   have J5: ∀(x43:Bool),rW N lo b vi l2 jZ (fN N lo b m2) x43=some bL→K5 (aI 61 [(4,(.ptr 0 0)),(5,(.ptr 1 0)),(6,(.ptr 2 0)),(7,(.ptr 3 0)),(9,(eI .i64 vi)),(43,(eB x43))]) [some ⟨135,lo.map (eI .u64)⟩,some ⟨135,b.map (eI .u64)⟩,some ⟨135,l2.map (eI .u64)⟩,some ⟨135,jZ.map (eI .u64)⟩]:=by
    intro x43 hr2
    unfold rW at hr2
    refine hK5 _ _ ?_
    refine zk hr2 rfl (fun h12 hr2=> ?_) (fun h12 hr2=> ?_)
    ·obtain⟨q_6,h_13,hr2⟩:=aD hr2
     obtain⟨x47,h_14,hr2⟩:=aD hr2
     obtain⟨q_7,h_15,hr2⟩:=aD hr2
     refine zz ?_
     refine xp (aB7 h_14) ?_
     obtain⟨x52,h_16,hr2⟩:=aD hr2
     obtain⟨x56,h_17,hr2⟩:=aD hr2
     refine zz ?_
     refine aXx mixed [] [] [[0,1,2,3,4,5,6,7,8,9]] ?_
     refine zz ?_
     exact hG3 _ _ _ _ (zG [0,1,2,3]) (J3 (l2.set (aXy (aXm.wrap (aXM vi 64))) (bits .or .u64 x52 x56)) x47.1 hr2)
    refine zz ?_
    exact hG3 _ _ _ _ (zG [0,1,2,3]) (J3 l2 jZ hr2)
   rcases aXk iD with h18|h18
   ·replace hr2:=cQ hr2 h18
    refine xr ?_
    refine zz ?_
    exact hG5 _ _ _ _ (zG [0,1,2,3]) (J5 true hr2)
   replace hr2:=cR hr2 h18
   obtain⟨q_8,h_19,hr2⟩:=aD hr2
   obtain⟨x41,h_20,hr2⟩:=aD hr2
   refine xr ?_
   refine zz ?_
   refine xCg (v:=(eI .i64 x41)) (h':=[some ⟨135,lo.map (eI .u64)⟩,some ⟨135,b.map (eI .u64)⟩,some ⟨135,l2.map (eI .u64)⟩,some ⟨135,jZ.map (eI .u64)⟩]) rfl rfl h18 rfl (Vm.Fn.pure (uE h_20) zR rfl) ?_
   refine zz ?_
   exact hG5 _ _ _ _ (zG [0,1,2,3]) (J5 (decide (0≤x41)) hr2)
  obtain⟨q_9,h_21,hr2⟩:=aD hr2
  obtain⟨lB,h_22,hr2⟩:=aD hr2
  refine zz ?_
  refine xp (yU h_22) ?_
  refine zz ?_
  refine zk hr2 rfl (fun h23 hr2=> ?_) (fun h23 hr2=> ?_)
  ·obtain⟨iA,h_24,hr2⟩:=aD hr2
   refine zz ?_
   exact hG4 _ _ _ _ (zG [0,1,2,3]) (J4 (x27.1.set (aXy 0) (bits .or .u64 iA 1)) hr2)
  refine zz ?_
  exact hG4 _ _ _ _ (zG [0,1,2,3]) (J4 x27.1 hr2)
 refine zz ?_
 obtain rfl:=sj hr2
 refine zz ?_
 exact hG1 _ _ _ _ (zG [2,3]) (J1 l2 l3 hr)
theorem s6 {N:Nat}{va vm:List Int}{r:(List Int)}(hr:mG N va vm=some r):
  Vm.Fn Tryz.prog 158 [] [(.agg (va.map (eI .u64))),(.agg (vm.map (eI .u64)))] (.agg (r.map (eI .u64))) []:=by
 refine zf Tryz.func158 Tryz.ntmps158 ?_
 unfold mG at hr
 obtain⟨q,h_1,hr⟩:=aD hr
 obtain⟨q_1,h_2,hr⟩:=aD hr
 obtain⟨fR,h_3,hr⟩:=aD hr
 obtain⟨q_2,h_4,hr⟩:=aD hr
 obtain⟨q_3,h_5,hr⟩:=aD hr
 refine zz ?_
 refine xw (v:=(.agg ([0,0,0,0].map (eI .u64)))) (cE rfl (nR b8 nQ rfl)) ?_
 refine zz ?_
 refine xp (aGS h_3) ?_
 refine zz ?_
 obtain rfl:=sj hr
 exact iE Tryz.results158 bJ (zG [])
theorem aM1 {N:Nat}{va:List Int}{r:Int}(hr:aEI N va=some r):
  Vm.Fn Tryz.prog 160 [] [(.agg (va.map (eI .u64)))] (eI .i64 r) []:=by
 refine zf Tryz.func160 Tryz.ntmps160 ?_
 unfold aEI at hr
 refine zz ?_
 refine aXo fun K1 hK1 hG1=> ?_
 have J1:aBO N=some r→K1 (aI 13 []) []:=by
  intro hr
  unfold aBO at hr
  refine hK1 _ _ ?_
  refine zz ?_
  obtain rfl:=sj hr
  exact bE Tryz.results160 []
 obtain⟨bL,hL2,hr⟩:=aD hr
 refine zz ?_
 refine aXn<|aXs (fun m s h=> ∃(vi:Int),q8 N va m vi=some bL∧Ghost 0 s h (aI 13 [(1,(.ptr 0 0)),(3,(eI .i64 vi))]) [some ⟨135,va.map (eI .u64)⟩]) (n:=N) ⟨255,hL2,(zG [0])⟩ (by rintro s h ⟨_,h0,_⟩;simp[q8]at h0) ?_
 rintro m2 s h ⟨vi,hr2,hg⟩
 refine aXr hg ?_
 clear hg hL2
 rw[q8]at hr2
 refine aXl ?_
 refine zz ?_
 refine zk hr2 rfl (fun h1 hr2=> ?_) (fun h1 hr2=> ?_)
 ·refine zz ?_
  refine aXl<|aXn ?_
  obtain⟨q,h_2,hr2⟩:=aD hr2
  obtain⟨cD,h_3,hr2⟩:=aD hr2
  refine zz ?_
  refine xp (yU h_3) ?_
  refine zz ?_
  refine zk hr2 rfl (fun h4 hr2=> ?_) (fun h4 hr2=> ?_)
  ·refine zz ?_
   obtain rfl:=sj hr2
   obtain rfl:=sj hr
   exact bE Tryz.results160 []
  refine zz ?_
  exact⟨aXm.wrap (vi-1),hr2,(zG [0])⟩
 refine zz ?_
 obtain rfl:=sj hr2
 refine zz ?_
 exact hG1 _ _ _ _ (zG []) (J1 hr)
theorem aMo {N:Nat}{va b:List Int}{r:(List Int)×(List Int)}(hr:aC7 N va b=some r):
  Vm.Fn Tryz.prog 157 [] [(.agg (va.map (eI .u64))),(.agg (b.map (eI .u64)))] (.tup [(.agg (r.1.map (eI .u64))),(.agg (r.2.map (eI .u64)))]) []:=by
 refine zf Tryz.func157 Tryz.ntmps157 ?_
 unfold aC7 at hr
 refine zz ?_
 refine aXo fun K1 hK1 hG1=> ?_
 have J1: ∀(l2:List Int),y8 N l2=some r→K1 (aI 71 [(4,(.ptr 0 0)),(5,(.ptr 1 0)),(6,(.ptr 2 0))]) [some ⟨135,(aXj 4 0).map (eI .u64)⟩,some ⟨135,(aXj 4 0).map (eI .u64)⟩,some ⟨167,l2.map (eI .u64)⟩]:=by
  intro l2 hr
  unfold y8 at hr
  refine hK1 _ _<|aXl ?_
  obtain⟨q,h_1,hr⟩:=aD hr
  obtain⟨x64,h_2,hr⟩:=aD hr
  refine aXx mixed [] [] [[0,1,2]] ?_
  refine zz ?_
  refine xw (v:=(.sl 2 (aXy 0*1) x64.length 1 false)) (cW rfl rfl rfl (aMv (E:=(eI .u64)) (l:=l2) aHs nQ rfl rfl rfl (bH h_1) zl rfl rfl h_2)) ?_
  refine xw (v:=(eI .i64 ((min x64.length (aXj 4 0).length:Nat):Int))) (h':=[some ⟨135,(aXj 4 0).map (eI .u64)⟩,some ⟨135,(nT (aXj 4 0) x64).map (eI .u64)⟩,some ⟨167,l2.map (eI .u64)⟩]) (aFf rfl rfl (aJZ (E:=(eI .u64)) (l:=aXj 4 0) rfl aOR nQ rfl rfl (aUB (l:=l2) rfl (fun _=>rfl) h_2) rfl)) ?_
  refine zz ?_
  refine aXl ?_
  obtain⟨x67,h_3,hr⟩:=aD hr
  refine aXx mixed [] [] [[0,1,2]] ?_
  refine zz ?_
  refine xw (v:=(.sl 2 (aXy 4*1) x67.length 1 false)) (cW rfl rfl rfl (aMv (E:=(eI .u64)) (l:=l2) aHs nQ rfl rfl rfl (bH h_1) zl rfl rfl h_3)) ?_
  refine xw (v:=(eI .i64 ((min x67.length (aXj 4 0).length:Nat):Int))) (h':=[some ⟨135,(nT (aXj 4 0) x67).map (eI .u64)⟩,some ⟨135,(nT (aXj 4 0) x64).map (eI .u64)⟩,some ⟨167,l2.map (eI .u64)⟩]) (aFf rfl rfl (aJZ (E:=(eI .u64)) (l:=aXj 4 0) rfl aOR nQ rfl rfl (aUB (l:=l2) rfl (fun _=>rfl) h_3) rfl)) ?_
  obtain⟨q_1,h_4,hr⟩:=aD hr
  obtain⟨q_2,h_5,hr⟩:=aD hr
  refine zz ?_
  obtain rfl:=sj hr
  exact oL Tryz.results157 bJ bJ (lU [])
 obtain⟨bL,hL2,hr⟩:=aD hr
 refine zz ?_
 refine aXn<|aXs (fun m s h=> ∃(x15:Int)(l4:List Int),mH N va b m x15 l4=some bL∧Ghost 0 s h (aI 71 [(2,(.ptr 0 0)),(3,(.ptr 1 0)),(4,(.ptr 2 0)),(5,(.ptr 3 0)),(6,(.ptr 4 0)),(15,(eI .i64 x15))]) [some ⟨135,va.map (eI .u64)⟩,some ⟨135,b.map (eI .u64)⟩,some ⟨135,(aXj 4 0).map (eI .u64)⟩,some ⟨135,(aXj 4 0).map (eI .u64)⟩,some ⟨167,l4.map (eI .u64)⟩]) (n:=N) ⟨0,aXj 8 0,hL2,(zG [0,1,2,3,4])⟩ (by rintro s h ⟨_,_,h0,_⟩;simp[mH]at h0) ?_
 rintro m2 s h ⟨x15,l4,hr2,hg⟩
 refine aXr hg ?_
 clear hg hL2
 rw[mH]at hr2
 refine zz ?_
 refine aXl ?_
 refine zk hr2 rfl (fun h6 hr2=> ?_) (fun h6 hr2=> ?_)
 ·refine zz ?_
  refine aXo fun K3 hK3 hG3=> ?_
  have J3: ∀(iB:List Int),aBU N va b x15 (mH N va b m2) iB=some bL→K3 (aI 71 [(2,(.ptr 0 0)),(3,(.ptr 1 0)),(4,(.ptr 2 0)),(5,(.ptr 3 0)),(6,(.ptr 4 0)),(15,(eI .i64 x15))]) [some ⟨135,va.map (eI .u64)⟩,some ⟨135,b.map (eI .u64)⟩,some ⟨135,(aXj 4 0).map (eI .u64)⟩,some ⟨135,(aXj 4 0).map (eI .u64)⟩,some ⟨167,iB.map (eI .u64)⟩]:=by
   intro iB hr2
   unfold aBU at hr2
   refine hK3 _ _ ?_
   refine zz ?_
   exact⟨aXm.wrap (x15+1),iB,hr2,(zG [0,1,2,3,4])⟩
  refine aXn ?_
  refine zz ?_
  refine aXo fun K4 hK4 hG4=> ?_
  have J4: ∀(lA:Int)(aA3:List Int),aCf N va b x15 (mH N va b m2) lA aA3=some bL→K4 (aI 71 [(2,(.ptr 0 0)),(3,(.ptr 1 0)),(4,(.ptr 2 0)),(5,(.ptr 3 0)),(6,(.ptr 4 0)),(7,(eI .i64 x15)),(8,(eI .u64 lA)),(15,(eI .i64 x15))]) [some ⟨135,va.map (eI .u64)⟩,some ⟨135,b.map (eI .u64)⟩,some ⟨135,(aXj 4 0).map (eI .u64)⟩,some ⟨135,(aXj 4 0).map (eI .u64)⟩,some ⟨167,aA3.map (eI .u64)⟩]:=by
   intro lA aA3 hr2
   unfold aCf at hr2
   refine hK4 _ _ ?_
   obtain⟨x61,h_7,hr2⟩:=aD hr2
   refine zz ?_
   exact hG3 _ _ _ _ (zG [0,1,2,3,4]) (J3 (aA3.set (aXy (aXm.wrap (x15+4))) lA) hr2)
  obtain⟨res5,hL5,hr2⟩:=aD hr2
  refine zz ?_
  refine aXn<|aXs (fun m s h=> ∃(carry_1 x18:Int)(l4_3:List Int),rJ N va b x15 m carry_1 x18 l4_3=some res5∧Ghost 0 s h (aI 71 [(2,(.ptr 0 0)),(3,(.ptr 1 0)),(4,(.ptr 2 0)),(5,(.ptr 3 0)),(6,(.ptr 4 0)),(7,(eI .i64 x15)),(8,(eI .u64 carry_1)),(15,(eI .i64 x15)),(18,(eI .i64 x18))]) [some ⟨135,va.map (eI .u64)⟩,some ⟨135,b.map (eI .u64)⟩,some ⟨135,(aXj 4 0).map (eI .u64)⟩,some ⟨135,(aXj 4 0).map (eI .u64)⟩,some ⟨167,l4_3.map (eI .u64)⟩]) (n:=N) ⟨0,0,l4,hL5,(zG [0,1,2,3,4])⟩ (by rintro s h ⟨_,_,_,h0,_⟩;simp[rJ]at h0) ?_
  rintro m5 s h ⟨carry_1,x18,l4_3,hr5,hg⟩
  refine aXr hg ?_
  clear hg hL5
  rw[rJ]at hr5
  refine zz ?_
  refine aXl ?_
  refine zk hr5 rfl (fun h8 hr5=> ?_) (fun h8 hr5=> ?_)
  ·refine zz ?_
   refine aXl<|aXn ?_
   refine zz ?_
   refine aXl ?_
   obtain⟨iD,h_9,hr5⟩:=aD hr5
   obtain⟨x26,h_10,hr5⟩:=aD hr5
   obtain⟨x28,h_11,hr5⟩:=aD hr5
   refine aXx mixed [170] [] [[0,1,2,3,4,5,6,7,8,9,10,11]] ?_
   refine zz ?_
   refine xu (aDd h_11) ?_
   obtain⟨x35,h_13,hr5⟩:=aD hr5
   obtain⟨x38,h_14,hr5⟩:=aD hr5
   refine zz ?_
   refine xp (lO h_14) ?_
   obtain⟨x44,h_15,hr5⟩:=aD hr5
   refine zz ?_
   refine xp (lO h_15) ?_
   refine zz ?_
   exact⟨IntKind.u64.wrap ((IntKind.u64.wrap (x28.1+x38.2))+x44.2),aXm.wrap (x18+1),l4_3.set (aXy (aXm.wrap (x15+x18))) x44.1,hr5,(zG [0,1,2,3,4])⟩
  refine zz ?_
  obtain rfl:=sj hr5
  refine zz ?_
  exact hG4 _ _ _ _ (zG [0,1,2,3,4]) (J4 carry_1 l4_3 hr2)
 refine zz ?_
 obtain rfl:=sj hr2
 refine zz ?_
 exact hG1 _ _ _ _ (zG [2,3,4]) (J1 l4 hr)
theorem aBp {N:Nat}{va b vm:List Int}{r:(List Int)}(hr:rC N va b vm=some r):
  Vm.Fn Tryz.prog 143 [] [(.agg (va.map (eI .u64))),(.agg (b.map (eI .u64))),(.agg (vm.map (eI .u64)))] (.agg (r.map (eI .u64))) []:=by
 refine zf Tryz.func143 Tryz.ntmps143 ?_
 unfold rC at hr
 refine zz ?_
 refine aXl ?_
 obtain⟨q,h_1,hr⟩:=aD hr
 obtain⟨dA,h_2,hr⟩:=aD hr
 refine zz ?_
 refine xp (r8 h_2) ?_
 refine zz ?_
 refine zk hr rfl (fun h3 hr=> ?_) (fun h3 hr=> ?_)
 ·refine zz ?_
  obtain rfl:=sj hr
  exact iE Tryz.results143 bJ (zG [])
 refine zz ?_
 refine aXl ?_
 obtain⟨q_1,h_4,hr⟩:=aD hr
 obtain⟨x18,h_5,hr⟩:=aD hr
 obtain⟨q_2,h_7,hr⟩:=aD hr
 obtain⟨d5,h_8,hr⟩:=aD hr
 obtain⟨bV,h_10,hr⟩:=aD hr
 obtain⟨q_3,h_12,hr⟩:=aD hr
 obtain⟨q_4,h_13,hr⟩:=aD hr
 refine AB.rd (fQ [157,158]) (fQ []) mixed<|aXp (n:=13) (i:=0) (by decide +kernel) rfl (gS (v:=(.agg (va.map (eI .u64)))) (sv (cA rfl (ldA (E:=(eI .u64)) (l:=va) b8 rfl rfl (bH h_4)))))<|aXp (n:=12) (i:=1) (by decide +kernel) rfl (gS (v:=(.agg (vm.map (eI .u64)))) (sv (cA rfl (ldA (E:=(eI .u64)) (l:=vm) b8 rfl rfl (bH h_1)))))<|aXp (n:=11) (i:=2) (by decide +kernel) rfl (gU (fun _=>(Vm.Fn.pure (s6 h_5) zR zR)) rfl (sv (mA rfl yT)))<|aXp (n:=10) (i:=3) (by decide +kernel) rfl (gS (v:=(.agg (b.map (eI .u64)))) (sv (cA rfl (ldA (E:=(eI .u64)) (l:=b) b8 rfl rfl (bH h_7))))) ?_
 refine aXp (n:=9) (i:=4) (by decide +kernel) rfl (gS (v:=(.agg (vm.map (eI .u64)))) (sv (cA rfl (ldA (E:=(eI .u64)) (l:=vm) b8 rfl rfl (bH h_1)))))<|aXp (n:=8) (i:=5) (by decide +kernel) rfl (gU (fun _=>(Vm.Fn.pure (s6 h_8) zR zR)) rfl (sv (mA rfl yT)))<|aXp (n:=7) (i:=6) (by decide +kernel) rfl (gU (fun _=>(Vm.Fn.pure (aMo h_10) zR zR)) rfl (sv (mA rfl yT)))<|aXp (n:=6) (i:=7) (by decide +kernel) rfl (gS (v:=(.tup [(.agg (bV.1.map (eI .u64))),(.agg (bV.2.map (eI .u64)))])) (sv (mR rfl)))<|aXp (n:=5) (i:=8) (by decide +kernel) rfl (gS (v:=(.agg (bV.1.map (eI .u64)))) (sv (aHu rfl rfl))) ?_
 refine aXp (n:=4) (i:=9) (by decide +kernel) rfl (gS (v:=(.agg (bV.2.map (eI .u64)))) (sv (aHu rfl rfl))) ?_
 refine DrawG.jn (m:=1) (L:=lst [0,1,2,3,4,5,6,7,8,9,10,11,12] 14) (s1:=aI 34 [(5,(.ptr 0 0)),(6,(.ptr 1 0)),(7,(.ptr 2 0)),(8,(.ptr 3 0)),(24,(.agg (bV.2.map (eI .u64))))]) (h1:=[some ⟨135,vm.map (eI .u64)⟩,some ⟨135,(aXj 4 0).map (eI .u64)⟩,some ⟨135,bV.1.map (eI .u64)⟩,some ⟨135,(aXj 4 0).map (eI .u64)⟩]) ?_ (fun J=> ?_)
 ·refine aXp (n:=0) (i:=13) (by decide +kernel) rfl (gN (h':=[some ⟨135,vm.map (eI .u64)⟩,some ⟨135,(aXj 4 0).map (eI .u64)⟩,some ⟨135,bV.1.map (eI .u64)⟩,some ⟨135,bV.2.map (eI .u64)⟩]) (sv (bO rfl rfl (stA (E:=(eI .u64)) (l:=aXj 4 0) b8 rfl rfl (fun _=>rfl) rfl (bH h_13) rfl))))<|aXN (by decide +kernel) ?_
  obtain⟨x29,h_14,hr⟩:=aD hr
  obtain⟨q_5,h_15,hr⟩:=aD hr
  obtain⟨q_6,h_16,hr⟩:=aD hr
  refine zz ?_
  refine xp (aGS h_14) ?_
  refine zz ?_
  obtain rfl:=sj hr
  exact iE Tryz.results143 bJ (zG [])
 refine aXL (n:=3) [10,11] (by decide +kernel) (by decide) ?_
 refine(aXG rfl (gS (v:=(.ptr 4 0)) (h':=[some ⟨135,va.map (eI .u64)⟩,some ⟨135,b.map (eI .u64)⟩,some ⟨135,vm.map (eI .u64)⟩,some ⟨135,(aXj 4 0).map (eI .u64)⟩,some ⟨135,(aXj 4 0).map (eI .u64)⟩]) (sv (cY b8 rfl rfl rfl))) ?_ (aXG rfl (gS (v:=(.ptr 4 0)) (h':=[some ⟨135,va.map (eI .u64)⟩,some ⟨135,b.map (eI .u64)⟩,some ⟨135,vm.map (eI .u64)⟩,some ⟨135,(aXj 4 0).map (eI .u64)⟩,some ⟨135,(aXj 4 0).map (eI .u64)⟩]) (sv (cY b8 rfl rfl rfl))) ?_ Fork.nil))
 ·refine aXp (n:=2) (i:=11) (by decide +kernel) rfl (gS (v:=(.ptr 5 0)) (h':=[some ⟨135,va.map (eI .u64)⟩,some ⟨135,b.map (eI .u64)⟩,some ⟨135,vm.map (eI .u64)⟩,some ⟨135,(aXj 4 0).map (eI .u64)⟩,some ⟨135,(aXj 4 0).map (eI .u64)⟩,some ⟨135,(aXj 4 0).map (eI .u64)⟩]) (sv (cY b8 rfl rfl rfl)))<|aXp (n:=1) (i:=12) (by decide +kernel) rfl (gN (h':=[some ⟨135,va.map (eI .u64)⟩,some ⟨135,b.map (eI .u64)⟩,some ⟨135,vm.map (eI .u64)⟩,some ⟨135,(aXj 4 0).map (eI .u64)⟩,some ⟨135,bV.1.map (eI .u64)⟩,some ⟨135,(aXj 4 0).map (eI .u64)⟩]) (sv (bO rfl rfl (stA (E:=(eI .u64)) (l:=aXj 4 0) b8 rfl rfl (fun _=>rfl) rfl (bH h_12) rfl)))) ?_
  exact aXK (by decide +kernel) (by decide +kernel) (zG [2,3,4,5]) J
 refine aXp (n:=2) (i:=10) (by decide +kernel) rfl (gS (v:=(.ptr 5 0)) (h':=[some ⟨135,va.map (eI .u64)⟩,some ⟨135,b.map (eI .u64)⟩,some ⟨135,vm.map (eI .u64)⟩,some ⟨135,(aXj 4 0).map (eI .u64)⟩,some ⟨135,(aXj 4 0).map (eI .u64)⟩,some ⟨135,(aXj 4 0).map (eI .u64)⟩]) (sv (cY b8 rfl rfl rfl)))<|aXp (n:=1) (i:=12) (by decide +kernel) rfl (gN (h':=[some ⟨135,va.map (eI .u64)⟩,some ⟨135,b.map (eI .u64)⟩,some ⟨135,vm.map (eI .u64)⟩,some ⟨135,(aXj 4 0).map (eI .u64)⟩,some ⟨135,(aXj 4 0).map (eI .u64)⟩,some ⟨135,bV.1.map (eI .u64)⟩]) (sv (bO rfl rfl (stA (E:=(eI .u64)) (l:=aXj 4 0) b8 rfl rfl (fun _=>rfl) rfl (bH h_12) rfl)))) ?_
 exact aXK (by decide +kernel) (by decide +kernel) (zG [2,3,5,4]) J
theorem aI7 {N:Nat}{va ve vm:List Int}{r:(List Int)}(hr:zC N va ve vm=some r):
  Vm.Fn Tryz.prog 144 [] [(.agg (va.map (eI .u64))),(.agg (ve.map (eI .u64))),(.agg (vm.map (eI .u64)))] (.agg (r.map (eI .u64))) []:=by
 refine zf Tryz.func144 Tryz.ntmps144 ?_
 unfold zC at hr
 refine zz ?_
 refine aXl ?_
 obtain⟨q,h_1,hr⟩:=aD hr
 obtain⟨cD,h_2,hr⟩:=aD hr
 refine zz ?_
 refine xp (r8 h_2) ?_
 refine zz ?_
 refine zk hr rfl (fun h3 hr=> ?_) (fun h3 hr=> ?_)
 ·refine zz ?_
  obtain rfl:=sj hr
  exact iE Tryz.results144 bJ (zG [])
 refine zz ?_
 refine aXl ?_
 obtain⟨fR,h_4,hr⟩:=aD hr
 obtain⟨bQ,h_6,hr⟩:=aD hr
 obtain⟨q_1,h_8,hr⟩:=aD hr
 refine aXx mixed [124,158] [] [[0,1,2,3,4]]<|xu (nC h_4) ?_
 refine zz ?_
 refine xu (s6 h_6) ?_
 refine zz ?_
 refine aXo fun K1 hK1 hG1=> ?_
 have J1: ∀(l1:List Int),aCb N l1=some r→K1 (aI 34 [(6,(.ptr 0 0)),(7,(.ptr 1 0))]) [some ⟨135,(aXj 4 0).map (eI .u64)⟩,some ⟨135,l1.map (eI .u64)⟩]:=by
  intro l1 hr
  unfold aCb at hr
  refine hK1 _ _ ?_
  obtain⟨q_2,h_9,hr⟩:=aD hr
  refine zz ?_
  obtain rfl:=sj hr
  exact iE Tryz.results144 bJ (zG [])
 obtain⟨q_3,h_10,hr⟩:=aD hr
 obtain⟨x16,h_11,hr⟩:=aD hr
 refine zz ?_
 refine xp (aM1 h_11) ?_
 obtain⟨bL,hL2,hr⟩:=aD hr
 refine zz ?_
 refine aXn<|aXs (fun m s h=> ∃(vi:Int)(l4:List Int),jB N va ve vm m vi l4=some bL∧Ghost 0 s h (aI 34 [(3,(.ptr 0 0)),(4,(.ptr 1 0)),(5,(.ptr 2 0)),(6,(.ptr 3 0)),(7,(.ptr 4 0)),(8,(eI .i64 vi))]) [some ⟨135,va.map (eI .u64)⟩,some ⟨135,ve.map (eI .u64)⟩,some ⟨135,vm.map (eI .u64)⟩,some ⟨135,(aXj 4 0).map (eI .u64)⟩,some ⟨135,l4.map (eI .u64)⟩]) (n:=N) ⟨aXm.wrap (x16-1),bQ,hL2,(zG [0,1,2,3,4])⟩ (by rintro s h ⟨_,_,h0,_⟩;simp[jB]at h0) ?_
 rintro m2 s h ⟨vi,l4,hr2,hg⟩
 refine aXr hg ?_
 clear hg hL2
 rw[jB]at hr2
 refine aXl ?_
 refine zz ?_
 refine zk hr2 rfl (fun h12 hr2=> ?_) (fun h12 hr2=> ?_)
 ·refine zz ?_
  refine aXo fun K3 hK3 hG3=> ?_
  have J3: ∀(iB:List Int),pL N va ve vm vi (jB N va ve vm m2) iB=some bL→K3 (aI 34 [(3,(.ptr 0 0)),(4,(.ptr 1 0)),(5,(.ptr 2 0)),(6,(.ptr 3 0)),(7,(.ptr 4 0)),(8,(eI .i64 vi))]) [some ⟨135,va.map (eI .u64)⟩,some ⟨135,ve.map (eI .u64)⟩,some ⟨135,vm.map (eI .u64)⟩,some ⟨135,(aXj 4 0).map (eI .u64)⟩,some ⟨135,iB.map (eI .u64)⟩]:=by
   intro iB hr2
   unfold pL at hr2
   refine hK3 _ _ ?_
   refine zz ?_
   exact⟨aXm.wrap (vi-1),iB,hr2,(zG [0,1,2,3,4])⟩
  refine aXn ?_
  obtain⟨q_4,h_13,hr2⟩:=aD hr2
  obtain⟨x25,h_14,hr2⟩:=aD hr2
  obtain⟨q_5,h_15,hr2⟩:=aD hr2
  refine zz ?_
  refine xp (aBp h_14) ?_
  obtain⟨x28,h_16,hr2⟩:=aD hr2
  refine zz ?_
  refine xp (yU h_16) ?_
  refine zz ?_
  refine zk hr2 rfl (fun h17 hr2=> ?_) (fun h17 hr2=> ?_)
  ·obtain⟨q_6,h_18,hr2⟩:=aD hr2
   obtain⟨lB,h_19,hr2⟩:=aD hr2
   obtain⟨q_7,h_20,hr2⟩:=aD hr2
   refine zz ?_
   refine xp (aBp h_19) ?_
   refine zz ?_
   exact hG3 _ _ _ _ (zG [0,1,2,3,4]) (J3 lB hr2)
  refine zz ?_
  exact hG3 _ _ _ _ (zG [0,1,2,3,4]) (J3 x25 hr2)
 refine zz ?_
 obtain rfl:=sj hr2
 refine zz ?_
 exact hG1 _ _ _ _ (zG [3,4]) (J1 l4 hr)
theorem aEn {N:Nat}{va ve:List Int}{r:(List Int)}(hr:u3 N va ve=some r):
  Vm.Fn Tryz.prog 131 [] [(.agg (va.map (eI .u64))),(.agg (ve.map (eI .u64)))] (.agg (r.map (eI .u64))) []:=by
 refine zf Tryz.func131 Tryz.ntmps131 ?_
 unfold u3 at hr
 refine zz ?_
 refine aXl ?_
 obtain⟨q,h_1,hr⟩:=aD hr
 obtain⟨q_1,h_2,hr⟩:=aD hr
 obtain⟨x7,h_3,hr⟩:=aD hr
 obtain⟨x8,h_5,hr⟩:=aD hr
 obtain⟨q_2,h_7,hr⟩:=aD hr
 refine aXx mixed [139,144] [] [[0,1,2,3,4]] ?_
 refine zz ?_
 refine xu (rM h_3)<|xu (aI7 h_5) ?_
 refine zz ?_
 obtain rfl:=sj hr
 exact iE Tryz.results131 bJ (zG [])
theorem aMe {N:Nat}{r:(List Int)}(hr:aEK N=some r):
  Vm.Fn Tryz.prog 140 [] [] (.agg (r.map (eI .u64))) []:=by
 refine zf Tryz.func140 Tryz.ntmps140 ?_
 unfold aEK at hr
 obtain⟨x1,h_1,hr⟩:=aD hr
 obtain⟨q,h_2,hr⟩:=aD hr
 refine zz ?_
 refine xp (nC h_1) ?_
 refine zz ?_
 obtain rfl:=sj hr
 exact iE Tryz.results140 bJ (zG [])
theorem aI6 {N:Nat}{va:List Int}{r:Bool}(hr:xR N va=some r):
  Vm.Fn Tryz.prog 125 [] [(.agg (va.map (eI .u64)))] (eB r) []:=by
 refine zf Tryz.func125 Tryz.ntmps125 ?_
 unfold xR at hr
 refine zz ?_
 refine aXo fun K1 hK1 hG1=> ?_
 have J1: ∀(x2:Bool),sN N x2=some r→K1 (aI 19 [(2,(eB x2))]) []:=by
  intro x2 hr
  unfold sN at hr
  refine hK1 _ _ ?_
  refine zz ?_
  obtain rfl:=sj hr
  exact bE Tryz.results125 []
 obtain⟨q,h_1,hr⟩:=aD hr
 obtain⟨x4,h_2,hr⟩:=aD hr
 rcases aXk (!x4)with h4|h4
 ·replace hr:=cQ hr h4
  obtain⟨x8,h_5,hr⟩:=aD hr
  obtain⟨x9,h_7,hr⟩:=aD hr
  rcases aXk (decide (x9<0))with h9|h9
  ·replace hr:=cQ hr h9
   obtain⟨bQ,h_10,hr⟩:=aD hr
   obtain⟨x15,h_12,hr⟩:=aD hr
   obtain⟨x16,h_14,hr⟩:=aD hr
   obtain⟨q_1,h_16,hr⟩:=aD hr
   obtain⟨q_2,h_17,hr⟩:=aD hr
   refine aXx mixed [128,131,137,138,139,140] [] [[0,1,2,3,4,5,6,7,8,9,10,11,12,13,14,15,16]] ?_
   refine zz ?_
   refine xu (r8 h_2) ?_
   refine zz ?_
   refine xu (rM h_5)<|xu (uE h_7) ?_
   refine zz ?_
   refine xu (zO h_10)<|xu (aEn h_12)<|xu (aMe h_14) ?_
   refine zz ?_
   exact hG1 _ _ _ _ (zG []) (J1 (x15 == x16) hr)
  replace hr:=cR hr h9
  refine aXx mixed [128,131,137,138,139,140] [] [[0,1,2,3,4,5,6,7,8,9,10,11,12,13,14,15,16]] ?_
  refine zz ?_
  refine xu (r8 h_2) ?_
  refine zz ?_
  refine xu (rM h_5)<|xu (uE h_7) ?_
  refine zz ?_
  exact hG1 _ _ _ _ (zG []) (J1 false hr)
 replace hr:=cR hr h4
 refine aXx mixed [128,131,137,138,139,140] [] [[0,1,2,3,4,5,6,7,8,9,10,11,12,13,14,15,16]] ?_
 refine zz ?_
 refine xu (r8 h_2) ?_
 refine zz ?_
 refine xX rfl<|xX rfl<|xX rfl<|xX rfl<|xX rfl ?_
 refine zz ?_
 exact hG1 _ _ _ _ (zG []) (J1 false hr)
theorem aAb {N:Nat}{p:List Int}{r:Bool}(hr:v7 N p=some r):
  Vm.Fn Tryz.prog 118 [] [(.agg (p.map (eI .u64)))] (eB r) []:=by
 refine zf Tryz.func118 Tryz.ntmps118 ?_
 unfold v7 at hr
 refine zz ?_
 refine aXo fun K1 hK1 hG1=> ?_
 have J1: ∀(x2:Bool),zN N x2=some r→K1 (aI 10 [(2,(eB x2))]) []:=by
  intro x2 hr
  unfold zN at hr
  refine hK1 _ _ ?_
  refine zz ?_
  obtain rfl:=sj hr
  exact bE Tryz.results118 []
 obtain⟨q,h_1,hr⟩:=aD hr
 obtain⟨x4,h_2,hr⟩:=aD hr
 obtain⟨q_1,h_4,hr⟩:=aD hr
 rcases aXk (!(p == x4))with h5|h5
 ·replace hr:=cQ hr h5
  obtain⟨x8,h_6,hr⟩:=aD hr
  refine aXx mixed [124,125] [] [[0,1,2,3,4,5,6,7]] ?_
  refine zz ?_
  refine xu (nC h_2) ?_
  refine zz ?_
  refine xu (aI6 h_6) ?_
  refine zz ?_
  exact hG1 _ _ _ _ (zG []) (J1 x8 hr)
 replace hr:=cR hr h5
 refine aXx mixed [124,125] [] [[0,1,2,3,4,5,6,7]] ?_
 refine zz ?_
 refine xu (nC h_2) ?_
 refine zz ?_
 exact hG1 _ _ _ _ (zG []) (J1 false hr)
theorem qZ {N:Nat}{va:List Int}{r:Bool}(hr:qL N va=some r):
  Vm.Fn Tryz.prog 126 [] [(.agg (va.map (eI .u64)))] (eB r) []:=by
 refine zf Tryz.func126 Tryz.ntmps126 ?_
 unfold qL at hr
 refine zz ?_
 refine aXl ?_
 obtain⟨q,h_1,hr⟩:=aD hr
 obtain⟨x4,h_2,hr⟩:=aD hr
 obtain⟨x5,h_4,hr⟩:=aD hr
 refine aXx mixed [128,138] [] [[0,1,2,3,4]] ?_
 refine zz ?_
 refine xu (zO h_2)<|xu (uE h_4) ?_
 refine zz ?_
 obtain rfl:=sj hr
 exact bE Tryz.results126 []
theorem aJr {N:Nat}{b:List Int}{r:(List Int)×(List Int)×Int}(hr:xZ N b=some r):
  Vm.Fn Tryz.prog 119 [] [(.row none 1 (b.map (eI .u8)))] (.tup [(.agg (dL (eI .u64) r.1 (dL (eI .u64) r.2.1 []))),(eI .i64 r.2.2)]) []:=by
 refine zf Tryz.func119 Tryz.ntmps119 ?_
 unfold xZ at hr
 refine zz ?_
 refine xw (v:=(.ptr 0 0)) (h':=[some ⟨139,(dL (eI .u64) (aXj 4 0) (dL (eI .u64) (aXj 4 0) []))⟩]) (cY sB rfl rfl rfl) ?_
 refine zz ?_
 refine aXl ?_
 refine zz ?_
 refine zk hr rfl (fun h1 hr=> ?_) (fun h1 hr=> ?_)
 ·refine zz ?_
  refine xw (v:=(.agg (dL (eI .u64) (aXj 4 0) (dL (eI .u64) (aXj 4 0) [])))) (cE rfl (tH sB aGb rfl)) ?_
  refine zz ?_
  obtain rfl:=sj hr
  exact oL Tryz.results119 bJ bJ (zG [])
 refine zz ?_
 refine aXl ?_
 obtain⟨dA,h_2,hr⟩:=aD hr
 refine aXx mixed [] [] [[0,1,2,3]] ?_
 refine zz ?_
 refine xw (v:=(eI .i64 ((min dA.length (aXj 32 0).length:Nat):Int))) (h':=[some ⟨139,(dL (eI .u64) (aXj 4 0) (dL (eI .u64) (aXj 4 0) []))⟩,some ⟨28,(nT (aXj 32 0) dA).map (eI .u8)⟩,some ⟨28,(aXj 32 0).map (eI .u8)⟩]) (aFf rfl rfl (aJZ (E:=(eI .u8)) (l:=aXj 32 0) rfl dB dO rfl rfl (aEA (fun _=>rfl)) rfl)) ?_
 refine zz ?_
 refine aXl ?_
 obtain⟨x17,h_3,hr⟩:=aD hr
 refine aXx mixed [] [] [[0,1,2,3]] ?_
 refine zz ?_
 refine xw (v:=(eI .i64 ((min x17.length (aXj 32 0).length:Nat):Int))) (h':=[some ⟨139,(dL (eI .u64) (aXj 4 0) (dL (eI .u64) (aXj 4 0) []))⟩,some ⟨28,(nT (aXj 32 0) dA).map (eI .u8)⟩,some ⟨28,(nT (aXj 32 0) x17).map (eI .u8)⟩]) (aFf rfl rfl (aJZ (E:=(eI .u8)) (l:=aXj 32 0) rfl dB dO rfl rfl (aEA (fun _=>rfl)) rfl)) ?_
 refine zz ?_
 refine aXl ?_
 obtain⟨q,h_4,hr⟩:=aD hr
 obtain⟨bT,h_5,hr⟩:=aD hr
 obtain⟨q_1,h_7,hr⟩:=aD hr
 obtain⟨bV,h_8,hr⟩:=aD hr
 obtain⟨q_2,h_10,hr⟩:=aD hr
 obtain⟨q_3,h_11,hr⟩:=aD hr
 refine aXx mixed [117] [] [[0,1,2,3,4,5,6]] ?_
 refine zz ?_
 refine xu (sT h_5) ?_
 refine zz ?_
 refine xu (sT h_8)<|xw (v:=(.agg (dL (eI .u64) bT (dL (eI .u64) bV [])))) (cE rfl (aOU (ps':=[(0,(.agg (dL (eI .u64) bT []))),(1,(.agg (dL (eI .u64) bV [])))]) (by simp only[aFe (l:=bT) (bH h_10),aFe (l:=bV) (bH h_11)]) (tH sB aGb rfl)))<|xw (v:=(.ptr 3 0)) (h':=[some ⟨139,(dL (eI .u64) (aXj 4 0) (dL (eI .u64) (aXj 4 0) []))⟩,some ⟨28,(nT (aXj 32 0) dA).map (eI .u8)⟩,some ⟨28,(nT (aXj 32 0) x17).map (eI .u8)⟩,some ⟨139,(dL (eI .u64) (aXj 4 0) (dL (eI .u64) (aXj 4 0) []))⟩]) (cY sB rfl rfl rfl) ?_
 refine zz ?_
 refine aXl ?_
 refine aXo fun K1 hK1 hG1=> ?_
 have J1: ∀(iA:Bool),xD N bT bV iA=some r→K1 (aI 36 [(2,(.ptr 0 0)),(6,(.ptr 1 0)),(33,(eB iA))]) [some ⟨139,(dL (eI .u64) (aXj 4 0) (dL (eI .u64) (aXj 4 0) []))⟩,some ⟨139,(dL (eI .u64) bT (dL (eI .u64) bV []))⟩]:=by
  intro iA hr
  unfold xD at hr
  refine hK1 _ _ ?_
  refine zk hr rfl (fun h12 hr=> ?_) (fun h12 hr=> ?_)
  ·refine zz ?_
   refine xw (v:=(.agg (dL (eI .u64) (aXj 4 0) (dL (eI .u64) (aXj 4 0) [])))) (cE rfl (tH sB aGb rfl)) ?_
   refine zz ?_
   obtain rfl:=sj hr
   exact oL Tryz.results119 bJ bJ (zG [])
  refine zz ?_
  obtain rfl:=sj hr
  exact oL Tryz.results119 bJ bJ (zG [])
 obtain⟨x26,h_13,hr⟩:=aD hr
 rcases aXk (!x26)with h14|h14
 ·replace hr:=cQ hr h14
  refine xr ?_
  refine zz ?_
  refine xp (qZ h_13) ?_
  refine zz ?_
  exact hG1 _ _ _ _ (zG [0,3]) (J1 true hr)
 replace hr:=cR hr h14
 obtain⟨eG,h_15,hr⟩:=aD hr
 refine xr ?_
 refine zz ?_
 refine xp (qZ h_13) ?_
 refine zz ?_
 refine xCg (v:=(eB eG)) (h':=[some ⟨139,(dL (eI .u64) (aXj 4 0) (dL (eI .u64) (aXj 4 0) []))⟩,some ⟨28,(nT (aXj 32 0) dA).map (eI .u8)⟩,some ⟨28,(nT (aXj 32 0) x17).map (eI .u8)⟩,some ⟨139,(dL (eI .u64) bT (dL (eI .u64) bV []))⟩]) rfl rfl h14 rfl (Vm.Fn.pure (qZ h_15) zR rfl) ?_
 refine zz ?_
 exact hG1 _ _ _ _ (zG [0,3]) (J1 (!eG) hr)
theorem aJO {N:Nat}{ve:List Int}{r:(List Int)}(hr:aAA N ve=some r):
  Vm.Fn Tryz.prog 130 [] [(.agg (ve.map (eI .u64)))] (.agg (r.map (eI .u64))) []:=by
 refine zf Tryz.func130 Tryz.ntmps130 ?_
 unfold aAA at hr
 refine zz ?_
 refine aXl ?_
 obtain⟨x3,h_1,hr⟩:=aD hr
 obtain⟨q,h_3,hr⟩:=aD hr
 obtain⟨x5,h_4,hr⟩:=aD hr
 obtain⟨q_1,h_6,hr⟩:=aD hr
 refine aXx mixed [124,131] [] [[0,1,2,3]]<|xu (nC h_1) ?_
 refine zz ?_
 refine xu (aEn h_4) ?_
 refine zz ?_
 obtain rfl:=sj hr
 exact iE Tryz.results130 bJ (zG [])
theorem aM4 {N:Nat}{va b:List Int}{r:(List Int)}(hr:aC5 N va b=some r):
  Vm.Fn Tryz.prog 129 [] [(.agg (va.map (eI .u64))),(.agg (b.map (eI .u64)))] (.agg (r.map (eI .u64))) []:=by
 refine zf Tryz.func129 Tryz.ntmps129 ?_
 unfold aC5 at hr
 refine zz ?_
 refine aXl ?_
 obtain⟨q,h_1,hr⟩:=aD hr
 obtain⟨q_1,h_2,hr⟩:=aD hr
 obtain⟨x7,h_3,hr⟩:=aD hr
 obtain⟨x8,h_5,hr⟩:=aD hr
 obtain⟨q_2,h_7,hr⟩:=aD hr
 refine aXx mixed [139,143] [] [[0,1,2,3,4]] ?_
 refine zz ?_
 refine xu (rM h_3)<|xu (aBp h_5) ?_
 refine zz ?_
 obtain rfl:=sj hr
 exact iE Tryz.results129 bJ (zG [])
theorem aJ2 {N:Nat}{va:List Int}{r:(List Int)}(hr:aAI N va=some r):
  Vm.Fn Tryz.prog 162 [] [(.agg (va.map (eI .u64)))] (.agg (r.map (eI .u8))) []:=by
 refine zf Tryz.func162 Tryz.ntmps162 ?_
 unfold aAI at hr
 refine zz ?_
 refine aXo fun K1 hK1 hG1=> ?_
 have J1: ∀(l1:List Int),aCC N l1=some r→K1 (aI 24 [(2,(.ptr 0 0)),(3,(.ptr 1 0))]) [some ⟨28,(aXj 32 0).map (eI .u8)⟩,some ⟨28,l1.map (eI .u8)⟩]:=by
  intro l1 hr
  unfold aCC at hr
  refine hK1 _ _ ?_
  obtain⟨q,h_1,hr⟩:=aD hr
  refine zz ?_
  obtain rfl:=sj hr
  exact iE Tryz.results162 bJ (zG [])
 obtain⟨bL,hL2,hr⟩:=aD hr
 refine zz ?_
 refine aXn<|aXs (fun m s h=> ∃(x6:Int)(l2:List Int),lK N va m x6 l2=some bL∧Ghost 0 s h (aI 24 [(1,(.ptr 0 0)),(2,(.ptr 1 0)),(3,(.ptr 2 0)),(6,(eI .i64 x6))]) [some ⟨135,va.map (eI .u64)⟩,some ⟨28,(aXj 32 0).map (eI .u8)⟩,some ⟨28,l2.map (eI .u8)⟩]) (n:=N) ⟨0,aXj 32 0,hL2,(zG [0,1,2])⟩ (by rintro s h ⟨_,_,h0,_⟩;simp[lK]at h0) ?_
 rintro m2 s h ⟨x6,l2,hr2,hg⟩
 refine aXr hg ?_
 clear hg hL2
 rw[lK]at hr2
 refine zz ?_
 refine aXl ?_
 refine zk hr2 rfl (fun h2 hr2=> ?_) (fun h2 hr2=> ?_)
 ·refine zz ?_
  refine aXl<|aXn ?_
  obtain⟨bQ,h_3,hr2⟩:=aD hr2
  obtain⟨x19,h_4,hr2⟩:=aD hr2
  obtain⟨d5,h_5,hr2⟩:=aD hr2
  refine zz ?_
  exact⟨aXm.wrap (x6+1),l2.set (aXy x6) (IntKind.u8.wrap x19),hr2,(zG [0,1,2])⟩
 refine zz ?_
 obtain rfl:=sj hr2
 refine zz ?_
 exact hG1 _ _ _ _ (zG [1,2]) (J1 l2 hr)
theorem aEL {N:Nat}{va:List Int}{r:(List Int)}(hr:t7 N va=some r):
  Vm.Fn Tryz.prog 146 [] [(.agg (va.map (eI .u64)))] (.row none 1 (r.map (eI .u8))) []:=by
 refine zf Tryz.func146 Tryz.ntmps146 ?_
 unfold t7 at hr
 obtain⟨q,h_1,hr⟩:=aD hr
 obtain⟨x5,h_2,hr⟩:=aD hr
 obtain⟨q_1,h_3,hr⟩:=aD hr
 refine zz ?_
 refine xp (aJ2 h_2) ?_
 refine zz ?_
 obtain rfl:=sj hr
 exact iE Tryz.results146 bJ (aXw (zv 1) (zG []))
theorem aJb {N:Nat}{va b vm:List Int}{r:(List Int)}(hr:zD N va b vm=some r):
  Vm.Fn Tryz.prog 173 [] [(.agg (va.map (eI .u64))),(.agg (b.map (eI .u64))),(.agg (vm.map (eI .u64)))] (.agg (r.map (eI .u64))) []:=by
 refine zf Tryz.func173 Tryz.ntmps173 ?_
 unfold zD at hr
 refine zz ?_
 refine aXl ?_
 obtain⟨q,h_1,hr⟩:=aD hr
 obtain⟨cD,h_2,hr⟩:=aD hr
 refine zz ?_
 refine xp (r8 h_2) ?_
 refine zz ?_
 refine zk hr rfl (fun h3 hr=> ?_) (fun h3 hr=> ?_)
 ·refine zz ?_
  obtain rfl:=sj hr
  exact iE Tryz.results173 bJ (zG [])
 refine zz ?_
 refine aXl ?_
 obtain⟨q_1,h_4,hr⟩:=aD hr
 obtain⟨bQ,h_5,hr⟩:=aD hr
 obtain⟨q_2,h_7,hr⟩:=aD hr
 obtain⟨x17,h_8,hr⟩:=aD hr
 obtain⟨q_3,h_10,hr⟩:=aD hr
 obtain⟨q_4,h_11,hr⟩:=aD hr
 refine aXx mixed [158] [] [[0,1,2,3,4,5,6,7]] ?_
 refine zz ?_
 refine xu (s6 h_5) ?_
 refine zz ?_
 refine xu (s6 h_8) ?_
 obtain⟨d5,h_12,hr⟩:=aD hr
 obtain⟨q_5,h_13,hr⟩:=aD hr
 refine zz ?_
 refine xp (aGV h_12) ?_
 refine zz ?_
 refine aXo fun K1 hK1 hG1=> ?_
 have J1: ∀(l1:List Int),pP N l1=some r→K1 (aI 38 [(6,(.ptr 0 0)),(7,(.ptr 1 0))]) [some ⟨135,(aXj 4 0).map (eI .u64)⟩,some ⟨135,l1.map (eI .u64)⟩]:=by
  intro l1 hr
  unfold pP at hr
  refine hK1 _ _ ?_
  obtain⟨q_6,h_14,hr⟩:=aD hr
  refine zz ?_
  obtain rfl:=sj hr
  exact iE Tryz.results173 bJ (zG [])
 refine aXo fun K2 hK2 hG2=> ?_
 have J2: ∀(jL:Bool),mO N vm d5 jL=some r→K2 (aI 38 [(5,(.ptr 0 0)),(6,(.ptr 1 0)),(7,(.ptr 2 0)),(30,(eB jL))]) [some ⟨135,vm.map (eI .u64)⟩,some ⟨135,(aXj 4 0).map (eI .u64)⟩,some ⟨135,d5.1.map (eI .u64)⟩]:=by
  intro jL hr
  unfold mO at hr
  refine hK2 _ _ ?_
  refine zk hr rfl (fun h15 hr=> ?_) (fun h15 hr=> ?_)
  ·obtain⟨cU,h_16,hr⟩:=aD hr
   obtain⟨q_7,h_17,hr⟩:=aD hr
   refine zz ?_
   refine xp (aB7 h_16) ?_
   refine zz ?_
   exact hG1 _ _ _ _ (zG [1,2]) (J1 cU.1 hr)
  refine zz ?_
  exact hG1 _ _ _ _ (zG [1,2]) (J1 d5.1 hr)
 rcases aXk d5.2 with h18|h18
 ·replace hr:=cQ hr h18
  refine xr ?_
  refine zz ?_
  exact hG2 _ _ _ _ (zG [2,3,4]) (J2 true hr)
 replace hr:=cR hr h18
 obtain⟨x28,h_19,hr⟩:=aD hr
 refine xr ?_
 refine zz ?_
 refine xCg (v:=(eI .i64 x28)) (h':=[some ⟨135,bQ.map (eI .u64)⟩,some ⟨135,x17.map (eI .u64)⟩,some ⟨135,vm.map (eI .u64)⟩,some ⟨135,(aXj 4 0).map (eI .u64)⟩,some ⟨135,d5.1.map (eI .u64)⟩]) rfl rfl h18 rfl (Vm.Fn.pure (uE h_19) zR rfl) ?_
 refine zz ?_
 exact hG2 _ _ _ _ (zG [2,3,4]) (J2 (decide (0≤x28)) hr)
theorem aG7 {N:Nat}{va b:List Int}{r:(List Int)}(hr:sP N va b=some r):
  Vm.Fn Tryz.prog 161 [] [(.agg (va.map (eI .u64))),(.agg (b.map (eI .u64)))] (.agg (r.map (eI .u64))) []:=by
 refine zf Tryz.func161 Tryz.ntmps161 ?_
 unfold sP at hr
 refine zz ?_
 refine aXl ?_
 obtain⟨q,h_1,hr⟩:=aD hr
 obtain⟨q_1,h_2,hr⟩:=aD hr
 obtain⟨x7,h_3,hr⟩:=aD hr
 obtain⟨x8,h_5,hr⟩:=aD hr
 obtain⟨q_2,h_7,hr⟩:=aD hr
 refine aXx mixed [128,173] [] [[0,1,2,3,4]] ?_
 refine zz ?_
 refine xu (zO h_3)<|xu (aJb h_5) ?_
 refine zz ?_
 obtain rfl:=sj hr
 exact iE Tryz.results161 bJ (zG [])
theorem aI4 {N:Nat}{vh:List Int}{r:(List Int)}(hr:yR N vh=some r):
  Vm.Fn Tryz.prog 145 [] [(.agg (vh.map (eI .u8)))] (.agg (r.map (eI .u64))) []:=by
 refine zf Tryz.func145 Tryz.ntmps145 ?_
 unfold yR at hr
 obtain⟨q,h_1,hr⟩:=aD hr
 obtain⟨x4,h_2,hr⟩:=aD hr
 obtain⟨x6,h_3,hr⟩:=aD hr
 obtain⟨q_1,h_4,hr⟩:=aD hr
 refine zz ?_
 refine xp (sT h_2)<|xw (v:=(.agg ([0,0,0,0].map (eI .u64)))) (cE rfl (nR b8 nQ rfl))<|xp (aG7 h_3) ?_
 refine zz ?_
 obtain rfl:=sj hr
 exact iE Tryz.results145 bJ (zG [])
theorem aGO {N:Nat}{vr p vm:List Int}{r:(List Int)}(hr:sU N vr p vm=some r):
  Vm.Fn Tryz.prog 132 [] [(.agg (vr.map (eI .u64))),(.agg (p.map (eI .u64))),(.agg (vm.map (eI .u8)))] (.agg (r.map (eI .u64))) []:=by
 refine zf Tryz.func132 Tryz.ntmps132 ?_
 unfold sU at hr
 refine zz ?_
 refine aXl ?_
 obtain⟨q,h_1,hr⟩:=aD hr
 obtain⟨x8,h_2,hr⟩:=aD hr
 obtain⟨q_1,h_4,hr⟩:=aD hr
 obtain⟨cD,h_5,hr⟩:=aD hr
 obtain⟨q_2,h_7,hr⟩:=aD hr
 obtain⟨dA,h_8,hr⟩:=aD hr
 obtain⟨bQ,h_10,hr⟩:=aD hr
 obtain⟨x15,h_12,hr⟩:=aD hr
 obtain⟨q_3,h_14,hr⟩:=aD hr
 refine aXx mixed [145,146] [40,95] [[0,1,2,3,4],[5,6,7,8,9]] ?_
 refine zz ?_
 refine xu (aEL h_2) ?_
 refine zz ?_
 refine xu (aEL h_5) ?_
 refine zz ?_
 refine⟨_,_,(zv 2), ?_⟩
 refine zz ?_
 refine zgL (aAR h_8) [] [4] ?_
 refine zgL (aEV h_10) [] [5] ?_
 refine xu (aI4 h_12) ?_
 refine zz ?_
 obtain rfl:=sj hr
 exact iE Tryz.results132 bJ (zG [])
theorem aJC {N:Nat}{p vm s_E s_S:List Int}{r:Bool}(hr:yP N p vm s_E s_S=some r):
  Vm.Fn Tryz.prog 120 [] [(.agg (p.map (eI .u64))),(.agg (vm.map (eI .u8))),(.agg (dL (eI .u64) s_E (dL (eI .u64) s_S [])))] (eB r) []:=by
 refine zf Tryz.func120 Tryz.ntmps120 ?_
 unfold yP at hr
 refine zz ?_
 refine aXl ?_
 refine aXo fun K1 hK1 hG1=> ?_
 have J1: ∀(fG:Bool),nA N p vm s_E s_S fG=some r→K1 (aI 46 [(3,(.ptr 0 0)),(4,(.ptr 1 0)),(5,(.ptr 2 0)),(24,(eB fG))]) [some ⟨135,p.map (eI .u64)⟩,some ⟨28,vm.map (eI .u8)⟩,some ⟨139,(dL (eI .u64) s_E (dL (eI .u64) s_S []))⟩]:=by
  intro fG hr
  unfold nA at hr
  refine hK1 _ _ ?_
  refine zk hr rfl (fun h1 hr=> ?_) (fun h1 hr=> ?_)
  ·refine zz ?_
   obtain rfl:=sj hr
   exact bE Tryz.results120 []
  refine zz ?_
  refine aXl ?_
  obtain⟨x26,h_2,hr⟩:=aD hr
  obtain⟨q,h_4,hr⟩:=aD hr
  obtain⟨x29,h_5,hr⟩:=aD hr
  obtain⟨q_1,h_7,hr⟩:=aD hr
  refine aXx mixed [127,128] [] [[0,1,2,3,4,5,6,7,8,9]]<|xu (zO h_2) ?_
  refine zz ?_
  refine xu (aB7 h_5) ?_
  refine zz ?_
  refine aXl ?_
  obtain⟨q_2,h_8,hr⟩:=aD hr
  obtain⟨cU,h_9,hr⟩:=aD hr
  obtain⟨q_3,h_11,hr⟩:=aD hr
  obtain⟨x37,h_12,hr⟩:=aD hr
  obtain⟨x38,h_14,hr⟩:=aD hr
  obtain⟨q_4,h_16,hr⟩:=aD hr
  refine aXx mixed [129,130,131] [] [[0,1,2,3,4,5,6,7,8]] ?_
  refine zz ?_
  refine xu (aJO h_9) ?_
  refine zz ?_
  refine xu (aEn h_12)<|xu (aM4 h_14) ?_
  refine zz ?_
  refine aXl ?_
  obtain⟨q_5,h_17,hr⟩:=aD hr
  obtain⟨x44,h_18,hr⟩:=aD hr
  obtain⟨q_6,h_20,hr⟩:=aD hr
  refine aXx mixed [132] [] [[0,1,2,3,4,5,6,7]] ?_
  refine zz ?_
  refine xu (aGO h_18) ?_
  refine zz ?_
  obtain rfl:=sj hr
  exact bE Tryz.results120 []
 obtain⟨q_7,h_21,hr⟩:=aD hr
 obtain⟨b4,h_22,hr⟩:=aD hr
 rcases aXk (!b4)with h23|h23
 ·replace hr:=cQ hr h23
  refine xr ?_
  refine zz ?_
  refine xp (aAb h_22) ?_
  refine zz ?_
  refine xX rfl<|xX rfl<|xX rfl<|xX rfl ?_
  refine zz ?_
  exact hG1 _ _ _ _ (zG [0,1,2]) (J1 true hr)
 replace hr:=cR hr h23
 obtain⟨q_8,h_24,hr⟩:=aD hr
 obtain⟨x16,h_25,hr⟩:=aD hr
 rcases aXk (!x16)with h26|h26
 ·replace hr:=cQ hr h26
  refine xr ?_
  refine zz ?_
  refine xp (aAb h_22) ?_
  refine zz ?_
  refine xCg (v:=(eB x16)) (h':=[some ⟨135,p.map (eI .u64)⟩,some ⟨28,vm.map (eI .u8)⟩,some ⟨139,(dL (eI .u64) s_E (dL (eI .u64) s_S []))⟩]) rfl rfl h23 rfl (Vm.Fn.pure (qZ h_25) zR rfl) ?_
  refine zz ?_
  exact hG1 _ _ _ _ (zG [0,1,2]) (J1 true hr)
 replace hr:=cR hr h26
 obtain⟨q_9,h_27,hr⟩:=aD hr
 obtain⟨bV,h_28,hr⟩:=aD hr
 refine xr ?_
 refine zz ?_
 refine xp (aAb h_22) ?_
 refine zz ?_
 refine xCg (v:=(eB x16)) (h':=[some ⟨135,p.map (eI .u64)⟩,some ⟨28,vm.map (eI .u8)⟩,some ⟨139,(dL (eI .u64) s_E (dL (eI .u64) s_S []))⟩]) rfl rfl h23 rfl (Vm.Fn.pure (qZ h_25) zR rfl) ?_
 refine zz ?_
 refine xCg (v:=(eB bV)) (h':=[some ⟨135,p.map (eI .u64)⟩,some ⟨28,vm.map (eI .u8)⟩,some ⟨139,(dL (eI .u64) s_E (dL (eI .u64) s_S []))⟩]) rfl rfl h26 rfl (Vm.Fn.pure (qZ h_28) zR rfl) ?_
 refine zz ?_
 exact hG1 _ _ _ _ (zG [0,1,2]) (J1 (!bV) hr)
theorem aER {N:Nat}{sig key vm:List Int}{r:Bool×Int}(hr:rU N sig key vm=some r):
  Vm.Fn Tryz.prog 100 [] [(.row none 1 (sig.map (eI .u8))),(.row none 1 (key.map (eI .u8))),(.agg (vm.map (eI .u8)))] (.tup [(eB r.1),(eI .i64 r.2)]) []:=by
 refine zf Tryz.func100 Tryz.ntmps100 ?_
 unfold rU at hr
 refine zz ?_
 refine aXl ?_
 refine zz ?_
 refine zk hr rfl (fun h1 hr=> ?_) (fun h1 hr=> ?_)
 ·refine zz ?_
  obtain rfl:=sj hr
  exact kG Tryz.results100 []
 refine zz ?_
 refine xw (v:=(eI .i64 ((min key.length (aXj 32 0).length:Nat):Int))) (h':=[some ⟨28,vm.map (eI .u8)⟩,some ⟨28,(nT (aXj 32 0) key).map (eI .u8)⟩]) (aFf rfl rfl (aJZ (E:=(eI .u8)) (l:=aXj 32 0) rfl dB dO rfl rfl (aEA (fun _=>rfl)) rfl)) ?_
 obtain⟨q,h_2,hr⟩:=aD hr
 obtain⟨x19,h_3,hr⟩:=aD hr
 obtain⟨q_1,h_4,hr⟩:=aD hr
 refine zz ?_
 refine xp (sT h_3) ?_
 refine zz ?_
 refine aXl ?_
 obtain⟨d5,h_5,hr⟩:=aD hr
 refine zz ?_
 refine xp (aAb h_5) ?_
 refine zz ?_
 refine zk hr rfl (fun h6 hr=> ?_) (fun h6 hr=> ?_)
 ·refine zz ?_
  obtain rfl:=sj hr
  exact kG Tryz.results100 []
 refine zz ?_
 refine aXl ?_
 refine zz ?_
 refine zk hr rfl (fun h7 hr=> ?_) (fun h7 hr=> ?_)
 ·refine zz ?_
  obtain rfl:=sj hr
  exact kG Tryz.results100 []
 obtain⟨x28,h_8,hr⟩:=aD hr
 refine zz ?_
 refine xp (aJr h_8) ?_
 refine zz ?_
 refine xw (v:=(.ptr 3 0)) (h':=[some ⟨28,vm.map (eI .u8)⟩,some ⟨28,(nT (aXj 32 0) key).map (eI .u8)⟩,some ⟨135,x19.map (eI .u64)⟩,some ⟨139,(dL (eI .u64) (aXj 4 0) (dL (eI .u64) (aXj 4 0) []))⟩]) (cY sB rfl rfl rfl) ?_
 refine zz ?_
 refine aXl ?_
 refine aXo fun K1 hK1 hG1=> ?_
 have J1: ∀(x39:Bool),s7 N x39=some r→K1 (aI 40 [(39,(eB x39))]) []:=by
  intro x39 hr
  unfold s7 at hr
  refine hK1 _ _ ?_
  refine zk hr rfl (fun h9 hr=> ?_) (fun h9 hr=> ?_)
  ·refine zz ?_
   obtain rfl:=sj hr
   exact kG Tryz.results100 []
  refine zz ?_
  obtain rfl:=sj hr
  exact kG Tryz.results100 []
 rcases aXk (x28.2.2 != 0)with h10|h10
 ·replace hr:=cQ hr h10
  refine xr ?_
  refine zz ?_
  exact hG1 _ _ _ _ (zG []) (J1 true hr)
 replace hr:=cR hr h10
 obtain⟨q_2,h_11,hr⟩:=aD hr
 obtain⟨x37,h_12,hr⟩:=aD hr
 refine xr ?_
 refine zz ?_
 refine xCg (v:=(eB x37)) (h':=[some ⟨28,vm.map (eI .u8)⟩,some ⟨28,(nT (aXj 32 0) key).map (eI .u8)⟩,some ⟨135,x19.map (eI .u64)⟩,some ⟨139,(dL (eI .u64) x28.1 (dL (eI .u64) x28.2.1 []))⟩]) rfl rfl h10 rfl (Vm.Fn.pure (aJC h_12) zR rfl) ?_
 refine zz ?_
 exact hG1 _ _ _ _ (zG []) (J1 (!x37) hr)
theorem aJX {N:Nat}{aT:Int}{bP:List Int}{o_M o_N:Int}{sG:List (List Int)}{vm:List Int}{r:Bool×Int}(hr:aAz N aT bP o_M o_N sG vm=some r):
  Vm.Fn Tryz.prog 101 [] [(.agg [(eI .i64 aT),(.row none 1 (bP.map (eI .u8))),(eI .i64 o_M),(eI .i64 o_N)]),(.row none 1 (sG.map (eL 1 (eI .u8)))),(.agg (vm.map (eI .u8)))] (.tup [(eB r.1),(eI .i64 r.2)]) []:=by
 refine zf Tryz.func101 Tryz.ntmps101 ?_
 unfold aAz at hr
 refine zz ?_
 refine aXo fun K1 hK1 hG1=> ?_
 have J1: ∀(vn:Int),aCG N aT bP o_M o_N vn=some r→K1 (aI 44 [(3,(.ptr 0 0)),(8,(eI .i64 vn))]) [some ⟨90,[(eI .i64 aT),(.row none 1 (bP.map (eI .u8))),(eI .i64 o_M),(eI .i64 o_N)]⟩]:=by
  intro vn hr
  unfold aCG at hr
  refine hK1 _ _ ?_
  refine zz ?_
  obtain rfl:=sj hr
  exact kG Tryz.results101 []
 obtain⟨bL,hL2,hr⟩:=aD hr
 refine zz ?_
 refine aXn<|aXs (fun m s h=> ∃(eC vi:Int),kE N aT bP o_M o_N sG vm m eC vi=some bL∧Ghost 0 s h (aI 44 [(1,(.row none 1 (sG.map (eL 1 (eI .u8))))),(3,(.ptr 0 0)),(5,(.ptr 1 0)),(8,(eI .i64 eC)),(9,(eI .i64 vi))]) [some ⟨90,[(eI .i64 aT),(.row none 1 (bP.map (eI .u8))),(eI .i64 o_M),(eI .i64 o_N)]⟩,some ⟨28,vm.map (eI .u8)⟩]) (n:=N) ⟨0,0,hL2,(zG [0,1])⟩ (by rintro s h ⟨_,_,h0,_⟩;simp[kE]at h0) ?_
 rintro m2 s h ⟨eC,vi,hr2,hg⟩
 refine aXr hg ?_
 clear hg hL2
 rw[kE]at hr2
 refine aXl ?_
 refine zz ?_
 refine zk hr2 rfl (fun h1 hr2=> ?_) (fun h1 hr2=> ?_)
 ·refine zz ?_
  refine aXo fun K3 hK3 hG3=> ?_
  have J3: ∀(aDq:Int),uB N aT bP o_M o_N sG vm vi (kE N aT bP o_M o_N sG vm m2) aDq=some bL→K3 (aI 44 [(1,(.row none 1 (sG.map (eL 1 (eI .u8))))),(3,(.ptr 0 0)),(5,(.ptr 1 0)),(8,(eI .i64 aDq)),(9,(eI .i64 vi))]) [some ⟨90,[(eI .i64 aT),(.row none 1 (bP.map (eI .u8))),(eI .i64 o_M),(eI .i64 o_N)]⟩,some ⟨28,vm.map (eI .u8)⟩]:=by
   intro aDq hr2
   unfold uB at hr2
   refine hK3 _ _ ?_
   refine zz ?_
   exact⟨aDq,aXm.wrap (vi+1),hr2,(zG [0,1])⟩
  refine aXn<|aXl ?_
  obtain⟨d5,h_2,hr2⟩:=aD hr2
  obtain⟨x28,h_3,hr2⟩:=aD hr2
  obtain⟨q,h_4,hr2⟩:=aD hr2
  obtain⟨eG,h_5,hr2⟩:=aD hr2
  refine aXx mixed [100] [] [[0,1,2,3,4,5,6,7,8,9,10,11,12,13,14,15,16,17]] ?_
  refine zz ?_
  refine xu (aER h_5) ?_
  refine zz ?_
  refine aXl ?_
  refine zz ?_
  refine zk hr2 rfl (fun h7 hr2=> ?_) (fun h7 hr2=> ?_)
  ·refine zz ?_
   obtain rfl:=sj hr2
   obtain rfl:=sj hr
   exact kG Tryz.results101 []
  refine zz ?_
  refine zk hr2 rfl (fun h8 hr2=> ?_) (fun h8 hr2=> ?_)
  ·refine zz ?_
   exact hG3 _ _ _ _ (zG [0,1]) (J3 (aXm.wrap (eC+1)) hr2)
  refine zz ?_
  exact hG3 _ _ _ _ (zG [0,1]) (J3 eC hr2)
 refine zz ?_
 obtain rfl:=sj hr2
 refine zz ?_
 exact hG1 _ _ _ _ (zG [0]) (J1 eC hr)
theorem aJj {N:Nat}{b:List Int}{r:Int×Int}(hr:yA N b=some r):
  Vm.Fn Tryz.prog 121 [] [(.row none 1 (b.map (eI .u8)))] (.tup [(eI .u32 r.1),(eI .i64 r.2)]) []:=by
 refine zf Tryz.func121 Tryz.ntmps121 ?_
 unfold yA at hr
 refine zz ?_
 refine aXl ?_
 refine aXo fun K1 hK1 hG1=> ?_
 have J1: ∀(bV:Bool),l9 N b bV=some r→K1 (aI 40 [(0,(.row none 1 (b.map (eI .u8)))),(22,(eB bV))]) []:=by
  intro bV hr
  unfold l9 at hr
  refine hK1 _ _ ?_
  refine zk hr rfl (fun h1 hr=> ?_) (fun h1 hr=> ?_)
  ·refine zz ?_
   obtain rfl:=sj hr
   exact kG Tryz.results121 []
  refine zz ?_
  refine aXo fun K2 hK2 hG2=> ?_
  have J2: ∀(vn:Int),aBH N vn=some r→K2 (aI 40 [(4,(eI .u32 vn))]) []:=by
   intro vn hr
   unfold aBH at hr
   refine hK2 _ _ ?_
   refine zz ?_
   obtain rfl:=sj hr
   exact kG Tryz.results121 []
  obtain⟨wL,hL3,hr⟩:=aD hr
  refine zz ?_
  refine aXn<|aXs (fun m s h=> ∃(eC x25:Int),mN N b m eC x25=some wL∧Ghost 0 s h (aI 40 [(0,(.row none 1 (b.map (eI .u8)))),(4,(eI .u32 eC)),(24,(eI .i64 (b.length:Int))),(25,(eI .i64 x25))]) []) (n:=N) ⟨0,0,hL3,(zG [])⟩ (by rintro s h ⟨_,_,h0,_⟩;simp[mN]at h0) ?_
  rintro m3 s h ⟨eC,x25,hr3,hg⟩
  refine aXr hg ?_
  clear hg hL3
  rw[mN]at hr3
  refine zz ?_
  refine aXl ?_
  refine zk hr3 rfl (fun h2 hr3=> ?_) (fun h2 hr3=> ?_)
  ·refine zz ?_
   refine aXl<|aXn ?_
   obtain⟨eG,h_3,hr3⟩:=aD hr3
   obtain⟨x36,h_4,hr3⟩:=aD hr3
   refine zz ?_
   exact⟨bits .or .u32 eC x36,aXm.wrap (x25+1),hr3,(zG [])⟩
  refine zz ?_
  obtain rfl:=sj hr3
  refine zz ?_
  exact hG2 _ _ _ _ (zG []) (J2 eC hr)
 rcases aXk (decide (4<(b.length:Int)))with h5|h5
 ·replace hr:=cQ hr h5
  refine xr ?_
  refine zz ?_
  exact hG1 _ _ _ _ (zG []) (J1 true hr)
 replace hr:=cR hr h5
 rcases aXk (decide (0<(b.length:Int)))with h6|h6
 ·replace hr:=cQ hr h6
  obtain⟨x18,h_7,hr⟩:=aD hr
  refine xr ?_
  refine zz ?_
  exact hG1 _ _ _ _ (zG []) (J1 (x18 == 0) hr)
 replace hr:=cR hr h6
 refine xr ?_
 refine zz ?_
 exact hG1 _ _ _ _ (zG []) (J1 false hr)
theorem aEO {N:Nat}{gM:List Int}{now r:Int}(hr:uY N gM now=some r):
  Vm.Fn Tryz.prog 102 [] [(.row none 1 (gM.map (eI .u8))),(eI .i64 now)] (eI .i64 r) []:=by
 refine zf Tryz.func102 Tryz.ntmps102 ?_
 unfold uY at hr
 obtain⟨x9,h_1,hr⟩:=aD hr
 refine zz ?_
 refine xp (aJj h_1) ?_
 refine zz ?_
 refine aXl ?_
 refine zz ?_
 refine zk hr rfl (fun h2 hr=> ?_) (fun h2 hr=> ?_)
 ·refine zz ?_
  obtain rfl:=sj hr
  exact bE Tryz.results102 []
 refine zz ?_
 refine aXl ?_
 refine zz ?_
 refine zk hr rfl (fun h3 hr=> ?_) (fun h3 hr=> ?_)
 ·refine zz ?_
  obtain rfl:=sj hr
  exact bE Tryz.results102 []
 refine zz ?_
 obtain rfl:=sj hr
 exact bE Tryz.results102 []
theorem aLy {N:Nat}{aT:Int}{bP:List Int}{o_M o_N:Int}{vs:List (List Int)}{bF:List Int}{bN cJ:Int}{r:(List (List Int))×Int}(hr:aBx N aT bP o_M o_N vs bF bN cJ=some r):
  Vm.Fn Tryz.prog 75 [] [(.agg [(eI .i64 aT),(.row none 1 (bP.map (eI .u8))),(eI .i64 o_M),(eI .i64 o_N)]),(.row none 1 (vs.map (eL 1 (eI .u8)))),(.agg (bG (eI .u8) bF [(eI .i64 bN),(eI .i64 cJ)]))] (.tup [(.row none 1 (r.1.map (eL 1 (eI .u8)))),(eI .i64 r.2)]) []:=by
 refine zf Tryz.func75 Tryz.ntmps75 ?_
 unfold aBx at hr
 refine zz ?_
 refine aXl ?_
 refine zz ?_
 refine aXn ?_
 refine zz ?_
 refine zk hr rfl (fun h1 hr=> ?_) (fun h1 hr=> ?_)
 ·obtain⟨x25,h_2,hr⟩:=aD hr
  obtain⟨x26,h_3,hr⟩:=aD hr
  refine zz ?_
  refine jI (aAR h_2) [] [2] ?_
  refine aXJ (zv 3) ?_
  refine zc (aBW h_3) [] ?_
  refine zz ?_
  obtain rfl:=sj hr
  exact oL Tryz.results75 bJ bJ (aXw (aXz (fr':=[(0,(.tup [(.row none 1 (x26.1.map (eL 1 (eI .u8)))),(eI .i64 x26.2)]))]) (h':=[some ⟨90,[(eI .i64 aT),(.row none 1 (bP.map (eI .u8))),(eI .i64 o_M),(eI .i64 o_N)]⟩,some ⟨54,(bG (eI .u8) bF [(eI .i64 bN),(eI .i64 cJ)])⟩,some ⟨31,[bP].map (eL 1 (eI .u8))⟩,none,none]) (aXD rfl (aXE (aXt (aXF (aQ rfl) rfl rfl (gO (fun _=>rfl)) (by first|rfl|(simp only[aXv,b7,b6];done))) (aXt (aXB (aQ rfl)) aXC))) aXH) (aXu (aXq (aQ rfl)) rfl (aXu (aXq (aQ rfl)) rfl (aXu (aXq (aQ rfl)) (all_map (fun _=>rfl) _) (aXA (aXA aXI)))))) (zG []))
 refine zz ?_
 refine zk hr rfl (fun h4 hr=> ?_) (fun h4 hr=> ?_)
 ·obtain⟨x35,h_5,hr⟩:=aD hr
  obtain⟨x37,h_6,hr⟩:=aD hr
  refine zz ?_
  refine zc (aBW h_6) [] ?_
  refine zz ?_
  obtain rfl:=sj hr
  exact oL Tryz.results75 bJ bJ (aXw (aXz (fr':=[(0,(.tup [(.row none 1 (x37.1.map (eL 1 (eI .u8)))),(eI .i64 x37.2)]))]) (h':=[some ⟨90,[(eI .i64 aT),(.row none 1 (bP.map (eI .u8))),(eI .i64 o_M),(eI .i64 o_N)]⟩,some ⟨54,(bG (eI .u8) bF [(eI .i64 bN),(eI .i64 cJ)])⟩,none]) (aXD rfl (aXE (aXt (aXF (aQ rfl) rfl rfl (gO (fun _=>rfl)) (by first|rfl|(simp only[aXv,b7,b6];done))) (aXt (aXB (aQ rfl)) aXC))) aXH) (aXu (aXq (aQ rfl)) rfl (aXu (aXq (aQ rfl)) rfl (aXA aXI)))) (zG []))
 refine zz ?_
 refine zk hr rfl (fun h7 hr=> ?_) (fun h7 hr=> ?_)
 ·obtain⟨x45,h_8,hr⟩:=aD hr
  refine zz ?_
  obtain rfl:=sj hr
  exact kG Tryz.results75 []
 refine zz ?_
 refine zk hr rfl (fun h9 hr=> ?_) (fun h9 hr=> ?_)
 ·refine aXl ?_
  obtain⟨x53,h_10,hr⟩:=aD hr
  obtain⟨x57,h_11,hr⟩:=aD hr
  obtain⟨x62,h_12,hr⟩:=aD hr
  obtain⟨x65,h_13,hr⟩:=aD hr
  refine aXx mixed [] [] [[0,1,2,3,4,5,6,7,8,9,10,11,12,13,14,15,16,17,18,19]] ?_
  refine zz ?_
  obtain rfl:=sj hr
  exact oL Tryz.results75 bJ bJ (aXw (aXz (fr':=[(0,(.tup [(.row none 1 (x65.map (eL 1 (eI .u8)))),(eI .i64 0)]))]) (h':=[some ⟨90,[(eI .i64 aT),(.row none 1 (bP.map (eI .u8))),(eI .i64 o_M),(eI .i64 o_N)]⟩,some ⟨54,(bG (eI .u8) bF [(eI .i64 bN),(eI .i64 cJ)])⟩,some ⟨31,[x57,x62].map (eL 1 (eI .u8))⟩,none]) (aXD rfl (aXE (aXt (aXF (aQ rfl) rfl rfl (gO (fun _=>rfl)) (by first|rfl|(simp only[aXv,b7,b6];done))) (aXt (aXB (aQ rfl)) aXC))) aXH) (aXu (aXq (aQ rfl)) rfl (aXu (aXq (aQ rfl)) rfl (aXu (aXq (aQ rfl)) (all_map (fun _=>rfl) _) (aXA aXI))))) (zG []))
 refine zz ?_
 refine zk hr rfl (fun h14 hr=> ?_) (fun h14 hr=> ?_)
 ·refine aXl ?_
  obtain⟨x73,h_15,hr⟩:=aD hr
  obtain⟨x77,h_16,hr⟩:=aD hr
  obtain⟨x82,h_17,hr⟩:=aD hr
  obtain⟨x84,h_18,hr⟩:=aD hr
  obtain⟨x85,h_20,hr⟩:=aD hr
  obtain⟨x87,h_22,hr⟩:=aD hr
  refine aXx mixed [97,98] [] [[0,1,2,3,4,5,6,7,8,9,10,11,12,13,14,15,16,17,18,19,20,21]] ?_
  refine zz ?_
  refine xu (aLz h_18)<|xu (zT h_20) ?_
  refine zz ?_
  obtain rfl:=sj hr
  exact oL Tryz.results75 bJ bJ (aXw (aXz (fr':=[(0,(.tup [(.row none 1 (x87.map (eL 1 (eI .u8)))),(eI .i64 0)]))]) (h':=[some ⟨90,[(eI .i64 aT),(.row none 1 (bP.map (eI .u8))),(eI .i64 o_M),(eI .i64 o_N)]⟩,some ⟨54,(bG (eI .u8) bF [(eI .i64 bN),(eI .i64 cJ)])⟩,some ⟨31,[x85].map (eL 1 (eI .u8))⟩,none]) (aXD rfl (aXE (aXt (aXF (aQ rfl) rfl rfl (gO (fun _=>rfl)) (by first|rfl|(simp only[aXv,b7,b6];done))) (aXt (aXB (aQ rfl)) aXC))) aXH) (aXu (aXq (aQ rfl)) rfl (aXu (aXq (aQ rfl)) rfl (aXu (aXq (aQ rfl)) (all_map (fun _=>rfl) _) (aXA aXI))))) (zG []))
 refine zz ?_
 refine zk hr rfl (fun h23 hr=> ?_) (fun h23 hr=> ?_)
 ·refine aXl ?_
  obtain⟨x95,h_24,hr⟩:=aD hr
  obtain⟨x99,h_25,hr⟩:=aD hr
  obtain⟨aUA,h_26,hr⟩:=aD hr
  obtain⟨aH4,h_28,hr⟩:=aD hr
  obtain⟨aRa,h_30,hr⟩:=aD hr
  refine aXx mixed [42,97] [] [[0,1,2,3,4,5,6,7,8,9,10,11,12,13,14,15,16,17]] ?_
  refine zz ?_
  refine xu (aAM h_26) ?_
  refine zz ?_
  refine xu (zT h_28) ?_
  refine zz ?_
  obtain rfl:=sj hr
  exact oL Tryz.results75 bJ bJ (aXw (aXz (fr':=[(0,(.tup [(.row none 1 (aRa.map (eL 1 (eI .u8)))),(eI .i64 0)]))]) (h':=[some ⟨90,[(eI .i64 aT),(.row none 1 (bP.map (eI .u8))),(eI .i64 o_M),(eI .i64 o_N)]⟩,some ⟨54,(bG (eI .u8) bF [(eI .i64 bN),(eI .i64 cJ)])⟩,some ⟨31,[aH4].map (eL 1 (eI .u8))⟩,none]) (aXD rfl (aXE (aXt (aXF (aQ rfl) rfl rfl (gO (fun _=>rfl)) (by first|rfl|(simp only[aXv,b7,b6];done))) (aXt (aXB (aQ rfl)) aXC))) aXH) (aXu (aXq (aQ rfl)) rfl (aXu (aXq (aQ rfl)) rfl (aXu (aXq (aQ rfl)) (all_map (fun _=>rfl) _) (aXA aXI))))) (zG []))
 refine zz ?_
 refine zk hr rfl (fun h31 hr=> ?_) (fun h31 hr=> ?_)
 ·refine aXl ?_
  obtain⟨aMW,h_32,hr⟩:=aD hr
  obtain⟨aHi,h_33,hr⟩:=aD hr
  refine zz ?_
  refine xp (aAM h_33) ?_
  refine zz ?_
  refine zk hr rfl (fun h34 hr=> ?_) (fun h34 hr=> ?_)
  ·refine zz ?_
   obtain rfl:=sj hr
   exact oL Tryz.results75 bJ bJ (lU [])
  obtain⟨aDj,h_35,hr⟩:=aD hr
  refine zz ?_
  obtain rfl:=sj hr
  exact kG Tryz.results75 []
 refine zz ?_
 refine zk hr rfl (fun h36 hr=> ?_) (fun h36 hr=> ?_)
 ·obtain⟨aKG,h_37,hr⟩:=aD hr
  obtain⟨aHk,h_38,hr⟩:=aD hr
  obtain⟨q,h_39,hr⟩:=aD hr
  refine zz ?_
  refine xp (uW h_38) ?_
  refine zz ?_
  refine aXl<|aXr (zv 2) ?_
  obtain⟨aUX,h_40,hr⟩:=aD hr
  obtain⟨aRH,h_41,hr⟩:=aD hr
  refine aXx mixed [] [] [[0,1,2,3,4,5,6,7,8,9,10]] ?_
  refine zz ?_
  obtain rfl:=sj hr
  exact oL Tryz.results75 bJ bJ (aXw (aXz (fr':=[(0,(.tup [(.row none 1 (aRH.map (eL 1 (eI .u8)))),(eI .i64 0)]))]) (h':=[some ⟨90,[(eI .i64 aT),(.row none 1 (bP.map (eI .u8))),(eI .i64 o_M),(eI .i64 o_N)]⟩,some ⟨54,(bG (eI .u8) bF [(eI .i64 bN),(eI .i64 cJ)])⟩,none,some ⟨31,[aHk].map (eL 1 (eI .u8))⟩,none]) (aXD rfl (aXE (aXt (aXF (aQ rfl) rfl rfl (gO (fun _=>rfl)) (by first|rfl|(simp only[aXv,b7,b6];done))) (aXt (aXB (aQ rfl)) aXC))) aXH) (aXu (aXq (aQ rfl)) rfl (aXu (aXq (aQ rfl)) rfl (aXA (aXu (aXq (aQ rfl)) (all_map (fun _=>rfl) _) (aXA aXI)))))) (zG []))
 refine zz ?_
 refine zk hr rfl (fun h42 hr=> ?_) (fun h42 hr=> ?_)
 ·obtain⟨aUS,h_43,hr⟩:=aD hr
  obtain⟨aUD,h_44,hr⟩:=aD hr
  obtain⟨aG5,h_45,hr⟩:=aD hr
  refine zz ?_
  refine zc (aDp h_44) [] ?_
  refine aXJ (zv 2) ?_
  refine zc (aBW h_45) [] ?_
  refine zz ?_
  obtain rfl:=sj hr
  exact oL Tryz.results75 bJ bJ (aXw (aXz (fr':=[(0,(.tup [(.row none 1 (aG5.1.map (eL 1 (eI .u8)))),(eI .i64 aG5.2)]))]) (h':=[some ⟨90,[(eI .i64 aT),(.row none 1 (bP.map (eI .u8))),(eI .i64 o_M),(eI .i64 o_N)]⟩,some ⟨54,(bG (eI .u8) bF [(eI .i64 bN),(eI .i64 cJ)])⟩,none,none]) (aXD rfl (aXE (aXt (aXF (aQ rfl) rfl rfl (gO (fun _=>rfl)) (by first|rfl|(simp only[aXv,b7,b6];done))) (aXt (aXB (aQ rfl)) aXC))) aXH) (aXu (aXq (aQ rfl)) rfl (aXu (aXq (aQ rfl)) rfl (aXA (aXA aXI))))) (zG []))
 refine zz ?_
 refine zk hr rfl (fun h46 hr=> ?_) (fun h46 hr=> ?_)
 ·refine aXl ?_
  obtain⟨aUK,h_47,hr⟩:=aD hr
  obtain⟨aUZ,h_48,hr⟩:=aD hr
  obtain⟨q_1,h_49,hr⟩:=aD hr
  obtain⟨aPl,h_50,hr⟩:=aD hr
  refine aXx mixed [100] [] [[0,1,2,3,4,5,6,7,8,9,10,11,12,13,14,15,16,17]] ?_
  refine zz ?_
  refine xu (aER h_50) ?_
  refine zz ?_
  refine aXl ?_
  obtain⟨aUE,h_52,hr⟩:=aD hr
  obtain⟨aQ2,h_53,hr⟩:=aD hr
  obtain⟨aRr,h_55,hr⟩:=aD hr
  refine aXx mixed [97] [] [[0,1,2,3,4,5,6,7,8,9,10,11,12]] ?_
  refine zz ?_
  refine xu (zT h_53) ?_
  refine zz ?_
  obtain rfl:=sj hr
  exact oL Tryz.results75 bJ bJ (aXw (aXz (fr':=[(0,(.tup [(.row none 1 (aRr.map (eL 1 (eI .u8)))),(eI .i64 aPl.2)]))]) (h':=[some ⟨90,[(eI .i64 aT),(.row none 1 (bP.map (eI .u8))),(eI .i64 o_M),(eI .i64 o_N)]⟩,some ⟨54,(bG (eI .u8) bF [(eI .i64 bN),(eI .i64 cJ)])⟩,some ⟨31,[aQ2].map (eL 1 (eI .u8))⟩,none]) (aXD rfl (aXE (aXt (aXF (aQ rfl) rfl rfl (gO (fun _=>rfl)) (by first|rfl|(simp only[aXv,b7,b6];done))) (aXt (aXB (aQ rfl)) aXC))) aXH) (aXu (aXq (aQ rfl)) rfl (aXu (aXq (aQ rfl)) rfl (aXu (aXq (aQ rfl)) (all_map (fun _=>rfl) _) (aXA aXI))))) (zG []))
 refine zz ?_
 refine zk hr rfl (fun h56 hr=> ?_) (fun h56 hr=> ?_)
 ·refine zz ?_
  refine aXl ?_
  obtain⟨aUh,h_57,hr⟩:=aD hr
  obtain⟨q_2,h_58,hr⟩:=aD hr
  obtain⟨aOW,h_59,hr⟩:=aD hr
  refine aXx mixed [101] [] [[0,1,2,3,4,5,6,7,8,9,10,11]] ?_
  refine zz ?_
  refine xu (aJX h_59) ?_
  refine zz ?_
  refine aXl ?_
  obtain⟨aVg,h_61,hr⟩:=aD hr
  obtain⟨aRM,h_62,hr⟩:=aD hr
  obtain⟨aQN,h_64,hr⟩:=aD hr
  refine aXx mixed [97] [] [[0,1,2,3,4,5,6,7,8,9,10]] ?_
  refine zz ?_
  refine xu (zT h_62) ?_
  refine zz ?_
  obtain rfl:=sj hr
  exact oL Tryz.results75 bJ bJ (aXw (aXz (fr':=[(0,(.tup [(.row none 1 (aQN.map (eL 1 (eI .u8)))),(eI .i64 aOW.2)]))]) (h':=[some ⟨90,[(eI .i64 aT),(.row none 1 (bP.map (eI .u8))),(eI .i64 o_M),(eI .i64 o_N)]⟩,some ⟨54,(bG (eI .u8) bF [(eI .i64 bN),(eI .i64 cJ)])⟩,some ⟨31,[aRM].map (eL 1 (eI .u8))⟩,none]) (aXD rfl (aXE (aXt (aXF (aQ rfl) rfl rfl (gO (fun _=>rfl)) (by first|rfl|(simp only[aXv,b7,b6];done))) (aXt (aXB (aQ rfl)) aXC))) aXH) (aXu (aXq (aQ rfl)) rfl (aXu (aXq (aQ rfl)) rfl (aXu (aXq (aQ rfl)) (all_map (fun _=>rfl) _) (aXA aXI))))) (zG []))
 refine zz ?_
 refine zk hr rfl (fun h65 hr=> ?_) (fun h65 hr=> ?_)
 ·refine aXl ?_
  obtain⟨aUC,h_66,hr⟩:=aD hr
  obtain⟨aUp,h_67,hr⟩:=aD hr
  refine aXx mixed [102] [] [[0,1,2,3,4,5,6,7,8,9,10]] ?_
  refine zz ?_
  refine xu (aEO h_67) ?_
  refine zz ?_
  obtain rfl:=sj hr
  exact kG Tryz.results75 []
 refine zz ?_
 refine zk hr rfl (fun h69 hr=> ?_) (fun h69 hr=> ?_)
 ·refine aXl ?_
  obtain⟨aUn,h_70,hr⟩:=aD hr
  obtain⟨aUd,h_71,hr⟩:=aD hr
  refine aXx mixed [102] [] [[0,1,2,3,4,5,6,7,8,9,10]] ?_
  refine zz ?_
  refine xu (aEO h_71) ?_
  refine zz ?_
  obtain rfl:=sj hr
  exact kG Tryz.results75 []
 refine zz ?_
 obtain rfl:=sj hr
 exact oL Tryz.results75 bJ bJ (lU [])
theorem aL1 {N:Nat}{b:List Int}{stack:List (List Int)}{bF:List Int}{bN cJ:Int}{r:(List (List Int))×Int×Int}(hr:aDa N b stack bF bN cJ=some r):
  Vm.Fn Tryz.prog 41 [] [(.row none 1 (b.map (eI .u8))),(.row none 1 (stack.map (eL 1 (eI .u8)))),(.agg (bG (eI .u8) bF [(eI .i64 bN),(eI .i64 cJ)]))] (.tup [(.row none 1 (r.1.map (eL 1 (eI .u8)))),(eI .i64 r.2.1),(eI .i64 r.2.2)]) []:=by
 refine zf Tryz.func41 Tryz.ntmps41 ?_
 unfold aDa at hr
 obtain⟨bT,h_1,hr⟩:=aD hr
 refine zz ?_
 refine zc (aJ7 h_1) [] ?_
 refine zz ?_
 refine aXl ?_
 refine zz ?_
 refine zk hr rfl (fun h2 hr=> ?_) (fun h2 hr=> ?_)
 ·refine zz ?_
  obtain rfl:=sj hr
  exact zF Tryz.results41 bJ bJ bJ (lU [])
 refine zz ?_
 refine aXl ?_
 obtain⟨x27,h_3,hr⟩:=aD hr
 refine zz ?_
 refine jI (aJK h_3) [] [1] ?_
 refine zz ?_
 refine zk hr rfl (fun h4 hr=> ?_) (fun h4 hr=> ?_)
 ·refine zz ?_
  obtain rfl:=sj hr
  exact zF Tryz.results41 bJ bJ bJ (lU [])
 refine zz ?_
 refine aXl ?_
 obtain⟨jL,h_5,hr⟩:=aD hr
 refine zz ?_
 refine xp (aLF h_5) ?_
 refine zz ?_
 refine zk hr rfl (fun h6 hr=> ?_) (fun h6 hr=> ?_)
 ·refine zz ?_
  obtain rfl:=sj hr
  exact zF Tryz.results41 bJ bJ bJ (lU [])
 obtain⟨lB,h_7,hr⟩:=aD hr
 refine zz ?_
 refine zc (aI8 h_7) [] ?_
 refine zz ?_
 refine aXo fun K1 hK1 hG1=> ?_
 have J1: ∀(vs:List (List Int))(cost:Int),aD9 N vs cost=some r→K1 (aI 134 [(11,(.row none 1 (vs.map (eL 1 (eI .u8))))),(12,(eI .i64 cost))]) []:=by
  intro vs cost hr
  unfold aD9 at hr
  refine hK1 _ _ ?_
  refine zz ?_
  obtain rfl:=sj hr
  exact zd3 Tryz.results41 []
 refine zz ?_
 refine aXr (zv 2) ?_
 obtain⟨bL,hL2,hr⟩:=aD hr
 refine aXn<|aXs (fun m s h=> ∃(jV:List (List Int))(k4 x35:Int)(l1:List bC),dZ N bF bN cJ bT m jV k4 x35 l1=some bL∧Ghost 0 s h (aI 134 [(5,(.ptr 0 0)),(11,(.row none 1 (jV.map (eL 1 (eI .u8))))),(12,(eI .i64 k4)),(13,(.sl 1 0 l1.length 2 true)),(33,(.sl 2 0 bT.1.length 4 true)),(34,(eI .i64 (bT.1.length:Int))),(35,(eI .i64 x35))]) [some ⟨54,(bG (eI .u8) bF [(eI .i64 bN),(eI .i64 cJ)])⟩,some ⟨103,l1.flatMap bR⟩,some ⟨90,bT.1.flatMap cO⟩]) (n:=N) ⟨lB,0,0,[],hL2,(zW 103 [0,3,1])⟩ (by rintro s h ⟨_,_,_,_,h0,_⟩;simp[dZ]at h0) ?_
 rintro m2 s h ⟨jV,k4,x35,l1,hr2,hg⟩
 refine aXr hg ?_
 clear hg hL2
 rw[dZ]at hr2
 refine zz ?_
 refine aXl ?_
 refine zk hr2 rfl (fun h8 hr2=> ?_) (fun h8 hr2=> ?_)
 ·refine zz ?_
  refine aXo fun K3 hK3 hG3=> ?_
  have J3: ∀(aKI:List (List Int))(aFr:Int)(cS:List bC),iM N bF bN cJ bT x35 (dZ N bF bN cJ bT m2) aKI aFr cS=some bL→K3 (aI 134 [(5,(.ptr 0 0)),(11,(.row none 1 (aKI.map (eL 1 (eI .u8))))),(12,(eI .i64 aFr)),(13,(.sl 1 0 cS.length 2 true)),(33,(.sl 2 0 bT.1.length 4 true)),(34,(eI .i64 (bT.1.length:Int))),(35,(eI .i64 x35))]) [some ⟨54,(bG (eI .u8) bF [(eI .i64 bN),(eI .i64 cJ)])⟩,some ⟨103,cS.flatMap bR⟩,some ⟨90,bT.1.flatMap cO⟩]:=by
   intro aKI aFr cS hr2
   unfold iM at hr2
   refine hK3 _ _ ?_
   refine zz ?_
   exact⟨aKI,aFr,aXm.wrap (x35+1),cS,hr2,(zG [0,1,2])⟩
  refine aXn ?_
  obtain⟨x37,h_9,hr2⟩:=aD hr2
  refine zz ?_
  refine xw (v:=(.agg [(eI .i64 x37.Code),(.row none 1 (x37.Data.map (eI .u8))),(eI .i64 x37.M),(eI .i64 x37.N)])) (cA rfl (aOB (C:=cO) (K:=4) (fun _=>rfl) rfl h_9 (aDI (ds:=[(eI .i64 x37.Code),(.row none 1 (x37.Data.map (eI .u8))),(eI .i64 x37.M),(eI .i64 x37.N)]) aCr rfl zl rfl))) ?_
  obtain⟨x40,h_10,hr2⟩:=aD hr2
  refine zz ?_
  refine jI (aJM h_10) [] [1] ?_
  refine zz ?_
  refine aXo fun K4 hK4 hG4=> ?_
  have J4: ∀(iP:Bool),uU N bF bN cJ bT jV k4 x35 l1 x37 (dZ N bF bN cJ bT m2) iP=some bL→K4 (aI 134 [(5,(.ptr 0 0)),(11,(.row none 1 (jV.map (eL 1 (eI .u8))))),(12,(eI .i64 k4)),(13,(.sl 1 0 l1.length 2 true)),(15,(.ptr 2 0)),(16,(eB iP)),(33,(.sl 3 0 bT.1.length 4 true)),(34,(eI .i64 (bT.1.length:Int))),(35,(eI .i64 x35))]) [some ⟨54,(bG (eI .u8) bF [(eI .i64 bN),(eI .i64 cJ)])⟩,some ⟨103,l1.flatMap bR⟩,some ⟨90,[(eI .i64 x37.Code),(.row none 1 (x37.Data.map (eI .u8))),(eI .i64 x37.M),(eI .i64 x37.N)]⟩,some ⟨90,bT.1.flatMap cO⟩]:=by
   intro iP hr2
   unfold uU at hr2
   refine hK4 _ _ ?_
   refine aXo fun K5 hK5 hG5=> ?_
   have J5: ∀(mP:Int),uP N bF bN cJ bT jV x35 l1 x37 iP (dZ N bF bN cJ bT m2) mP=some bL→K5 (aI 134 [(5,(.ptr 0 0)),(11,(.row none 1 (jV.map (eL 1 (eI .u8))))),(12,(eI .i64 mP)),(13,(.sl 1 0 l1.length 2 true)),(15,(.ptr 2 0)),(16,(eB iP)),(33,(.sl 3 0 bT.1.length 4 true)),(34,(eI .i64 (bT.1.length:Int))),(35,(eI .i64 x35))]) [some ⟨54,(bG (eI .u8) bF [(eI .i64 bN),(eI .i64 cJ)])⟩,some ⟨103,l1.flatMap bR⟩,some ⟨90,[(eI .i64 x37.Code),(.row none 1 (x37.Data.map (eI .u8))),(eI .i64 x37.M),(eI .i64 x37.N)]⟩,some ⟨90,bT.1.flatMap cO⟩]:=by
    intro mP hr2
    unfold uP at hr2
    refine hK5 _ _<|aXn ?_
    refine zz ?_
    refine zk hr2 rfl (fun h11 hr2=> ?_) (fun h11 hr2=> ?_)
    ·refine zz ?_
     refine aXo fun K6 hK6 hG6=> ?_
     have J6: ∀(aKK:List (List Int))(c2:Bool),uX N bF bN cJ bT x35 l1 iP mP (dZ N bF bN cJ bT m2) aKK c2=some bL→K6 (aI 134 [(5,(.ptr 0 0)),(11,(.row none 1 (aKK.map (eL 1 (eI .u8))))),(12,(eI .i64 mP)),(13,(.sl 1 0 l1.length 2 true)),(17,(.ptr 2 0)),(33,(.sl 3 0 bT.1.length 4 true)),(34,(eI .i64 (bT.1.length:Int))),(35,(eI .i64 x35))]) [some ⟨54,(bG (eI .u8) bF [(eI .i64 bN),(eI .i64 cJ)])⟩,some ⟨103,l1.flatMap bR⟩,some ⟨103,[(eB iP),(eB c2)]⟩,some ⟨90,bT.1.flatMap cO⟩]:=by
      intro aKK c2 hr2
      unfold uX at hr2
      refine hK6 _ _ ?_
      obtain⟨x91,h_12,hr2⟩:=aD hr2
      refine zz ?_
      refine xw (v:=(.sl 4 0 1 2 true)) (h':=[some ⟨54,(bG (eI .u8) bF [(eI .i64 bN),(eI .i64 cJ)])⟩,some ⟨103,l1.flatMap bR⟩,some ⟨103,[(eB iP),(eB c2)]⟩,some ⟨90,bT.1.flatMap cO⟩,some ⟨103,[(bC.mk iP c2)].flatMap bR⟩]) (pT rfl (aDM (C:=bR) (xs:=[(bC.mk iP c2)]) (K:=2) (fun _=>rfl) (fun _=>rfl) aPa aFI ⟨zl,zl,zl⟩ rfl rfl rfl rfl rfl rfl)) ?_
      refine zz ?_
      exact hG3 _ _ _ _ (zG [0,5,3]) (J3 aKK mP x91 hr2)
     refine zz ?_
     refine zk hr2 rfl (fun h13 hr2=> ?_) (fun h13 hr2=> ?_)
     ·obtain⟨x79,h_14,hr2⟩:=aD hr2
      obtain⟨x81,h_15,hr2⟩:=aD hr2
      refine zz ?_
      refine xp (aAM h_15) ?_
      obtain⟨x87,h_16,hr2⟩:=aD hr2
      refine zz ?_
      exact hG6 _ _ _ _ (zG [0,1,4,3]) (J6 x87 x81 hr2)
     refine zz ?_
     exact hG6 _ _ _ _ (zG [0,1,4,3]) (J6 jV false hr2)
    refine zz ?_
    refine zk hr2 rfl (fun h17 hr2=> ?_) (fun h17 hr2=> ?_)
    ·obtain⟨aDo,h_18,hr2⟩:=aD hr2
     refine zz ?_
     refine xw (v:=(eB aDo.done)) (cA rfl (aM9 (C:=bR) (K:=2) (off:=1) (fun _=>rfl) rfl h_18 zl (qG ti4 rfl rfl))) ?_
     refine zz ?_
     refine xy (h':=[some ⟨54,(bG (eI .u8) bF [(eI .i64 bN),(eI .i64 cJ)])⟩,some ⟨103,(l1.set (aXy (aXm.wrap ((l1.length:Int)-1))) (bC.mk aDo.reached (!aDo.done))).flatMap bR⟩,some ⟨90,[(eI .i64 x37.Code),(.row none 1 (x37.Data.map (eI .u8))),(eI .i64 x37.M),(eI .i64 x37.N)]⟩,some ⟨90,bT.1.flatMap cO⟩]) (bO rfl rfl (aQY (C:=bR) (K:=2) (off:=1) (fun _=>rfl) ti4 rfl h_18 rfl rfl zl rfl rfl)) ?_
     refine zz ?_
     exact hG3 _ _ _ _ (lU [0,1,3]) (J3 jV mP (l1.set (aXy (aXm.wrap ((l1.length:Int)-1))) (bC.mk aDo.reached (!aDo.done))) hr2)
    refine zz ?_
    refine zk hr2 rfl (fun h19 hr2=> ?_) (fun h19 hr2=> ?_)
    ·obtain⟨aDj,h_20,hr2⟩:=aD hr2
     refine zz ?_
     refine xw (v:=(.sl 1 0 aDj.length 2 true)) (cW rfl rfl rfl (aJo (l:=l1) rfl aPa aFI rfl rfl rfl h_20)) ?_
     refine aXJ (Ghost.cutF (t:=118) (C:=bR) (l:=l1) (K:=2) (h':=[some ⟨54,(bG (eI .u8) bF [(eI .i64 bN),(eI .i64 cJ)])⟩,some ⟨103,aDj.flatMap bR⟩,some ⟨90,[(eI .i64 x37.Code),(.row none 1 (x37.Data.map (eI .u8))),(eI .i64 x37.M),(eI .i64 x37.N)]⟩,some ⟨90,bT.1.flatMap cO⟩]) (fun _=>rfl) rfl rfl h_20 rfl) ?_
     refine zz ?_
     exact hG3 _ _ _ _ (zG [0,1,3]) (J3 jV mP aDj hr2)
    refine zz ?_
    refine zk hr2 rfl (fun h21 hr2=> ?_) (fun h21 hr2=> ?_)
    ·obtain⟨aMN,h_22,hr2⟩:=aD hr2
     refine zz ?_
     refine xp (aLy h_22) ?_
     refine zz ?_
     refine zk hr2 rfl (fun h23 hr2=> ?_) (fun h23 hr2=> ?_)
     ·refine zz ?_
      obtain rfl:=sj hr2
      obtain rfl:=sj hr
      exact zF Tryz.results41 bJ bJ bJ (lU [])
     refine zz ?_
     exact hG3 _ _ _ _ (zG [0,1,3]) (J3 aMN.1 mP l1 hr2)
    refine zz ?_
    exact hG3 _ _ _ _ (zG [0,1,3]) (J3 jV mP l1 hr2)
   refine zz ?_
   refine zk hr2 rfl (fun h24 hr2=> ?_) (fun h24 hr2=> ?_)
   ·refine aXl ?_
    obtain⟨x59,h_25,hr2⟩:=aD hr2
    refine zz ?_
    refine xp (aKi h_25) ?_
    refine zz ?_
    refine zk hr2 rfl (fun h26 hr2=> ?_) (fun h26 hr2=> ?_)
    ·refine zz ?_
     obtain rfl:=sj hr2
     obtain rfl:=sj hr
     exact zF Tryz.results41 bJ bJ bJ (lU [])
    obtain⟨x66,h_27,hr2⟩:=aD hr2
    refine zz ?_
    refine xp (aKg h_27) ?_
    refine zz ?_
    refine zk hr2 rfl (fun h28 hr2=> ?_) (fun h28 hr2=> ?_)
    ·refine zz ?_
     obtain rfl:=sj hr2
     obtain rfl:=sj hr
     exact zF Tryz.results41 bJ bJ bJ (lU [])
    refine zz ?_
    exact hG5 _ _ _ _ (zG [0,1,2,3]) (J5 (aXm.wrap (k4+x59)) hr2)
   refine zz ?_
   exact hG5 _ _ _ _ (zG [0,1,2,3]) (J5 k4 hr2)
  refine aXo fun K7 hK7 hG7=> ?_
  have J7: ∀(x48:Bool),rE N bF bN cJ bT jV k4 x35 l1 x37 x40 (dZ N bF bN cJ bT m2) x48=some bL→K7 (aI 134 [(5,(.ptr 0 0)),(11,(.row none 1 (jV.map (eL 1 (eI .u8))))),(12,(eI .i64 k4)),(13,(.sl 1 0 l1.length 2 true)),(15,(.ptr 2 0)),(16,(eB x40)),(33,(.sl 3 0 bT.1.length 4 true)),(34,(eI .i64 (bT.1.length:Int))),(35,(eI .i64 x35)),(48,(eB x48))]) [some ⟨54,(bG (eI .u8) bF [(eI .i64 bN),(eI .i64 cJ)])⟩,some ⟨103,l1.flatMap bR⟩,some ⟨90,[(eI .i64 x37.Code),(.row none 1 (x37.Data.map (eI .u8))),(eI .i64 x37.M),(eI .i64 x37.N)]⟩,some ⟨90,bT.1.flatMap cO⟩]:=by
   intro x48 hr2
   unfold rE at hr2
   refine hK7 _ _ ?_
   refine zk hr2 rfl (fun h29 hr2=> ?_) (fun h29 hr2=> ?_)
   ·obtain⟨x53,h_30,hr2⟩:=aD hr2
    refine zz ?_
    refine xw (v:=(eB x53.reached)) (cA rfl (aM9 (C:=bR) (K:=2) (off:=0) (fun _=>rfl) rfl h_30 zl (qG ti4 rfl rfl))) ?_
    refine zz ?_
    exact hG4 _ _ _ _ (zG [0,1,2,3]) (J4 x53.reached hr2)
   refine zz ?_
   exact hG4 _ _ _ _ (zG [0,1,2,3]) (J4 x40 hr2)
  rcases aXk (x37.Code == 15)with h31|h31
  ·replace hr2:=cQ hr2 h31
   refine xr ?_
   refine zz ?_
   exact hG7 _ _ _ _ (zG [0,1,3,2]) (J7 true hr2)
  replace hr2:=cR hr2 h31
  refine xr ?_
  refine zz ?_
  exact hG7 _ _ _ _ (zG [0,1,3,2]) (J7 (x37.Code == 16) hr2)
 refine zz ?_
 obtain rfl:=sj hr2
 refine zz ?_
 exact hG1 _ _ _ _ (zG []) (J1 jV k4 hr)
theorem aGF {N:Nat}{b:List Int}{bK:List (List Int)}{bF:List Int}{bN cJ r:Int}(hr:sM N b bK bF bN cJ=some r):
  Vm.Fn Tryz.prog 17 [] [(.row none 1 (b.map (eI .u8))),(.row none 1 (bK.map (eL 1 (eI .u8)))),(.agg (bG (eI .u8) bF [(eI .i64 bN),(eI .i64 cJ)]))] (eI .i64 r) []:=by
 refine zf Tryz.func17 Tryz.ntmps17 ?_
 unfold sM at hr
 obtain⟨bQ,h_1,hr⟩:=aD hr
 refine zz ?_
 refine xp (aL1 h_1) ?_
 refine zz ?_
 refine aXl<|aXn ?_
 refine zz ?_
 refine zk hr rfl (fun h2 hr=> ?_) (fun h2 hr=> ?_)
 ·refine zz ?_
  obtain rfl:=sj hr
  exact bE Tryz.results17 []
 refine zz ?_
 refine zk hr rfl (fun h3 hr=> ?_) (fun h3 hr=> ?_)
 ·refine zz ?_
  obtain rfl:=sj hr
  exact bE Tryz.results17 []
 obtain⟨x28,h_4,hr⟩:=aD hr
 obtain⟨jL,h_5,hr⟩:=aD hr
 refine zz ?_
 refine xp (aAM h_5) ?_
 refine zz ?_
 refine zk hr rfl (fun h6 hr=> ?_) (fun h6 hr=> ?_)
 ·refine zz ?_
  obtain rfl:=sj hr
  exact bE Tryz.results17 []
 refine zz ?_
 obtain rfl:=sj hr
 exact bE Tryz.results17 []
theorem aJ1 {N:Nat}{aC:Int}{aA:List aG}{aB:List aF}{aE vi:Int}{eY:List Int}{dD cL:Int}{b9:List Int}{cX:Int}{eQ:Bool}{bS r:Int}(hr:aAn N aC aA aB aE vi eY dD cL b9 cX eQ bS=some r):
  Vm.Fn Tryz.prog 8 [] [(.agg [(eI .u32 aC),(.row none 35 (aA.map aL)),(.row none 2 (aB.map aM)),(eI .u32 aE)]),(eI .i64 vi),(.agg (bG (eI .u8) eY [(eI .u32 dD),(eI .i64 cL),(.row none 1 (b9.map (eI .u8))),(eI .i64 cX),(eB eQ)])),(eI .i64 bS)] (eI .i64 r) []:=by
 refine zf Tryz.func8 Tryz.ntmps8 ?_
 unfold aAn at hr
 obtain⟨x16,h_1,hr⟩:=aD hr
 obtain⟨q,h_2,hr⟩:=aD hr
 refine zz ?_
 refine xp (aIb h_1) ?_
 refine zz ?_
 refine aXl ?_
 refine zz ?_
 refine zk hr rfl (fun h3 hr=> ?_) (fun h3 hr=> ?_)
 ·refine zz ?_
  obtain rfl:=sj hr
  exact bE Tryz.results8 []
 refine zz ?_
 refine aXl<|aXl ?_
 obtain⟨x25,h_4,hr⟩:=aD hr
 refine aXx mixed [] [] [[0,1,2,3,4,5,6,7,8]] ?_
 refine zz ?_
 refine xw (v:=(eB (!(lS x25.Prev.Tx eY ((x25.Prev.Index == dD)&&true))))) (tD rfl rfl (aFy (d:=9) pF rfl aG0 zl aH1 rfl rfl rfl rfl rfl)) ?_
 refine zz ?_
 refine zk hr rfl (fun h5 hr=> ?_) (fun h5 hr=> ?_)
 ·refine zz ?_
  obtain rfl:=sj hr
  exact bE Tryz.results8 []
 refine zz ?_
 refine aXl ?_
 refine aXo fun K1 hK1 hG1=> ?_
 have J1: ∀(x43:Bool),qT N aC aA aB aE vi eY dD cL b9 cX eQ bS x16 x43=some r→K1 (aI 61 [(1,(eI .i64 vi)),(3,(eI .i64 bS)),(4,(.ptr 0 0)),(6,(.ptr 1 0)),(9,(.ptr 2 0)),(43,(eB x43))]) [some ⟨26,[(eI .u32 aC),(.row none 35 (aA.map aL)),(.row none 2 (aB.map aM)),(eI .u32 aE)]⟩,some ⟨35,(bG (eI .u8) eY [(eI .u32 dD),(eI .i64 cL),(.row none 1 (b9.map (eI .u8))),(eI .i64 cX),(eB eQ)])⟩,some ⟨28,x16.1.map (eI .u8)⟩]:=by
  intro x43 hr
  unfold qT at hr
  refine hK1 _ _ ?_
  refine zk hr rfl (fun h6 hr=> ?_) (fun h6 hr=> ?_)
  ·refine zz ?_
   obtain rfl:=sj hr
   exact bE Tryz.results8 []
  refine zz ?_
  refine aXl ?_
  obtain⟨x50,h_7,hr⟩:=aD hr
  obtain⟨x60,h_8,hr⟩:=aD hr
  refine aXx mixed [17] [] [[0,1,2,3,4,5,6,7,8,9,10,11,12,13,14,15,16,17]] ?_
  refine zz ?_
  refine xw (v:=(.agg (bG (eI .u8) x16.1 [(eI .i64 bS),(eI .i64 (aXm.wrap (bS-cX)))]))) (cE rfl (aOU (ps':=[(0,(.agg (bG (eI .u8) x16.1 []))),(1,(eI .i64 bS)),(2,(eI .i64 (aXm.wrap (bS-cX))))]) (by simp only[u9 (l:=x16.1) (bH h_2)]) (tH aCy aRS rfl)))<|xu (aGF h_8) ?_
  refine zz ?_
  obtain rfl:=sj hr
  exact bE Tryz.results8 []
 rcases aXk (decide (16777216<bS))with h10|h10
 ·replace hr:=cQ hr h10
  refine xr ?_
  refine zz ?_
  refine xX rfl<|xX rfl<|xX rfl<|xX rfl ?_
  refine zz ?_
  exact hG1 _ _ _ _ (zG [0,1,2]) (J1 true hr)
 replace hr:=cR hr h10
 rcases aXk (decide (cX<0))with h11|h11
 ·replace hr:=cQ hr h11
  refine xr ?_
  refine zz ?_
  exact hG1 _ _ _ _ (zG [0,1,2]) (J1 true hr)
 replace hr:=cR hr h11
 refine xr ?_
 refine zz ?_
 exact hG1 _ _ _ _ (zG [0,1,2]) (J1 (decide (bS<cX)) hr)
theorem aLJ {N:Nat}{l:List bA}{vn:Int}{r:Bool}(hr:aBI N l vn=some r):
  Vm.Fn Tryz.prog 9 [] [(.row none 37 (l.map d9)),(eI .i64 vn)] (eB r) []:=by
 refine zf Tryz.func9 Tryz.ntmps9 ?_
 unfold aBI at hr
 refine zz ?_
 refine aXl ?_
 refine zz ?_
 refine zk hr rfl (fun h1 hr=> ?_) (fun h1 hr=> ?_)
 ·refine zz ?_
  obtain rfl:=sj hr
  exact bE Tryz.results9 []
 refine zz ?_
 refine aXo fun K1 hK1 hG1=> ?_
 have J1:aDm N=some r→K1 (aI 23 []) []:=by
  intro hr
  unfold aDm at hr
  refine hK1 _ _ ?_
  refine zz ?_
  obtain rfl:=sj hr
  exact bE Tryz.results9 []
 obtain⟨bL,hL2,hr⟩:=aD hr
 refine zz ?_
 refine aXn<|aXs (fun m s h=> ∃(dA:Int),nM N l m dA=some bL∧Ghost 0 s h (aI 23 [(11,(.row none 37 (l.map d9))),(12,(eI .i64 (l.length:Int))),(13,(eI .i64 dA))]) []) (n:=N) ⟨0,hL2,(zG [])⟩ (by rintro s h ⟨_,h0,_⟩;simp[nM]at h0) ?_
 rintro m2 s h ⟨dA,hr2,hg⟩
 refine aXr hg ?_
 clear hg hL2
 rw[nM]at hr2
 refine zz ?_
 refine aXl ?_
 refine zk hr2 rfl (fun h2 hr2=> ?_) (fun h2 hr2=> ?_)
 ·refine zz ?_
  refine aXl<|aXn ?_
  obtain⟨x15,h_3,hr2⟩:=aD hr2
  refine zz ?_
  refine xw (v:=(.ptr 0 0)) (h':=[some ⟨35,(bG (eI .u8) (aXj 32 0) [(eI .u32 0),(eI .i64 0),(.row (some true) 1 []),(eI .i64 0),(eB false)])⟩]) (cY aA7 rfl rfl rfl) ?_
  refine zz ?_
  refine zk hr2 rfl (fun h4 hr2=> ?_) (fun h4 hr2=> ?_)
  ·refine zz ?_
   obtain rfl:=sj hr2
   obtain rfl:=sj hr
   exact bE Tryz.results9 []
  refine zz ?_
  exact⟨aXm.wrap (dA+1),hr2,(zG [])⟩
 refine zz ?_
 obtain rfl:=sj hr2
 refine zz ?_
 exact hG1 _ _ _ _ (zG []) (J1 hr)
theorem aNW {N:Nat}{aC:Int}{aA:List aG}{aB:List aF}{aE bS:Int}{r:Bool}(hr:aEu N aC aA aB aE bS=some r):
  Vm.Fn Tryz.prog 19 [] [(.agg [(eI .u32 aC),(.row none 35 (aA.map aL)),(.row none 2 (aB.map aM)),(eI .u32 aE)]),(eI .i64 bS)] (eB r) []:=by
 refine zf Tryz.func19 Tryz.ntmps19 ?_
 unfold aEu at hr
 refine zz ?_
 refine aXl ?_
 refine zz ?_
 refine zk hr rfl (fun h1 hr=> ?_) (fun h1 hr=> ?_)
 ·refine zz ?_
  obtain rfl:=sj hr
  exact bE Tryz.results19 []
 refine zz ?_
 refine aXo fun K1 hK1 hG1=> ?_
 have J1:aEY N=some r→K1 (aI 23 []) []:=by
  intro hr
  unfold aEY at hr
  refine hK1 _ _ ?_
  refine zz ?_
  obtain rfl:=sj hr
  exact bE Tryz.results19 []
 obtain⟨bL,hL2,hr⟩:=aD hr
 refine zz ?_
 refine aXn<|aXs (fun m s h=> ∃(x15:Int),qO N aA m x15=some bL∧Ghost 0 s h (aI 23 [(13,(.row none 35 (aA.map aL))),(14,(eI .i64 (aA.length:Int))),(15,(eI .i64 x15))]) []) (n:=N) ⟨0,hL2,(zG [])⟩ (by rintro s h ⟨_,h0,_⟩;simp[qO]at h0) ?_
 rintro m2 s h ⟨x15,hr2,hg⟩
 refine aXr hg ?_
 clear hg hL2
 rw[qO]at hr2
 refine zz ?_
 refine aXl ?_
 refine zk hr2 rfl (fun h2 hr2=> ?_) (fun h2 hr2=> ?_)
 ·refine zz ?_
  refine aXl<|aXn ?_
  obtain⟨x17,h_3,hr2⟩:=aD hr2
  refine zz ?_
  refine xw (v:=(.ptr 0 0)) (h':=[some ⟨48,(bG (eI .u8) (aXj 32 0) [(eI .u32 0),(eI .u32 0),(.row (some true) 1 [])])⟩]) (cY rG rfl rfl rfl) ?_
  refine zz ?_
  refine zk hr2 rfl (fun h4 hr2=> ?_) (fun h4 hr2=> ?_)
  ·refine zz ?_
   obtain rfl:=sj hr2
   obtain rfl:=sj hr
   exact bE Tryz.results19 []
  refine zz ?_
  exact⟨aXm.wrap (x15+1),hr2,(zG [])⟩
 refine zz ?_
 obtain rfl:=sj hr2
 refine zz ?_
 exact hG1 _ _ _ _ (zG []) (J1 hr)
theorem aKt {N:Nat}{aC:Int}{aA:List aG}{aB:List aF}{aE:Int}{l:List bA}{bS:Int}{r:Int×Int}(hr:aAh N aC aA aB aE l bS=some r):
  Vm.Fn Tryz.prog 10 [] [(.agg [(eI .u32 aC),(.row none 35 (aA.map aL)),(.row none 2 (aB.map aM)),(eI .u32 aE)]),(.row none 37 (l.map d9)),(eI .i64 bS)] (.tup [(eI .i64 r.1),(eI .i64 r.2)]) []:=by
 refine zf Tryz.func10 Tryz.ntmps10 ?_
 unfold aAh at hr
 refine zz ?_
 refine aXl ?_
 obtain⟨bQ,h_1,hr⟩:=aD hr
 refine zz ?_
 refine xp (aFg h_1) ?_
 refine zz ?_
 refine zk hr rfl (fun h2 hr=> ?_) (fun h2 hr=> ?_)
 ·refine zz ?_
  obtain rfl:=sj hr
  exact kG Tryz.results10 []
 obtain⟨x18,h_3,hr⟩:=aD hr
 refine zz ?_
 refine xp (aEc h_3) ?_
 refine zz ?_
 refine aXl ?_
 refine zz ?_
 refine zk hr rfl (fun h4 hr=> ?_) (fun h4 hr=> ?_)
 ·refine zz ?_
  obtain rfl:=sj hr
  exact kG Tryz.results10 []
 refine zz ?_
 refine aXl ?_
 obtain⟨x26,h_5,hr⟩:=aD hr
 refine zz ?_
 refine xp (aNW h_5) ?_
 refine zz ?_
 refine zk hr rfl (fun h6 hr=> ?_) (fun h6 hr=> ?_)
 ·refine zz ?_
  obtain rfl:=sj hr
  exact kG Tryz.results10 []
 refine zz ?_
 refine aXo fun K1 hK1 hG1=> ?_
 have J1:aCB N x18=some r→K1 (aI 45 [(8,(eI .i64 x18.1))]) []:=by
  intro hr
  unfold aCB at hr
  refine hK1 _ _ ?_
  refine zz ?_
  obtain rfl:=sj hr
  exact kG Tryz.results10 []
 obtain⟨bL,hL2,hr⟩:=aD hr
 refine zz ?_
 refine aXn<|aXs (fun m s h=> ∃(jL:Int),oE N aC aA aB aE l bS x18 m jL=some bL∧Ghost 0 s h (aI 45 [(2,(eI .i64 bS)),(3,(.ptr 0 0)),(8,(eI .i64 x18.1)),(28,(.row none 37 (l.map d9))),(29,(eI .i64 (l.length:Int))),(30,(eI .i64 jL))]) [some ⟨26,[(eI .u32 aC),(.row none 35 (aA.map aL)),(.row none 2 (aB.map aM)),(eI .u32 aE)]⟩]) (n:=N) ⟨0,hL2,(zG [0])⟩ (by rintro s h ⟨_,h0,_⟩;simp[oE]at h0) ?_
 rintro m2 s h ⟨jL,hr2,hg⟩
 refine aXr hg ?_
 clear hg hL2
 rw[oE]at hr2
 refine zz ?_
 refine aXl ?_
 refine zk hr2 rfl (fun h7 hr2=> ?_) (fun h7 hr2=> ?_)
 ·refine zz ?_
  refine aXl<|aXn ?_
  obtain⟨iA,h_8,hr2⟩:=aD hr2
  refine zz ?_
  refine xw (v:=(.ptr 1 0)) (h':=[some ⟨26,[(eI .u32 aC),(.row none 35 (aA.map aL)),(.row none 2 (aB.map aM)),(eI .u32 aE)]⟩,some ⟨35,(bG (eI .u8) (aXj 32 0) [(eI .u32 0),(eI .i64 0),(.row (some true) 1 []),(eI .i64 0),(eB false)])⟩]) (cY aA7 rfl rfl rfl) ?_
  obtain⟨x39,h_9,hr2⟩:=aD hr2
  refine zz ?_
  refine xp (aJR h_9) ?_
  refine zz ?_
  refine zk hr2 rfl (fun h10 hr2=> ?_) (fun h10 hr2=> ?_)
  ·refine zz ?_
   obtain rfl:=sj hr2
   obtain rfl:=sj hr
   exact kG Tryz.results10 []
  refine zz ?_
  exact⟨aXm.wrap (jL+1),hr2,(zG [0])⟩
 refine zz ?_
 obtain rfl:=sj hr2
 refine zz ?_
 exact hG1 _ _ _ _ (zG []) (J1 hr)
theorem aDl {N:Nat}{tG:List Int}{j9:Int}{r:Bool}(hr:aBS N tG j9=some r):
  Vm.Fn Tryz.prog 44 [] [(.agg (bG (eI .u8) tG [(eI .u32 j9)]))] (eB r) []:=by
 refine zf Tryz.func44 Tryz.ntmps44 ?_
 unfold aBS at hr
 refine zz ?_
 refine xw (v:=(.agg (bG (eI .u8) (aXj 32 0) [(eI .u32 4294967295)]))) (cE rfl (tH pF aIz rfl))<|xw (tD rfl rfl (aIl (d:=9) pF rfl aG0 zl aH1 rfl rfl rfl rfl rfl)) ?_
 refine zz ?_
 obtain rfl:=sj hr
 exact bE Tryz.results44 []
theorem aDA {N:Nat}{aC:Int}{aA:List aG}{aB:List aF}{aE:Int}{r:Bool}(hr:qU N aC aA aB aE=some r):
  Vm.Fn Tryz.prog 20 [] [(.agg [(eI .u32 aC),(.row none 35 (aA.map aL)),(.row none 2 (aB.map aM)),(eI .u32 aE)])] (eB r) []:=by
 refine zf Tryz.func20 Tryz.ntmps20 ?_
 unfold qU at hr
 refine zz ?_
 refine aXo fun K1 hK1 hG1=> ?_
 have J1: ∀(x2:Bool),tW N x2=some r→K1 (aI 15 [(2,(eB x2))]) []:=by
  intro x2 hr
  unfold tW at hr
  refine hK1 _ _ ?_
  refine zz ?_
  obtain rfl:=sj hr
  exact bE Tryz.results20 []
 rcases aXk ((aA.length:Int) == 1)with h1|h1
 ·replace hr:=cQ hr h1
  obtain⟨cD,h_2,hr⟩:=aD hr
  obtain⟨dA,h_3,hr⟩:=aD hr
  refine xr ?_
  refine zz ?_
  refine xCg (v:=(eB dA)) (h':=[some ⟨26,[(eI .u32 aC),(.row none 35 (aA.map aL)),(.row none 2 (aB.map aM)),(eI .u32 aE)]⟩]) rfl rfl h1 rfl (Vm.Fn.pure (aDl h_3) rfl rfl) ?_
  refine zz ?_
  exact hG1 _ _ _ _ (zG []) (J1 dA hr)
 replace hr:=cR hr h1
 refine xr ?_
 refine zz ?_
 exact hG1 _ _ _ _ (zG []) (J1 false hr)
theorem aKF {N:Nat}{aC:Int}{aA:List aG}{aB:List aF}{aE r:Int}(hr:aAH N aC aA aB aE=some r):
  Vm.Fn Tryz.prog 45 [] [(.agg [(eI .u32 aC),(.row none 35 (aA.map aL)),(.row none 2 (aB.map aM)),(eI .u32 aE)])] (eI .i64 r) []:=by
 refine zf Tryz.func45 Tryz.ntmps45 ?_
 unfold aAH at hr
 refine zz ?_
 refine aXl ?_
 obtain⟨b4,h_1,hr⟩:=aD hr
 refine zz ?_
 refine xp (aAY h_1) ?_
 refine zz ?_
 refine zk hr rfl (fun h2 hr=> ?_) (fun h2 hr=> ?_)
 ·refine zz ?_
  obtain rfl:=sj hr
  exact bE Tryz.results45 []
 refine zz ?_
 refine aXl ?_
 refine aXo fun K1 hK1 hG1=> ?_
 have J1: ∀(bV:Bool),uR N aC aA aB aE bV=some r→K1 (aI 81 [(1,(.ptr 0 0)),(22,(eB bV))]) [some ⟨26,[(eI .u32 aC),(.row none 35 (aA.map aL)),(.row none 2 (aB.map aM)),(eI .u32 aE)]⟩]:=by
  intro bV hr
  unfold uR at hr
  refine hK1 _ _ ?_
  refine zk hr rfl (fun h3 hr=> ?_) (fun h3 hr=> ?_)
  ·refine zz ?_
   obtain rfl:=sj hr
   exact bE Tryz.results45 []
  refine zz ?_
  refine aXo fun K2 hK2 hG2=> ?_
  have J2: ∀(sum:Int),zK N aC aA aB aE sum=some r→K2 (aI 81 [(1,(.ptr 0 0)),(3,(eI .i64 sum))]) [some ⟨26,[(eI .u32 aC),(.row none 35 (aA.map aL)),(.row none 2 (aB.map aM)),(eI .u32 aE)]⟩]:=by
   intro sum hr
   unfold zK at hr
   refine hK2 _ _<|aXl ?_
   refine zz ?_
   refine zk hr rfl (fun h4 hr=> ?_) (fun h4 hr=> ?_)
   ·refine zz ?_
    obtain rfl:=sj hr
    exact bE Tryz.results45 []
   refine zz ?_
   refine aXo fun K3 hK3 hG3=> ?_
   have J3:zQ N aC aA aB aE=some r→K3 (aI 81 [(1,(.ptr 0 0))]) [some ⟨26,[(eI .u32 aC),(.row none 35 (aA.map aL)),(.row none 2 (aB.map aM)),(eI .u32 aE)]⟩]:=by
    intro hr
    unfold zQ at hr
    refine hK3 _ _ ?_
    refine aXo fun K4 hK4 hG4=> ?_
    have J4:aCm N=some r→K4 (aI 81 []) []:=by
     intro hr
     unfold aCm at hr
     refine hK4 _ _ ?_
     refine zz ?_
     obtain rfl:=sj hr
     exact bE Tryz.results45 []
    obtain⟨res5,hL5,hr⟩:=aD hr
    refine zz ?_
    refine aXn<|aXs (fun m s h=> ∃(x68:Int),iW N aC aA aB aE m x68=some res5∧Ghost 0 s h (aI 81 [(1,(.ptr 0 0)),(66,(.row none 35 (aA.map aL))),(67,(eI .i64 (aA.length:Int))),(68,(eI .i64 x68))]) [some ⟨26,[(eI .u32 aC),(.row none 35 (aA.map aL)),(.row none 2 (aB.map aM)),(eI .u32 aE)]⟩]) (n:=N) ⟨0,hL5,(zG [0])⟩ (by rintro s h ⟨_,h0,_⟩;simp[iW]at h0) ?_
    rintro m5 s h ⟨x68,hr5,hg⟩
    refine aXr hg ?_
    clear hg hL5
    rw[iW]at hr5
    refine zz ?_
    refine aXl ?_
    refine zk hr5 rfl (fun h5 hr5=> ?_) (fun h5 hr5=> ?_)
    ·refine zz ?_
     refine aXl<|aXn ?_
     obtain⟨x70,h_6,hr5⟩:=aD hr5
     refine zz ?_
     refine xw (v:=(.ptr 1 0)) (h':=[some ⟨26,[(eI .u32 aC),(.row none 35 (aA.map aL)),(.row none 2 (aB.map aM)),(eI .u32 aE)]⟩,some ⟨48,(bG (eI .u8) (aXj 32 0) [(eI .u32 0),(eI .u32 0),(.row (some true) 1 [])])⟩]) (cY rG rfl rfl rfl) ?_
     refine zz ?_
     refine aXo fun K6 hK6 hG6=> ?_
     have J6: ∀(x79:Bool),uS N aC aA aB aE x68 (iW N aC aA aB aE m5) x79=some res5→K6 (aI 81 [(1,(.ptr 0 0)),(66,(.row none 35 (aA.map aL))),(67,(eI .i64 (aA.length:Int))),(68,(eI .i64 x68)),(79,(eB x79))]) [some ⟨26,[(eI .u32 aC),(.row none 35 (aA.map aL)),(.row none 2 (aB.map aM)),(eI .u32 aE)]⟩]:=by
      intro x79 hr5
      unfold uS at hr5
      refine hK6 _ _ ?_
      refine zk hr5 rfl (fun h7 hr5=> ?_) (fun h7 hr5=> ?_)
      ·refine zz ?_
       obtain rfl:=sj hr5
       obtain rfl:=sj hr
       exact bE Tryz.results45 []
      refine zz ?_
      exact⟨aXm.wrap (x68+1),hr5,(zG [0])⟩
     obtain⟨x74,h_8,hr5⟩:=aD hr5
     rcases aXk x74 with h9|h9
     ·replace hr5:=cQ hr5 h9
      obtain⟨x77,h_10,hr5⟩:=aD hr5
      refine xr ?_
      refine zz ?_
      refine xp (aDl h_8) ?_
      refine zz ?_
      refine xCg (v:=(eB x77)) (h':=[some ⟨26,[(eI .u32 aC),(.row none 35 (aA.map aL)),(.row none 2 (aB.map aM)),(eI .u32 aE)]⟩,some ⟨48,dJ x70⟩]) rfl rfl h9 rfl (Vm.Fn.pure (aDA h_10) rfl rfl) ?_
      refine zz ?_
      exact hG6 _ _ _ _ (zG [0]) (J6 (!x77) hr5)
     replace hr5:=cR hr5 h9
     refine xr ?_
     refine zz ?_
     refine xp (aDl h_8) ?_
     refine zz ?_
     exact hG6 _ _ _ _ (zG [0]) (J6 false hr5)
    refine zz ?_
    obtain rfl:=sj hr5
    refine zz ?_
    exact hG4 _ _ _ _ (zG []) (J4 hr)
   obtain⟨res7,hL7,hr⟩:=aD hr
   refine zz ?_
   refine aXn<|aXs (fun m s h=> ∃(x43:Int),iV N aC aA aB aE m x43=some res7∧Ghost 0 s h (aI 81 [(1,(.ptr 0 0)),(42,(eI .i64 (aA.length:Int))),(43,(eI .i64 x43))]) [some ⟨26,[(eI .u32 aC),(.row none 35 (aA.map aL)),(.row none 2 (aB.map aM)),(eI .u32 aE)]⟩]) (n:=N) ⟨0,hL7,(zG [0])⟩ (by rintro s h ⟨_,h0,_⟩;simp[iV]at h0) ?_
   rintro m7 s h ⟨x43,hr7,hg⟩
   refine aXr hg ?_
   clear hg hL7
   rw[iV]at hr7
   refine zz ?_
   refine aXl ?_
   refine zk hr7 rfl (fun h11 hr7=> ?_) (fun h11 hr7=> ?_)
   ·refine zz ?_
    refine aXo fun K8 hK8 hG8=> ?_
    have J8:z9 N aC aA aB aE x43 (iV N aC aA aB aE m7)=some res7→K8 (aI 81 [(1,(.ptr 0 0)),(42,(eI .i64 (aA.length:Int))),(43,(eI .i64 x43))]) [some ⟨26,[(eI .u32 aC),(.row none 35 (aA.map aL)),(.row none 2 (aB.map aM)),(eI .u32 aE)]⟩]:=by
     intro hr7
     unfold z9 at hr7
     refine hK8 _ _ ?_
     refine zz ?_
     exact⟨aXm.wrap (x43+1),hr7,(zG [0])⟩
    refine aXn ?_
    obtain⟨res9,hL9,hr7⟩:=aD hr7
    refine zz ?_
    refine aXn<|aXs (fun m s h=> ∃(k:Int),kB N aC aA aB aE x43 m k=some res9∧Ghost 0 s h (aI 81 [(1,(.ptr 0 0)),(6,(eI .i64 x43)),(7,(eI .i64 k)),(42,(eI .i64 (aA.length:Int))),(43,(eI .i64 x43))]) [some ⟨26,[(eI .u32 aC),(.row none 35 (aA.map aL)),(.row none 2 (aB.map aM)),(eI .u32 aE)]⟩]) (n:=N) ⟨0,hL9,(zG [0])⟩ (by rintro s h ⟨_,h0,_⟩;simp[kB]at h0) ?_
    rintro m9 s h ⟨k,hr9,hg⟩
    refine aXr hg ?_
    clear hg hL9
    rw[kB]at hr9
    refine aXl ?_
    refine zz ?_
    refine zk hr9 rfl (fun h12 hr9=> ?_) (fun h12 hr9=> ?_)
    ·refine zz ?_
     refine aXl<|aXn<|aXl ?_
     obtain⟨x54,h_13,hr9⟩:=aD hr9
     obtain⟨x60,h_14,hr9⟩:=aD hr9
     refine aXx mixed [] [] [[0,1,2,3,4,5,6,7,8,9,10,11,12]] ?_
     refine zz ?_
     refine xw (v:=(eB (lS x54.Prev.Tx x60.Prev.Tx ((x54.Prev.Index == x60.Prev.Index)&&true)))) (tD rfl rfl (aIl (d:=9) pF rfl aG0 zl aH1 rfl rfl rfl rfl rfl)) ?_
     refine zz ?_
     refine zk hr9 rfl (fun h15 hr9=> ?_) (fun h15 hr9=> ?_)
     ·refine zz ?_
      obtain rfl:=sj hr9
      obtain rfl:=sj hr7
      obtain rfl:=sj hr
      exact bE Tryz.results45 []
     refine zz ?_
     exact⟨aXm.wrap (k+1),hr9,(zG [0])⟩
    refine zz ?_
    obtain rfl:=sj hr9
    refine zz ?_
    exact hG8 _ _ _ _ (zG [0]) (J8 hr7)
   refine zz ?_
   obtain rfl:=sj hr7
   refine zz ?_
   exact hG3 _ _ _ _ (zG [0]) (J3 hr)
  obtain⟨res10,hL10,hr⟩:=aD hr
  refine zz ?_
  refine aXn<|aXs (fun m s h=> ∃(u6 x26:Int),mM N aC aA aB aE m u6 x26=some res10∧Ghost 0 s h (aI 81 [(1,(.ptr 0 0)),(3,(eI .i64 u6)),(24,(.row none 2 (aB.map aM))),(25,(eI .i64 (aB.length:Int))),(26,(eI .i64 x26))]) [some ⟨26,[(eI .u32 aC),(.row none 35 (aA.map aL)),(.row none 2 (aB.map aM)),(eI .u32 aE)]⟩]) (n:=N) ⟨0,0,hL10,(zG [0])⟩ (by rintro s h ⟨_,_,h0,_⟩;simp[mM]at h0) ?_
  rintro m10 s h ⟨u6,x26,hr10,hg⟩
  refine aXr hg ?_
  clear hg hL10
  rw[mM]at hr10
  refine zz ?_
  refine aXl ?_
  refine zk hr10 rfl (fun h16 hr10=> ?_) (fun h16 hr10=> ?_)
  ·refine zz ?_
   refine aXl<|aXn ?_
   obtain⟨x28,h_17,hr10⟩:=aD hr10
   refine zz ?_
   refine aXl ?_
   refine zz ?_
   refine zk hr10 rfl (fun h18 hr10=> ?_) (fun h18 hr10=> ?_)
   ·refine zz ?_
    obtain rfl:=sj hr10
    obtain rfl:=sj hr
    exact bE Tryz.results45 []
   refine zz ?_
   exact⟨aXm.wrap (u6+x28.Value),aXm.wrap (x26+1),hr10,(zG [0])⟩
  refine zz ?_
  obtain rfl:=sj hr10
  refine zz ?_
  exact hG2 _ _ _ _ (zG [0]) (J2 u6 hr)
 rcases aXk ((aA.length:Int) == 0)with h19|h19
 ·replace hr:=cQ hr h19
  refine xr ?_
  refine zz ?_
  exact hG1 _ _ _ _ (zG [0]) (J1 true hr)
 replace hr:=cR hr h19
 refine xr ?_
 refine zz ?_
 exact hG1 _ _ _ _ (zG [0]) (J1 ((aB.length:Int) == 0) hr)
theorem aMR {N:Nat}{aC:Int}{aA:List aG}{aB:List aF}{aE:Int}{l:List bA}{r:Int×Int}(hr:aDh N aC aA aB aE l=some r):
  Vm.Fn Tryz.prog 21 [] [(.agg [(eI .u32 aC),(.row none 35 (aA.map aL)),(.row none 2 (aB.map aM)),(eI .u32 aE)]),(.row none 37 (l.map d9))] (.tup [(eI .i64 r.1),(eI .i64 r.2)]) []:=by
 refine zf Tryz.func21 Tryz.ntmps21 ?_
 unfold aDh at hr
 refine zz ?_
 refine aXl ?_
 obtain⟨bQ,h_1,hr⟩:=aD hr
 refine zz ?_
 refine xp (aKF h_1) ?_
 refine zz ?_
 refine zk hr rfl (fun h2 hr=> ?_) (fun h2 hr=> ?_)
 ·refine zz ?_
  obtain rfl:=sj hr
  exact kG Tryz.results21 []
 refine zz ?_
 refine aXl ?_
 refine zz ?_
 refine zk hr rfl (fun h3 hr=> ?_) (fun h3 hr=> ?_)
 ·refine zz ?_
  obtain rfl:=sj hr
  exact kG Tryz.results21 []
 refine zz ?_
 refine aXo fun K1 hK1 hG1=> ?_
 have J1:aBn N aC aA aB aE l=some r→K1 (aI 81 [(1,(.row none 37 (l.map d9))),(2,(.ptr 0 0))]) [some ⟨26,[(eI .u32 aC),(.row none 35 (aA.map aL)),(.row none 2 (aB.map aM)),(eI .u32 aE)]⟩]:=by
  intro hr
  unfold aBn at hr
  refine hK1 _ _ ?_
  refine zz ?_
  refine aXo fun K2 hK2 hG2=> ?_
  have J2: ∀(sum:Int),aBw N aC aA aB aE sum=some r→K2 (aI 81 [(2,(.ptr 0 0)),(8,(eI .i64 sum))]) [some ⟨26,[(eI .u32 aC),(.row none 35 (aA.map aL)),(.row none 2 (aB.map aM)),(eI .u32 aE)]⟩]:=by
   intro sum hr
   unfold aBw at hr
   refine hK2 _ _<|aXl ?_
   refine zz ?_
   refine zk hr rfl (fun h4 hr=> ?_) (fun h4 hr=> ?_)
   ·refine zz ?_
    obtain rfl:=sj hr
    exact kG Tryz.results21 []
   refine zz ?_
   refine aXo fun K3 hK3 hG3=> ?_
   have J3: ∀(u6:Int),aBo N u6=some r→K3 (aI 81 [(8,(eI .i64 u6))]) []:=by
    intro u6 hr
    unfold aBo at hr
    refine hK3 _ _<|aXl ?_
    refine zz ?_
    refine zk hr rfl (fun h5 hr=> ?_) (fun h5 hr=> ?_)
    ·refine zz ?_
     obtain rfl:=sj hr
     exact kG Tryz.results21 []
    refine zz ?_
    obtain rfl:=sj hr
    exact kG Tryz.results21 []
   obtain⟨res4,hL4,hr⟩:=aD hr
   refine zz ?_
   refine aXn<|aXs (fun m s h=> ∃(sum_2 x69:Int),o9 N aB m sum_2 x69=some res4∧Ghost 0 s h (aI 81 [(8,(eI .i64 sum_2)),(67,(.row none 2 (aB.map aM))),(68,(eI .i64 (aB.length:Int))),(69,(eI .i64 x69))]) []) (n:=N) ⟨sum,0,hL4,(zG [])⟩ (by rintro s h ⟨_,_,h0,_⟩;simp[o9]at h0) ?_
   rintro m4 s h ⟨sum_2,x69,hr4,hg⟩
   refine aXr hg ?_
   clear hg hL4
   rw[o9]at hr4
   refine zz ?_
   refine aXl ?_
   refine zk hr4 rfl (fun h6 hr4=> ?_) (fun h6 hr4=> ?_)
   ·refine zz ?_
    refine aXl<|aXn ?_
    obtain⟨x71,h_7,hr4⟩:=aD hr4
    refine zz ?_
    exact⟨aXm.wrap (sum_2-x71.Value),aXm.wrap (x69+1),hr4,(zG [])⟩
   refine zz ?_
   obtain rfl:=sj hr4
   refine zz ?_
   exact hG3 _ _ _ _ (zG []) (J3 sum_2 hr)
  obtain⟨res5,hL5,hr⟩:=aD hr
  refine zz ?_
  refine aXn<|aXs (fun m s h=> ∃(aAa x44:Int),mF N aC aA aB aE l m aAa x44=some res5∧Ghost 0 s h (aI 81 [(2,(.ptr 0 0)),(8,(eI .i64 aAa)),(42,(.row none 37 (l.map d9))),(43,(eI .i64 (l.length:Int))),(44,(eI .i64 x44))]) [some ⟨26,[(eI .u32 aC),(.row none 35 (aA.map aL)),(.row none 2 (aB.map aM)),(eI .u32 aE)]⟩]) (n:=N) ⟨0,0,hL5,(zG [0])⟩ (by rintro s h ⟨_,_,h0,_⟩;simp[mF]at h0) ?_
  rintro m5 s h ⟨aAa,x44,hr5,hg⟩
  refine aXr hg ?_
  clear hg hL5
  rw[mF]at hr5
  refine zz ?_
  refine aXl ?_
  refine zk hr5 rfl (fun h8 hr5=> ?_) (fun h8 hr5=> ?_)
  ·refine zz ?_
   refine aXl<|aXn ?_
   obtain⟨x46,h_9,hr5⟩:=aD hr5
   refine zz ?_
   refine xw (v:=(.ptr 1 0)) (h':=[some ⟨26,[(eI .u32 aC),(.row none 35 (aA.map aL)),(.row none 2 (aB.map aM)),(eI .u32 aE)]⟩,some ⟨35,(bG (eI .u8) (aXj 32 0) [(eI .u32 0),(eI .i64 0),(.row (some true) 1 []),(eI .i64 0),(eB false)])⟩]) (cY aA7 rfl rfl rfl) ?_
   refine zz ?_
   refine aXl ?_
   refine aXo fun K6 hK6 hG6=> ?_
   have J6: ∀(x57:Bool),yN N aC aA aB aE l aAa x44 x46 (mF N aC aA aB aE l m5) x57=some res5→K6 (aI 81 [(2,(.ptr 0 0)),(8,(eI .i64 aAa)),(10,(.ptr 1 0)),(42,(.row none 37 (l.map d9))),(43,(eI .i64 (l.length:Int))),(44,(eI .i64 x44)),(57,(eB x57))]) [some ⟨26,[(eI .u32 aC),(.row none 35 (aA.map aL)),(.row none 2 (aB.map aM)),(eI .u32 aE)]⟩,some ⟨35,gV x46⟩]:=by
    intro x57 hr5
    unfold yN at hr5
    refine hK6 _ _ ?_
    refine zk hr5 rfl (fun h10 hr5=> ?_) (fun h10 hr5=> ?_)
    ·refine zz ?_
     obtain rfl:=sj hr5
     obtain rfl:=sj hr
     exact kG Tryz.results21 []
    refine zz ?_
    exact⟨aXm.wrap (aAa+x46.Output.Value),aXm.wrap (x44+1),hr5,(zG [0])⟩
   rcases aXk (decide (x46.Output.Value<0))with h11|h11
   ·replace hr5:=cQ hr5 h11
    refine xr ?_
    refine zz ?_
    exact hG6 _ _ _ _ (zG [0,1]) (J6 true hr5)
   replace hr5:=cR hr5 h11
   refine xr ?_
   refine zz ?_
   exact hG6 _ _ _ _ (zG [0,1]) (J6 (decide (2100000000000000<x46.Output.Value)) hr5)
  refine zz ?_
  obtain rfl:=sj hr5
  refine zz ?_
  exact hG2 _ _ _ _ (zG [0]) (J2 aAa hr)
 obtain⟨res7,hL7,hr⟩:=aD hr
 refine zz ?_
 refine aXn<|aXs (fun m s h=> ∃(x26:Int),pD N aC aA aB aE l m x26=some res7∧Ghost 0 s h (aI 81 [(1,(.row none 37 (l.map d9))),(2,(.ptr 0 0)),(25,(eI .i64 (l.length:Int))),(26,(eI .i64 x26))]) [some ⟨26,[(eI .u32 aC),(.row none 35 (aA.map aL)),(.row none 2 (aB.map aM)),(eI .u32 aE)]⟩]) (n:=N) ⟨0,hL7,(zG [0])⟩ (by rintro s h ⟨_,h0,_⟩;simp[pD]at h0) ?_
 rintro m7 s h ⟨x26,hr7,hg⟩
 refine aXr hg ?_
 clear hg hL7
 rw[pD]at hr7
 refine zz ?_
 refine aXl ?_
 refine zk hr7 rfl (fun h12 hr7=> ?_) (fun h12 hr7=> ?_)
 ·refine zz ?_
  refine aXl<|aXn ?_
  refine zz ?_
  refine aXl ?_
  obtain⟨eG,h_13,hr7⟩:=aD hr7
  obtain⟨x37,h_14,hr7⟩:=aD hr7
  refine aXx mixed [] [] [[0,1,2,3,4,5,6,7,8,9,10,11]] ?_
  refine zz ?_
  refine xw (v:=(eB (!(lS eG.Out.Tx x37.Prev.Tx ((eG.Out.Index == x37.Prev.Index)&&true))))) (tD rfl rfl (aFy (d:=9) pF rfl aG0 zl aH1 rfl rfl rfl rfl rfl)) ?_
  refine zz ?_
  refine zk hr7 rfl (fun h15 hr7=> ?_) (fun h15 hr7=> ?_)
  ·refine zz ?_
   obtain rfl:=sj hr7
   obtain rfl:=sj hr
   exact kG Tryz.results21 []
  refine zz ?_
  exact⟨aXm.wrap (x26+1),hr7,(zG [0])⟩
 refine zz ?_
 obtain rfl:=sj hr7
 refine zz ?_
 exact hG1 _ _ _ _ (zG [0]) (J1 hr)
theorem aKe {N:Nat}{aC:Int}{aA:List aG}{aB:List aF}{aE bS:Int}{r:Bool}(hr:aAp N aC aA aB aE bS=some r):
  Vm.Fn Tryz.prog 22 [] [(.agg [(eI .u32 aC),(.row none 35 (aA.map aL)),(.row none 2 (aB.map aM)),(eI .u32 aE)]),(eI .i64 bS)] (eB r) []:=by
 refine zf Tryz.func22 Tryz.ntmps22 ?_
 unfold aAp at hr
 refine zz ?_
 refine aXl ?_
 refine zz ?_
 refine zk hr rfl (fun h1 hr=> ?_) (fun h1 hr=> ?_)
 ·refine zz ?_
  obtain rfl:=sj hr
  exact bE Tryz.results22 []
 refine zz ?_
 refine aXo fun K1 hK1 hG1=> ?_
 have J1:aCD N=some r→K1 (aI 23 []) []:=by
  intro hr
  unfold aCD at hr
  refine hK1 _ _ ?_
  refine zz ?_
  obtain rfl:=sj hr
  exact bE Tryz.results22 []
 obtain⟨bL,hL2,hr⟩:=aD hr
 refine zz ?_
 refine aXn<|aXs (fun m s h=> ∃(x15:Int),lJ N aA m x15=some bL∧Ghost 0 s h (aI 23 [(13,(.row none 35 (aA.map aL))),(14,(eI .i64 (aA.length:Int))),(15,(eI .i64 x15))]) []) (n:=N) ⟨0,hL2,(zG [])⟩ (by rintro s h ⟨_,h0,_⟩;simp[lJ]at h0) ?_
 rintro m2 s h ⟨x15,hr2,hg⟩
 refine aXr hg ?_
 clear hg hL2
 rw[lJ]at hr2
 refine zz ?_
 refine aXl ?_
 refine zk hr2 rfl (fun h2 hr2=> ?_) (fun h2 hr2=> ?_)
 ·refine zz ?_
  refine aXl<|aXn ?_
  obtain⟨x17,h_3,hr2⟩:=aD hr2
  refine zz ?_
  refine xw (v:=(.ptr 0 0)) (h':=[some ⟨48,(bG (eI .u8) (aXj 32 0) [(eI .u32 0),(eI .u32 0),(.row (some true) 1 [])])⟩]) (cY rG rfl rfl rfl) ?_
  refine zz ?_
  refine zk hr2 rfl (fun h4 hr2=> ?_) (fun h4 hr2=> ?_)
  ·refine zz ?_
   obtain rfl:=sj hr2
   obtain rfl:=sj hr
   exact bE Tryz.results22 []
  refine zz ?_
  exact⟨aXm.wrap (x15+1),hr2,(zG [])⟩
 refine zz ?_
 obtain rfl:=sj hr2
 refine zz ?_
 exact hG1 _ _ _ _ (zG []) (J1 hr)
theorem aKA {N:Nat}{aC:Int}{aA:List aG}{aB:List aF}{aE:Int}{l:List bA}{bS:Int}{r:Int×Int}(hr:aAE N aC aA aB aE l bS=some r):
  Vm.Fn Tryz.prog 11 [] [(.agg [(eI .u32 aC),(.row none 35 (aA.map aL)),(.row none 2 (aB.map aM)),(eI .u32 aE)]),(.row none 37 (l.map d9)),(eI .i64 bS)] (.tup [(eI .i64 r.1),(eI .i64 r.2)]) []:=by
 refine zf Tryz.func11 Tryz.ntmps11 ?_
 unfold aAE at hr
 refine zz ?_
 refine aXl ?_
 obtain⟨dA,h_1,hr⟩:=aD hr
 refine zz ?_
 refine xp (aDA h_1) ?_
 refine zz ?_
 refine zk hr rfl (fun h2 hr=> ?_) (fun h2 hr=> ?_)
 ·refine zz ?_
  obtain rfl:=sj hr
  exact kG Tryz.results11 []
 obtain⟨x17,h_3,hr⟩:=aD hr
 refine zz ?_
 refine xp (aMR h_3) ?_
 refine zz ?_
 refine aXl ?_
 refine zz ?_
 refine zk hr rfl (fun h4 hr=> ?_) (fun h4 hr=> ?_)
 ·refine zz ?_
  obtain rfl:=sj hr
  exact kG Tryz.results11 []
 refine zz ?_
 refine aXl ?_
 obtain⟨x25,h_5,hr⟩:=aD hr
 refine zz ?_
 refine xp (aKe h_5) ?_
 refine zz ?_
 refine zk hr rfl (fun h6 hr=> ?_) (fun h6 hr=> ?_)
 ·refine zz ?_
  obtain rfl:=sj hr
  exact kG Tryz.results11 []
 refine zz ?_
 refine aXo fun K1 hK1 hG1=> ?_
 have J1:aCI N x17=some r→K1 (aI 45 [(8,(eI .i64 x17.1))]) []:=by
  intro hr
  unfold aCI at hr
  refine hK1 _ _ ?_
  refine zz ?_
  obtain rfl:=sj hr
  exact kG Tryz.results11 []
 obtain⟨bL,hL2,hr⟩:=aD hr
 refine zz ?_
 refine aXn<|aXs (fun m s h=> ∃(x29:Int),nX N aC aA aB aE l bS x17 m x29=some bL∧Ghost 0 s h (aI 45 [(1,(.row none 37 (l.map d9))),(2,(eI .i64 bS)),(3,(.ptr 0 0)),(8,(eI .i64 x17.1)),(28,(eI .i64 (l.length:Int))),(29,(eI .i64 x29))]) [some ⟨26,[(eI .u32 aC),(.row none 35 (aA.map aL)),(.row none 2 (aB.map aM)),(eI .u32 aE)]⟩]) (n:=N) ⟨0,hL2,(zG [0])⟩ (by rintro s h ⟨_,h0,_⟩;simp[nX]at h0) ?_
 rintro m2 s h ⟨x29,hr2,hg⟩
 refine aXr hg ?_
 clear hg hL2
 rw[nX]at hr2
 refine zz ?_
 refine aXl ?_
 refine zk hr2 rfl (fun h7 hr2=> ?_) (fun h7 hr2=> ?_)
 ·refine zz ?_
  refine aXl<|aXn ?_
  refine zz ?_
  refine aXl ?_
  obtain⟨x36,h_8,hr2⟩:=aD hr2
  obtain⟨x39,h_9,hr2⟩:=aD hr2
  refine aXx mixed [8] [] [[0,1,2,3,4,5,6,7,8]] ?_
  refine zz ?_
  refine xu (aJ1 h_9) ?_
  refine zz ?_
  refine zk hr2 rfl (fun h11 hr2=> ?_) (fun h11 hr2=> ?_)
  ·refine zz ?_
   obtain rfl:=sj hr2
   obtain rfl:=sj hr
   exact kG Tryz.results11 []
  refine zz ?_
  exact⟨aXm.wrap (x29+1),hr2,(zG [0])⟩
 refine zz ?_
 obtain rfl:=sj hr2
 refine zz ?_
 exact hG1 _ _ _ _ (zG []) (J1 hr)
theorem aFF {N:Nat}{aC:Int}{aA:List aG}{aB:List aF}{aE:Int}{l:List bA}{bS:Int}{r:Bool}(hr:pY N aC aA aB aE l bS=some r):
  Vm.Fn Tryz.prog 4 [] [(.agg [(eI .u32 aC),(.row none 35 (aA.map aL)),(.row none 2 (aB.map aM)),(eI .u32 aE)]),(.row none 37 (l.map d9)),(eI .i64 bS)] (eB r) []:=by
 refine zf Tryz.func4 Tryz.ntmps4 ?_
 unfold pY at hr
 refine zz ?_
 refine aXl ?_
 obtain⟨b4,h_1,hr⟩:=aD hr
 refine zz ?_
 refine xp (aLB h_1) ?_
 refine zz ?_
 refine zk hr rfl (fun h2 hr=> ?_) (fun h2 hr=> ?_)
 ·refine zz ?_
  obtain rfl:=sj hr
  exact bE Tryz.results4 []
 refine zz ?_
 refine aXl ?_
 refine aXo fun K1 hK1 hG1=> ?_
 have J1: ∀(bT:Bool),l8 N aC aA aB aE l bS bT=some r→K1 (aI 43 [(1,(.row none 37 (l.map d9))),(2,(eI .i64 bS)),(3,(.ptr 0 0)),(20,(eB bT))]) [some ⟨26,[(eI .u32 aC),(.row none 35 (aA.map aL)),(.row none 2 (aB.map aM)),(eI .u32 aE)]⟩]:=by
  intro bT hr
  unfold l8 at hr
  refine hK1 _ _ ?_
  refine zk hr rfl (fun h3 hr=> ?_) (fun h3 hr=> ?_)
  ·refine zz ?_
   obtain rfl:=sj hr
   exact bE Tryz.results4 []
  obtain⟨x25,h_4,hr⟩:=aD hr
  refine zz ?_
  refine xp (aKt h_4) ?_
  obtain⟨lB,h_5,hr⟩:=aD hr
  refine zz ?_
  refine xp (aKA h_5) ?_
  refine zz ?_
  refine aXo fun K2 hK2 hG2=> ?_
  have J2: ∀(x6:Bool),mD N x6=some r→K2 (aI 43 [(6,(eB x6))]) []:=by
   intro x6 hr
   unfold mD at hr
   refine hK2 _ _ ?_
   refine zz ?_
   obtain rfl:=sj hr
   exact bE Tryz.results4 []
  rcases aXk (x25.1 == lB.1)with h6|h6
  ·replace hr:=cQ hr h6
   refine xr ?_
   refine zz ?_
   exact hG2 _ _ _ _ (zG []) (J2 (x25.2 == lB.2) hr)
  replace hr:=cR hr h6
  refine xr ?_
  refine zz ?_
  exact hG2 _ _ _ _ (zG []) (J2 false hr)
 obtain⟨bQ,h_7,hr⟩:=aD hr
 rcases aXk (!bQ)with h8|h8
 ·replace hr:=cQ hr h8
  refine xr ?_
  refine zz ?_
  refine xp (aIJ h_7) ?_
  refine zz ?_
  exact hG1 _ _ _ _ (zG [0]) (J1 true hr)
 replace hr:=cR hr h8
 obtain⟨x18,h_9,hr⟩:=aD hr
 refine xr ?_
 refine zz ?_
 refine xp (aIJ h_7) ?_
 refine zz ?_
 refine xCg (v:=(eB x18)) (h':=[some ⟨26,[(eI .u32 aC),(.row none 35 (aA.map aL)),(.row none 2 (aB.map aM)),(eI .u32 aE)]⟩]) rfl rfl h8 rfl (Vm.Fn.pure (aLJ h_9) rfl rfl) ?_
 refine zz ?_
 exact hG1 _ _ _ _ (zG [0]) (J1 (!x18) hr)
end Go.Proofs.YtbjiaghljpoliaaGreatDoor
