/- Texts of ours, joined: Wk3. -/
import Derived.Test.YtbjiaghljpoliaaGreatDoorQSpendInputs7
open List renaming replicate → aVO,length_map → aVZ
open Bool renaming eq_false_or_eq_true → aVP
open Go.Vm.AB renaming seq → aVQ,seq_g → aVS,block → aVT,ghost → aVY,loopN → aV1,rs → aV2
open Go.IntKind renaming i64 → aVR
open Go.Vm.DrawG renaming pick → aVU,jg → aWf,fork → aWg,nil → aWi
open Go.Vm.Convs renaming same → aVV,cons → aVW,nil → aV7
open Go.Vm.HCv renaming live → aVX,dead → aV5,nil → aWd
open Go.Vm.Ghost renaming trans → aV0,conv → aV4
open Int renaming toNat → aV3,tdiv → aWh
open Go.Vm.Conv renaming same → aV6,tup → aV9,row → aWa
open Go.Vm.FCv renaming cons → aV8,nil → aWc
open Go.Vm.Fork renaming cons → aWb
open Go.Vm.OpsX renaming ghost → aWe
set_option linter.unusedVariables false
set_option linter.unusedSimpArgs false
set_option maxRecDepth 20000
set_option maxHeartbeats 1000000
namespace Go.Proofs.YtbjiaghljpoliaaGreatDoor
open Go Go.Vm
theorem aIs {N:Nat}{l:List aX}{r:Bool}(hr:xK N l=some r):
  Vm.Fn Tryz.prog 69 [] [(.row none 4 (l.map wZ))] (eB r) []:=by
 refine zf Tryz.func69 Tryz.ntmps69 ?_
 unfold xK at hr
 refine zz ?_
 refine aVS fun K1 hK1 hG1=> ?_
 have J1: ∀(l0:List Bool),aBk N l0=some r→K1 (aI 51 [(3,(.sl 0 0 l0.length 1 false))]) [some ⟨4,l0.map eB⟩]:=by
  intro l0 hr
  unfold aBk at hr
  refine hK1 _ _ ?_
  refine zz ?_
  obtain rfl:=sj hr
  exact bI Tryz.results69 []
 obtain⟨bQ,hL2,hr⟩:=aC hr
 refine zz ?_
 refine aVT<|aV1 (fun m s h=> ∃(x8:Int)(aS:List Bool),eO N l m x8 aS=some bQ∧Ghost 0 s h (aI 51 [(3,(.sl 0 0 aS.length 1 false)),(6,(.row none 4 (l.map wZ))),(7,(eI .i64 (l.length:Int))),(8,(eI .i64 x8))]) [some ⟨4,aS.map eB⟩]) (n:=N) ⟨0,[],hL2,(zW 4 [0])⟩ (by rintro s h ⟨_,_,h0,_⟩;simp[eO]at h0) ?_
 rintro m2 s h ⟨x8,aS,hr2,hg⟩
 refine aVY hg ?_
 clear hg hL2
 rw[eO]at hr2
 refine zz ?_
 refine aVQ ?_
 refine zk hr2 rfl (fun h1 hr2=> ?_) (fun h1 hr2=> ?_)
 ·refine zz ?_
  refine aVS fun K3 hK3 hG3=> ?_
  have J3: ∀(fM:List Bool),lZ N l x8 (eO N l m2) fM=some bQ→K3 (aI 51 [(3,(.sl 0 0 fM.length 1 false)),(6,(.row none 4 (l.map wZ))),(7,(eI .i64 (l.length:Int))),(8,(eI .i64 x8))]) [some ⟨4,fM.map eB⟩]:=by
   intro fM hr2
   unfold lZ at hr2
   refine hK3 _ _ ?_
   refine zz ?_
   exact⟨aVR.wrap (x8+1),fM,hr2,(zG [0])⟩
  refine aVT ?_
  obtain⟨cD,h_2,hr2⟩:=aC hr2
  refine zz ?_
  refine aVT ?_
  refine zz ?_
  refine zk hr2 rfl (fun h3 hr2=> ?_) (fun h3 hr2=> ?_)
  ·obtain⟨x18,h_4,hr2⟩:=aC hr2
   refine zz ?_
   exact hG3 _ _ _ _ (zG [3]) (J3 x18 hr2)
  refine zz ?_
  refine zk hr2 rfl (fun h5 hr2=> ?_) (fun h5 hr2=> ?_)
  ·refine aVQ ?_
   refine aVS fun K4 hK4 hG4=> ?_
   have J4: ∀(e9:Bool),sC N l x8 aS (eO N l m2) e9=some bQ→K4 (aI 51 [(3,(.sl 0 0 aS.length 1 false)),(6,(.row none 4 (l.map wZ))),(7,(eI .i64 (l.length:Int))),(8,(eI .i64 x8)),(31,(eB e9))]) [some ⟨4,aS.map eB⟩]:=by
    intro e9 hr2
    unfold sC at hr2
    refine hK4 _ _ ?_
    refine zk hr2 rfl (fun h6 hr2=> ?_) (fun h6 hr2=> ?_)
    ·refine zz ?_
     obtain rfl:=sj hr2
     obtain rfl:=sj hr
     exact bI Tryz.results69 []
    obtain⟨x36,h_7,hr2⟩:=aC hr2
    refine zz ?_
    exact hG3 _ _ _ _ (lK [0]) (J3 (aS.set (aV3 (aVR.wrap ((aS.length:Int)-1))) true) hr2)
   rcases aVP ((aS.length:Int) == 0)with h8|h8
   ·replace hr2:=dD hr2 h8
    refine xr ?_
    refine zz ?_
    exact hG4 _ _ _ _ (zG [0]) (J4 true hr2)
   replace hr2:=dA hr2 h8
   obtain⟨x29,h_9,hr2⟩:=aC hr2
   refine xr ?_
   refine zz ?_
   exact hG4 _ _ _ _ (zG [0]) (J4 x29 hr2)
  refine zz ?_
  refine zk hr2 rfl (fun h10 hr2=> ?_) (fun h10 hr2=> ?_)
  ·refine aVQ ?_
   refine zz ?_
   refine zk hr2 rfl (fun h11 hr2=> ?_) (fun h11 hr2=> ?_)
   ·refine zz ?_
    obtain rfl:=sj hr2
    obtain rfl:=sj hr
    exact bI Tryz.results69 []
   obtain⟨x46,h_12,hr2⟩:=aC hr2
   refine zz ?_
   refine xw (v:=(.sl 0 0 x46.length 1 false)) (cZ rfl rfl rfl (aIE (l:=aS) rfl aNZ ti4 rfl rfl rfl h_12)) ?_
   refine aWe (Ghost.cutM (t:=46) (E:=eB) (l:=aS) (h':=[some ⟨4,x46.map eB⟩,some ⟨90,[(eI .i64 cD.Code),(.row none 1 (cD.Data.map (eI .u8))),(eI .i64 cD.M),(eI .i64 cD.N)]⟩]) rfl rfl h_12 rfl) ?_
   refine zz ?_
   exact hG3 _ _ _ _ (zG [0]) (J3 x46 hr2)
  refine zz ?_
  exact hG3 _ _ _ _ (zG [0]) (J3 aS hr2)
 refine zz ?_
 obtain rfl:=sj hr2
 refine zz ?_
 exact hG1 _ _ _ _ (zG [0]) (J1 aS hr)
theorem aKy {N:Nat}{vs:List (List Int)}{r:Bool}(hr:aBu N vs=some r):
  Vm.Fn Tryz.prog 70 [] [(.row none 1 (vs.map (eL 1 (eI .u8))))] (eB r) []:=by
 refine zf Tryz.func70 Tryz.ntmps70 ?_
 unfold aBu at hr
 refine zz ?_
 refine aVQ ?_
 refine zz ?_
 refine zk hr rfl (fun h1 hr=> ?_) (fun h1 hr=> ?_)
 ·refine zz ?_
  obtain rfl:=sj hr
  exact bI Tryz.results70 []
 refine zz ?_
 refine aVS fun K1 hK1 hG1=> ?_
 have J1:aCw N=some r→K1 (aI 18 []) []:=by
  intro hr
  unfold aCw at hr
  refine hK1 _ _ ?_
  refine zz ?_
  obtain rfl:=sj hr
  exact bI Tryz.results70 []
 obtain⟨bQ,hL2,hr⟩:=aC hr
 refine zz ?_
 refine aVT<|aV1 (fun m s h=> ∃(cD:Int),mT N vs m cD=some bQ∧Ghost 0 s h (aI 18 [(8,(.row none 1 (vs.map (eL 1 (eI .u8))))),(9,(eI .i64 (vs.length:Int))),(10,(eI .i64 cD))]) []) (n:=N) ⟨0,hL2,(zG [])⟩ (by rintro s h ⟨_,h0,_⟩;simp[mT]at h0) ?_
 rintro m2 s h ⟨cD,hr2,hg⟩
 refine aVY hg ?_
 clear hg hL2
 rw[mT]at hr2
 refine zz ?_
 refine aVQ ?_
 refine zk hr2 rfl (fun h2 hr2=> ?_) (fun h2 hr2=> ?_)
 ·refine zz ?_
  refine aVQ<|aVT ?_
  obtain⟨fC,h_3,hr2⟩:=aC hr2
  refine zz ?_
  refine zk hr2 rfl (fun h4 hr2=> ?_) (fun h4 hr2=> ?_)
  ·refine zz ?_
   obtain rfl:=sj hr2
   obtain rfl:=sj hr
   exact bI Tryz.results70 []
  refine zz ?_
  exact⟨aVR.wrap (cD+1),hr2,(zG [])⟩
 refine zz ?_
 obtain rfl:=sj hr2
 refine zz ?_
 exact hG1 _ _ _ _ (zG []) (J1 hr)
theorem aH5 {N:Nat}{l:List (List Int)}{r:(List (List Int))}(hr:wT N l=some r):
  Vm.Fn Tryz.prog 71 [] [(.row none 1 (l.map (eL 1 (eI .u8))))] (.sl 0 0 r.length 1 false) [some ⟨31,r.map (eL 1 (eI .u8))⟩]:=by
 refine zf Tryz.func71 Tryz.ntmps71 ?_
 unfold wT at hr
 obtain⟨x8,h_1,hr⟩:=aC hr
 refine zz ?_
 refine xw (v:=(.sl 0 0 0 1 false)) (h':=[some ⟨31,x8.map (eL 1 (eI .u8))⟩]) (aIR rfl rfl (mkC (E:=(eL 1 (eI .u8))) (y:=([]:List Int)) aAZ dC ⟨zl,rfl,rfl⟩ rfl rfl rfl h_1 rfl rfl)) ?_
 refine zz ?_
 refine aVS fun K1 hK1 hG1=> ?_
 have J1: ∀(l0:List (List Int)),aAO N l0=some r→K1 (aI 23 [(3,(.sl 0 0 l0.length 1 false))]) [some ⟨31,l0.map (eL 1 (eI .u8))⟩]:=by
  intro l0 hr
  unfold aAO at hr
  refine hK1 _ _ ?_
  refine zz ?_
  obtain rfl:=sj hr
  exact bI Tryz.results71 [0]
 refine zz ?_
 refine aVY (Ghost.cutM (t:=3) (E:=(eL 1 (eI .u8))) (l:=x8) (x:=[]) (h':=[some ⟨31,[].map (eL 1 (eI .u8))⟩]) rfl rfl aT0 rfl) ?_
 obtain⟨bQ,hL2,hr⟩:=aC hr
 refine aVT<|aV1 (fun m s h=> ∃(b4:Int)(aS:List (List Int)),kI N l m b4 aS=some bQ∧Ghost 0 s h (aI 23 [(3,(.sl 0 0 aS.length 1 false)),(9,(.row none 1 (l.map (eL 1 (eI .u8))))),(10,(eI .i64 (l.length:Int))),(11,(eI .i64 b4))]) [some ⟨31,aS.map (eL 1 (eI .u8))⟩]) (n:=N) ⟨0,[],hL2,(lK [0])⟩ (by rintro s h ⟨_,_,h0,_⟩;simp[kI]at h0) ?_
 rintro m2 s h ⟨b4,aS,hr2,hg⟩
 refine aVY hg ?_
 clear hg hL2
 rw[kI]at hr2
 refine zz ?_
 refine aVQ ?_
 refine zk hr2 rfl (fun h2 hr2=> ?_) (fun h2 hr2=> ?_)
 ·refine zz ?_
  refine aVQ<|aVT ?_
  obtain⟨d5,h_3,hr2⟩:=aC hr2
  obtain⟨x18,h_4,hr2⟩:=aC hr2
  obtain⟨bS,h_5,hr2⟩:=aC hr2
  refine zz ?_
  refine jD (aAa h_4) [] [1] ?_
  refine aWe (zv 2) ?_
  refine zz ?_
  exact⟨aVR.wrap (b4+1),bS,hr2,(zG [4])⟩
 refine zz ?_
 obtain rfl:=sj hr2
 refine zz ?_
 exact hG1 _ _ _ _ (zG [0]) (J1 aS hr)
theorem aIz {N:Nat}{l:List bB}{r:Bool}(hr:wW N l=some r):
  Vm.Fn Tryz.prog 72 [] [(.row none 2 (l.map aDC))] (eB r) []:=by
 refine zf Tryz.func72 Tryz.ntmps72 ?_
 unfold wW at hr
 refine zz ?_
 refine aVS fun K1 hK1 hG1=> ?_
 have J1: ∀(x2:Bool),o4 N x2=some r→K1 (aI 24 [(2,(eB x2))]) []:=by
  intro x2 hr
  unfold o4 at hr
  refine hK1 _ _ ?_
  refine zz ?_
  obtain rfl:=sj hr
  exact bI Tryz.results72 []
 rcases aVP ((l.length:Int) == 0)with h1|h1
 ·replace hr:=dD hr h1
  refine xr ?_
  refine zz ?_
  exact hG1 _ _ _ _ (zG []) (J1 true hr)
 replace hr:=dA hr h1
 obtain⟨b4,h_2,hr⟩:=aC hr
 rcases aVP b4.reached with h3|h3
 ·replace hr:=dD hr h3
  refine xr ?_
  refine zz ?_
  exact hG1 _ _ _ _ (zG []) (J1 b4.done hr)
 replace hr:=dA hr h3
 refine xr ?_
 refine zz ?_
 exact hG1 _ _ _ _ (zG []) (J1 false hr)
theorem aJj {N:Nat}{aT:Int}{bO:List Int}{o_M o_N r:Int}(hr:aBT N aT bO o_M o_N=some r):
  Vm.Fn Tryz.prog 73 [] [(.agg [(eI .i64 aT),(.row none 1 (bO.map (eI .u8))),(eI .i64 o_M),(eI .i64 o_N)])] (eI .i64 r) []:=by
 refine zf Tryz.func73 Tryz.ntmps73 ?_
 unfold aBT at hr
 refine zz ?_
 refine aVQ ?_
 refine zz ?_
 refine aVT ?_
 refine zz ?_
 refine zk hr rfl (fun h1 hr=> ?_) (fun h1 hr=> ?_)
 ·refine zz ?_
  obtain rfl:=sj hr
  exact bI Tryz.results73 []
 refine zz ?_
 refine zk hr rfl (fun h2 hr=> ?_) (fun h2 hr=> ?_)
 ·refine zz ?_
  obtain rfl:=sj hr
  exact bI Tryz.results73 []
 refine zz ?_
 refine zk hr rfl (fun h3 hr=> ?_) (fun h3 hr=> ?_)
 ·refine zz ?_
  obtain rfl:=sj hr
  exact bI Tryz.results73 []
 refine zz ?_
 obtain rfl:=sj hr
 exact bI Tryz.results73 []
theorem aI8 {N:Nat}{aT:Int}{bO:List Int}{o_M o_N r:Int}(hr:zM N aT bO o_M o_N=some r):
  Vm.Fn Tryz.prog 74 [] [(.agg [(eI .i64 aT),(.row none 1 (bO.map (eI .u8))),(eI .i64 o_M),(eI .i64 o_N)])] (eI .i64 r) []:=by
 refine zf Tryz.func74 Tryz.ntmps74 ?_
 unfold zM at hr
 refine zz ?_
 refine aVQ ?_
 refine zz ?_
 refine aVT ?_
 refine aVS fun K1 hK1 hG1=> ?_
 have J1: ∀(x5:Bool),fR N aT bO o_M o_N x5=some r→K1 (aI 24 [(1,(.ptr 0 0)),(4,(eI .i64 aT)),(5,(eB x5))]) [some ⟨90,[(eI .i64 aT),(.row none 1 (bO.map (eI .u8))),(eI .i64 o_M),(eI .i64 o_N)]⟩]:=by
  intro x5 hr
  unfold fR at hr
  refine hK1 _ _ ?_
  refine zk hr rfl (fun h1 hr=> ?_) (fun h1 hr=> ?_)
  ·refine zz ?_
   obtain rfl:=sj hr
   exact bI Tryz.results74 []
  refine aVS fun K2 hK2 hG2=> ?_
  have J2: ∀(x15:Bool),pY N aT bO o_M o_N x15=some r→K2 (aI 24 [(1,(.ptr 0 0)),(4,(eI .i64 aT)),(15,(eB x15))]) [some ⟨90,[(eI .i64 aT),(.row none 1 (bO.map (eI .u8))),(eI .i64 o_M),(eI .i64 o_N)]⟩]:=by
   intro x15 hr
   unfold pY at hr
   refine hK2 _ _ ?_
   refine zk hr rfl (fun h2 hr=> ?_) (fun h2 hr=> ?_)
   ·refine zz ?_
    obtain rfl:=sj hr
    exact bI Tryz.results74 []
   refine zz ?_
   refine zk hr rfl (fun h3 hr=> ?_) (fun h3 hr=> ?_)
   ·refine zz ?_
    obtain rfl:=sj hr
    exact bI Tryz.results74 []
   refine zz ?_
   obtain rfl:=sj hr
   exact bI Tryz.results74 []
  refine zz ?_
  refine zk hr rfl (fun h4 hr=> ?_) (fun h4 hr=> ?_)
  ·refine zz ?_
   exact hG2 _ _ _ _ (zG [0]) (J2 (aT == 4) hr)
  refine zz ?_
  refine zk hr rfl (fun h5 hr=> ?_) (fun h5 hr=> ?_)
  ·refine zz ?_
   exact hG2 _ _ _ _ (zG [0]) (J2 (aT == 5) hr)
  refine zz ?_
  exact hG2 _ _ _ _ (zG [0]) (J2 (aT == 10) hr)
 refine zz ?_
 refine zk hr rfl (fun h6 hr=> ?_) (fun h6 hr=> ?_)
 ·refine zz ?_
  exact hG1 _ _ _ _ (zG [0]) (J1 (aT == 2) hr)
 refine zz ?_
 refine zk hr rfl (fun h7 hr=> ?_) (fun h7 hr=> ?_)
 ·refine zz ?_
  exact hG1 _ _ _ _ (zG [0]) (J1 (aT == 3) hr)
 refine zz ?_
 refine zk hr rfl (fun h8 hr=> ?_) (fun h8 hr=> ?_)
 ·refine zz ?_
  exact hG1 _ _ _ _ (zG [0]) (J1 (aT == 6) hr)
 refine zz ?_
 refine zk hr rfl (fun h9 hr=> ?_) (fun h9 hr=> ?_)
 ·refine zz ?_
  exact hG1 _ _ _ _ (zG [0]) (J1 (aT == 7) hr)
 refine zz ?_
 refine zk hr rfl (fun h10 hr=> ?_) (fun h10 hr=> ?_)
 ·refine zz ?_
  exact hG1 _ _ _ _ (zG [0]) (J1 (aT == 8) hr)
 refine zz ?_
 refine zk hr rfl (fun h11 hr=> ?_) (fun h11 hr=> ?_)
 ·refine zz ?_
  exact hG1 _ _ _ _ (zG [0]) (J1 (aT == 9) hr)
 refine zz ?_
 refine zk hr rfl (fun h12 hr=> ?_) (fun h12 hr=> ?_)
 ·refine zz ?_
  exact hG1 _ _ _ _ (zG [0]) (J1 (aT == 12) hr)
 refine zz ?_
 refine zk hr rfl (fun h13 hr=> ?_) (fun h13 hr=> ?_)
 ·refine zz ?_
  exact hG1 _ _ _ _ (zG [0]) (J1 (aT == 13) hr)
 refine zz ?_
 exact hG1 _ _ _ _ (zG [0]) (J1 (aT == 14) hr)
theorem aAl {N:Nat}{b:List Int}{r:Bool}(hr:pL N b=some r):
  Vm.Fn Tryz.prog 42 [] [(.row none 1 (b.map (eI .u8)))] (eB r) []:=by
 refine zf Tryz.func42 Tryz.ntmps42 ?_
 unfold pL at hr
 refine zz ?_
 refine aVS fun K1 hK1 hG1=> ?_
 have J1:aCx N=some r→K1 (aI 14 []) []:=by
  intro hr
  unfold aCx at hr
  refine hK1 _ _ ?_
  refine zz ?_
  obtain rfl:=sj hr
  exact bI Tryz.results42 []
 obtain⟨bQ,hL2,hr⟩:=aC hr
 refine zz ?_
 refine aVT<|aV1 (fun m s h=> ∃(x7:Int),o6 N b m x7=some bQ∧Ghost 0 s h (aI 14 [(5,(.row none 1 (b.map (eI .u8)))),(6,(eI .i64 (b.length:Int))),(7,(eI .i64 x7))]) []) (n:=N) ⟨0,hL2,(zG [])⟩ (by rintro s h ⟨_,h0,_⟩;simp[o6]at h0) ?_
 rintro m2 s h ⟨x7,hr2,hg⟩
 refine aVY hg ?_
 clear hg hL2
 rw[o6]at hr2
 refine zz ?_
 refine aVQ ?_
 refine zk hr2 rfl (fun h1 hr2=> ?_) (fun h1 hr2=> ?_)
 ·refine zz ?_
  refine aVQ<|aVT ?_
  obtain⟨x9,h_2,hr2⟩:=aC hr2
  refine zz ?_
  refine zk hr2 rfl (fun h3 hr2=> ?_) (fun h3 hr2=> ?_)
  ·refine zz ?_
   obtain rfl:=sj hr2
   obtain rfl:=sj hr
   exact bI Tryz.results42 []
  refine zz ?_
  exact⟨aVR.wrap (x7+1),hr2,(zG [])⟩
 refine zz ?_
 obtain rfl:=sj hr2
 refine zz ?_
 exact hG1 _ _ _ _ (zG []) (J1 hr)
theorem aAN {N:Nat}{vs:List (List Int)}{gG:List Int}{r:(List (List Int))×Int}(hr:oH N vs gG=some r):
  Vm.Fn Tryz.prog 96 [] [(.row none 1 (vs.map (eL 1 (eI .u8)))),(.row none 1 (gG.map (eI .u8)))] (.tup [(.sl 0 0 r.1.length 1 false),(eI .i64 r.2)]) [some ⟨31,r.1.map (eL 1 (eI .u8))⟩]:=by
 refine zf Tryz.func96 Tryz.ntmps96 ?_
 unfold oH at hr
 refine zz ?_
 refine aVQ ?_
 refine zz ?_
 refine zk hr rfl (fun h1 hr=> ?_) (fun h1 hr=> ?_)
 ·refine zz ?_
  obtain rfl:=sj hr
  exact nX Tryz.results96 bH bH (zW 31 [0])
 obtain⟨bR,h_2,hr⟩:=aC hr
 obtain⟨x17,h_3,hr⟩:=aC hr
 refine zz ?_
 obtain rfl:=sj hr
 exact sZ Tryz.results96 [1]
theorem aKH {N:Nat}{va b:List Int}{r:Bool}(hr:aCS N va b=some r):
  Vm.Fn Tryz.prog 98 [] [(.row none 1 (va.map (eI .u8))),(.row none 1 (b.map (eI .u8)))] (eB r) []:=by
 refine zf Tryz.func98 Tryz.ntmps98 ?_
 unfold aCS at hr
 refine zz ?_
 refine xw (v:=(eS (rV va))) (jQ rfl (aKO dC ti9 dO (aDH (fun _=>rfl)))) ?_
 refine zz ?_
 refine xw (v:=(eS (rV b))) (jQ rfl (aKO dC ti9 dO (aDH (fun _=>rfl))))<|xw (v5 rfl rfl (aK8 ..)) ?_
 refine zz ?_
 obtain rfl:=sj hr
 exact bI Tryz.results98 []
theorem aCq {N:Nat}{vn:Int}{r:(List Int)}(hr:uF N vn=some r):
  Vm.Fn Tryz.prog 99 [] [(eI .u32 vn)] (.sl 0 0 r.length 1 false) [some ⟨5,r.map (eI .u8)⟩]:=by
 refine zf Tryz.func99 Tryz.ntmps99 ?_
 unfold uF at hr
 refine zz ?_
 refine aVS fun K1 hK1 hG1=> ?_
 have J1: ∀(l0:List Int),aCD N l0=some r→K1 (aI 14 [(3,(.sl 0 0 l0.length 1 false))]) [some ⟨5,l0.map (eI .u8)⟩]:=by
  intro l0 hr
  unfold aCD at hr
  refine hK1 _ _ ?_
  refine zz ?_
  obtain rfl:=sj hr
  exact bI Tryz.results99 [0]
 obtain⟨bQ,hL2,hr⟩:=aC hr
 refine aVT<|aV1 (fun m s h=> ∃(eD:Int)(aS:List Int),o8 N m eD aS=some bQ∧Ghost 0 s h (aI 14 [(0,(eI .u32 eD)),(3,(.sl 0 0 aS.length 1 false))]) [some ⟨5,aS.map (eI .u8)⟩]) (n:=N) ⟨vn,[],hL2,(zW 5 [0])⟩ (by rintro s h ⟨_,_,h0,_⟩;simp[o8]at h0) ?_
 rintro m2 s h ⟨eD,aS,hr2,hg⟩
 refine aVY hg ?_
 clear hg hL2
 rw[o8]at hr2
 refine aVQ ?_
 refine zz ?_
 refine zk hr2 rfl (fun h1 hr2=> ?_) (fun h1 hr2=> ?_)
 ·refine zz ?_
  refine aVQ<|aVT ?_
  obtain⟨fC,h_2,hr2⟩:=aC hr2
  refine zz ?_
  exact⟨IntKind.u32.wrap (aWh eD 256),fC,hr2,(zG [2])⟩
 refine zz ?_
 obtain rfl:=sj hr2
 refine zz ?_
 exact hG1 _ _ _ _ (zG [0]) (J1 aS hr)
theorem yN {N:Nat}{b:Bool}{r:(List Int)}(hr:n9 N b=some r):
  Vm.Fn Tryz.prog 97 [] [(eB b)] (.row none 1 (r.map (eI .u8))) []:=by
 refine zf Tryz.func97 Tryz.ntmps97 ?_
 unfold n9 at hr
 refine zz ?_
 refine aVQ ?_
 refine zz ?_
 refine zk hr rfl (fun h1 hr=> ?_) (fun h1 hr=> ?_)
 ·obtain⟨x4,h_2,hr⟩:=aC hr
  refine zz ?_
  refine zc (aCq h_2) [] ?_
  refine zz ?_
  obtain rfl:=sj hr
  exact iA Tryz.results97 bH (aV0 (zv 0) (zG []))
 obtain⟨x5,h_3,hr⟩:=aC hr
 refine zz ?_
 refine zc (aCq h_3) [] ?_
 refine zz ?_
 obtain rfl:=sj hr
 exact iA Tryz.results97 bH (aV0 (zv 0) (zG []))
theorem r9 {N:Nat}{vh:List Int}{r:(List Int)}(hr:i7 N vh=some r):
  Vm.Fn Tryz.prog 117 [] [(.agg (vh.map (eI .u8)))] (.agg (r.map (eI .u64))) []:=by
 refine zf Tryz.func117 Tryz.ntmps117 ?_
 unfold i7 at hr
 refine zz ?_
 refine aVS fun K1 hK1 hG1=> ?_
 have J1: ∀(l1:List Int),sH N l1=some r→K1 (aI 27 [(2,(.ptr 0 0)),(3,(.ptr 1 0))]) [some ⟨135,(aVO 4 0).map (eI .u64)⟩,some ⟨135,l1.map (eI .u64)⟩]:=by
  intro l1 hr
  unfold sH at hr
  refine hK1 _ _ ?_
  obtain⟨q,h_1,hr⟩:=aC hr
  refine zz ?_
  obtain rfl:=sj hr
  exact iA Tryz.results117 bH (zG [])
 obtain⟨bQ,hL2,hr⟩:=aC hr
 refine zz ?_
 refine aVT<|aV1 (fun m s h=> ∃(x6:Int)(l2:List Int),jP N vh m x6 l2=some bQ∧Ghost 0 s h (aI 27 [(1,(.ptr 0 0)),(2,(.ptr 1 0)),(3,(.ptr 2 0)),(6,(eI .i64 x6))]) [some ⟨28,vh.map (eI .u8)⟩,some ⟨135,(aVO 4 0).map (eI .u64)⟩,some ⟨135,l2.map (eI .u64)⟩]) (n:=N) ⟨0,aVO 4 0,hL2,(zG [0,1,2])⟩ (by rintro s h ⟨_,_,h0,_⟩;simp[jP]at h0) ?_
 rintro m2 s h ⟨x6,l2,hr2,hg⟩
 refine aVY hg ?_
 clear hg hL2
 rw[jP]at hr2
 refine zz ?_
 refine aVQ ?_
 refine zk hr2 rfl (fun h2 hr2=> ?_) (fun h2 hr2=> ?_)
 ·refine zz ?_
  refine aVQ<|aVT ?_
  obtain⟨d5,h_3,hr2⟩:=aC hr2
  obtain⟨x16,h_4,hr2⟩:=aC hr2
  obtain⟨bX,h_5,hr2⟩:=aC hr2
  refine zz ?_
  refine aV2 mixed [] [] [[0,1,2,3,4,5,6,7,8,9,10,11,12,13,14]] ?_
  refine zz ?_
  exact⟨aVR.wrap (x6+1),l2.set (aV3 (aVR.wrap (aWh (aVR.wrap (31-x6)) 8))) (bits .or .u64 d5 bX),hr2,(zG [0,1,2])⟩
 refine zz ?_
 obtain rfl:=sj hr2
 refine zz ?_
 exact hG1 _ _ _ _ (zG [1,2]) (J1 l2 hr)
theorem mR {N:Nat}{vn:Int}{r:(List Int)}(hr:gV N vn=some r):
  Vm.Fn Tryz.prog 124 [] [(eI .u64 vn)] (.agg (r.map (eI .u64))) []:=by
 refine zf Tryz.func124 Tryz.ntmps124 ?_
 unfold gV at hr
 refine zz ?_
 refine xw (v:=(.agg ([vn,0,0,0].map (eI .u64)))) (cE rfl (nB b8 nA rfl)) ?_
 refine zz ?_
 obtain rfl:=sj hr
 exact iA Tryz.results124 bH (zG [])
theorem rJ {N:Nat}{va:List Int}{r:Bool}(hr:sI N va=some r):
  Vm.Fn Tryz.prog 137 [] [(.agg (va.map (eI .u64)))] (eB r) []:=by
 refine zf Tryz.func137 Tryz.ntmps137 ?_
 unfold sI at hr
 obtain⟨q,h_1,hr⟩:=aC hr
 refine zz ?_
 refine xw (v:=(.agg ([0,0,0,0].map (eI .u64)))) (cE rfl (nB b8 nA rfl)) ?_
 refine zz ?_
 obtain rfl:=sj hr
 exact bI Tryz.results137 []
theorem aBa {N:Nat}{va b:List Int}{r:(List Int)×Bool}(hr:sM N va b=some r):
  Vm.Fn Tryz.prog 127 [] [(.agg (va.map (eI .u64))),(.agg (b.map (eI .u64)))] (.tup [(.agg (r.1.map (eI .u64))),(eB r.2)]) []:=by
 refine zf Tryz.func127 Tryz.ntmps127 ?_
 unfold sM at hr
 refine zz ?_
 refine aVS fun K1 hK1 hG1=> ?_
 have J1: ∀(borrow:Int)(l1:List Int),aA4 N borrow l1=some r→K1 (aI 29 [(4,(.ptr 0 0)),(6,(.ptr 1 0)),(7,(eI .u64 borrow))]) [some ⟨135,(aVO 4 0).map (eI .u64)⟩,some ⟨135,l1.map (eI .u64)⟩]:=by
  intro borrow l1 hr
  unfold aA4 at hr
  refine hK1 _ _ ?_
  obtain⟨q,h_1,hr⟩:=aC hr
  refine zz ?_
  obtain rfl:=sj hr
  exact nX Tryz.results127 bH bH (lK [])
 obtain⟨bQ,hL2,hr⟩:=aC hr
 refine zz ?_
 refine aVT<|aV1 (fun m s h=> ∃(borrow_1 x9:Int)(l3:List Int),q8 N va b m borrow_1 x9 l3=some bQ∧Ghost 0 s h (aI 29 [(2,(.ptr 0 0)),(3,(.ptr 1 0)),(4,(.ptr 2 0)),(6,(.ptr 3 0)),(7,(eI .u64 borrow_1)),(9,(eI .i64 x9))]) [some ⟨135,va.map (eI .u64)⟩,some ⟨135,b.map (eI .u64)⟩,some ⟨135,(aVO 4 0).map (eI .u64)⟩,some ⟨135,l3.map (eI .u64)⟩]) (n:=N) ⟨0,0,aVO 4 0,hL2,(zG [0,1,2,3])⟩ (by rintro s h ⟨_,_,_,h0,_⟩;simp[q8]at h0) ?_
 rintro m2 s h ⟨borrow_1,x9,l3,hr2,hg⟩
 refine aVY hg ?_
 clear hg hL2
 rw[q8]at hr2
 refine zz ?_
 refine aVQ ?_
 refine zk hr2 rfl (fun h2 hr2=> ?_) (fun h2 hr2=> ?_)
 ·refine zz ?_
  refine aVQ<|aVT ?_
  obtain⟨x15,h_3,hr2⟩:=aC hr2
  obtain⟨x18,h_4,hr2⟩:=aC hr2
  obtain⟨d9,h_5,hr2⟩:=aC hr2
  obtain⟨fG,h_7,hr2⟩:=aC hr2
  refine zz ?_
  refine aV2 mixed [141] [] [[0,1,2,3,4,5,6,7,8,9,10,11,12,13,14]] ?_
  refine zz ?_
  refine xu (aCc h_5) ?_
  refine zz ?_
  exact⟨d9.2,aVR.wrap (x9+1),l3.set (aV3 x9) d9.1,hr2,(zG [0,1,2,3])⟩
 refine zz ?_
 obtain rfl:=sj hr2
 refine zz ?_
 exact hG1 _ _ _ _ (zG [2,3]) (J1 borrow_1 l3 hr)
theorem qD {N:Nat}{r:(List Int)}(hr:mX N=some r):
  Vm.Fn Tryz.prog 139 [] [] (.agg (r.map (eI .u64))) []:=by
 refine zf Tryz.func139 Tryz.ntmps139 ?_
 unfold mX at hr
 obtain⟨x5,h_1,hr⟩:=aC hr
 obtain⟨x6,h_2,hr⟩:=aC hr
 obtain⟨q,h_3,hr⟩:=aC hr
 refine zz ?_
 refine xw (v:=(.agg ([0,0,0,0].map (eI .u64)))) (cE rfl (nB b8 nA rfl))<|xp (mR h_1)<|xp (aBa h_2) ?_
 refine zz ?_
 obtain rfl:=sj hr
 exact iA Tryz.results139 bH (zG [])
theorem tV {N:Nat}{va b:List Int}{r:Int}(hr:sJ N va b=some r):
  Vm.Fn Tryz.prog 138 [] [(.agg (va.map (eI .u64))),(.agg (b.map (eI .u64)))] (eI .i64 r) []:=by
 refine zf Tryz.func138 Tryz.ntmps138 ?_
 unfold sJ at hr
 refine zz ?_
 refine aVS fun K1 hK1 hG1=> ?_
 have J1:aDk N=some r→K1 (aI 24 []) []:=by
  intro hr
  unfold aDk at hr
  refine hK1 _ _ ?_
  refine zz ?_
  obtain rfl:=sj hr
  exact bI Tryz.results138 []
 obtain⟨bQ,hL2,hr⟩:=aC hr
 refine zz ?_
 refine aVT<|aV1 (fun m s h=> ∃(vi:Int),qR N va b m vi=some bQ∧Ghost 0 s h (aI 24 [(2,(.ptr 0 0)),(3,(.ptr 1 0)),(5,(eI .i64 vi))]) [some ⟨135,va.map (eI .u64)⟩,some ⟨135,b.map (eI .u64)⟩]) (n:=N) ⟨3,hL2,(zG [0,1])⟩ (by rintro s h ⟨_,h0,_⟩;simp[qR]at h0) ?_
 rintro m2 s h ⟨vi,hr2,hg⟩
 refine aVY hg ?_
 clear hg hL2
 rw[qR]at hr2
 refine aVQ ?_
 refine zz ?_
 refine zk hr2 rfl (fun h1 hr2=> ?_) (fun h1 hr2=> ?_)
 ·refine zz ?_
  refine aVQ<|aVT<|aVQ<|aVQ ?_
  obtain⟨b4,h_2,hr2⟩:=aC hr2
  obtain⟨bR,h_3,hr2⟩:=aC hr2
  refine aV2 mixed [] [] [[0,1,2,3,4,5,6]] ?_
  refine zz ?_
  refine zk hr2 rfl (fun h4 hr2=> ?_) (fun h4 hr2=> ?_)
  ·refine zz ?_
   obtain rfl:=sj hr2
   obtain rfl:=sj hr
   exact bI Tryz.results138 []
  refine zz ?_
  refine aVQ<|aV2 mixed [] [] [[0,1,2,3,4,5,6]] ?_
  refine zz ?_
  refine zk hr2 rfl (fun h5 hr2=> ?_) (fun h5 hr2=> ?_)
  ·refine zz ?_
   obtain rfl:=sj hr2
   obtain rfl:=sj hr
   exact bI Tryz.results138 []
  refine zz ?_
  exact⟨aVR.wrap (vi-1),hr2,(zG [0,1])⟩
 refine zz ?_
 obtain rfl:=sj hr2
 refine zz ?_
 exact hG1 _ _ _ _ (zG []) (J1 hr)
theorem xV {N:Nat}{va:List Int}{vi:Int}{r:Bool}(hr:oL N va vi=some r):
  Vm.Fn Tryz.prog 156 [] [(.agg (va.map (eI .u64))),(eI .i64 vi)] (eB r) []:=by
 refine zf Tryz.func156 Tryz.ntmps156 ?_
 unfold oL at hr
 obtain⟨x7,h_1,hr⟩:=aC hr
 obtain⟨b4,h_2,hr⟩:=aC hr
 refine zz ?_
 obtain rfl:=sj hr
 exact bI Tryz.results156 []
theorem aLI {N:Nat}{va:List Int}{vn:Int}{r:(List Int)}(hr:aD2 N va vn=some r):
  Vm.Fn Tryz.prog 142 [] [(.agg (va.map (eI .u64))),(eI .i64 vn)] (.agg (r.map (eI .u64))) []:=by
 refine zf Tryz.func142 Tryz.ntmps142 ?_
 unfold aD2 at hr
 refine zz ?_
 refine aVQ ?_
 refine zz ?_
 refine zk hr rfl (fun h1 hr=> ?_) (fun h1 hr=> ?_)
 ·obtain⟨q,h_2,hr⟩:=aC hr
  refine zz ?_
  obtain rfl:=sj hr
  exact iA Tryz.results142 bH (zG [])
 refine zz ?_
 refine aVQ ?_
 refine zz ?_
 refine zk hr rfl (fun h3 hr=> ?_) (fun h3 hr=> ?_)
 ·refine zz ?_
  refine xw (v:=(.agg ([0,0,0,0].map (eI .u64)))) (cE rfl (nB b8 nA rfl)) ?_
  refine zz ?_
  obtain rfl:=sj hr
  exact iA Tryz.results142 bH (zG [])
 refine zz ?_
 refine aVS fun K1 hK1 hG1=> ?_
 have J1: ∀(l1:List Int),aDG N l1=some r→K1 (aI 34 [(4,(.ptr 0 0)),(5,(.ptr 1 0))]) [some ⟨135,(aVO 4 0).map (eI .u64)⟩,some ⟨135,l1.map (eI .u64)⟩]:=by
  intro l1 hr
  unfold aDG at hr
  refine hK1 _ _ ?_
  obtain⟨q_1,h_4,hr⟩:=aC hr
  refine zz ?_
  obtain rfl:=sj hr
  exact iA Tryz.results142 bH (zG [])
 obtain⟨bQ,hL2,hr⟩:=aC hr
 refine zz ?_
 refine aVT<|aV1 (fun m s h=> ∃(vi:Int)(l2:List Int),jL N va vn m vi l2=some bQ∧Ghost 0 s h (aI 34 [(1,(eI .i64 vn)),(2,(.ptr 0 0)),(4,(.ptr 1 0)),(5,(.ptr 2 0)),(6,(eI .i64 vi))]) [some ⟨135,va.map (eI .u64)⟩,some ⟨135,(aVO 4 0).map (eI .u64)⟩,some ⟨135,l2.map (eI .u64)⟩]) (n:=N) ⟨0,aVO 4 0,hL2,(zG [0,1,2])⟩ (by rintro s h ⟨_,_,h0,_⟩;simp[jL]at h0) ?_
 rintro m2 s h ⟨vi,l2,hr2,hg⟩
 refine aVY hg ?_
 clear hg hL2
 rw[jL]at hr2
 refine aVQ ?_
 refine zz ?_
 refine zk hr2 rfl (fun h5 hr2=> ?_) (fun h5 hr2=> ?_)
 ·refine zz ?_
  refine aVS fun K3 hK3 hG3=> ?_
  have J3: ∀(i9:List Int),aAS N va vn vi (jL N va vn m2) i9=some bQ→K3 (aI 34 [(1,(eI .i64 vn)),(2,(.ptr 0 0)),(4,(.ptr 1 0)),(5,(.ptr 2 0)),(6,(eI .i64 vi))]) [some ⟨135,va.map (eI .u64)⟩,some ⟨135,(aVO 4 0).map (eI .u64)⟩,some ⟨135,i9.map (eI .u64)⟩]:=by
   intro i9 hr2
   unfold aAS at hr2
   refine hK3 _ _ ?_
   refine zz ?_
   exact⟨aVR.wrap (vi+1),i9,hr2,(zG [0,1,2])⟩
  refine aVT ?_
  obtain⟨q_2,h_6,hr2⟩:=aC hr2
  obtain⟨iB,h_7,hr2⟩:=aC hr2
  refine zz ?_
  refine xp (xV h_7) ?_
  refine zz ?_
  refine zk hr2 rfl (fun h8 hr2=> ?_) (fun h8 hr2=> ?_)
  ·obtain⟨x26,h_9,hr2⟩:=aC hr2
   obtain⟨lL,h_10,hr2⟩:=aC hr2
   refine aV2 mixed [] [] [[0,1,2,3,4,5,6,7,8,9]] ?_
   refine zz ?_
   exact hG3 _ _ _ _ (zG [0,1,2]) (J3 (l2.set (aV3 (aVR.wrap (aWh vi 64))) (bits .or .u64 x26 lL)) hr2)
  refine zz ?_
  exact hG3 _ _ _ _ (zG [0,1,2]) (J3 l2 hr2)
 refine zz ?_
 obtain rfl:=sj hr2
 refine zz ?_
 exact hG1 _ _ _ _ (zG [1,2]) (J1 l2 hr)
theorem yS {N:Nat}{r:(List Int)}(hr:pV N=some r):
  Vm.Fn Tryz.prog 128 [] [] (.agg (r.map (eI .u64))) []:=by
 refine zf Tryz.func128 Tryz.ntmps128 ?_
 unfold pV at hr
 obtain⟨x1,h_1,hr⟩:=aC hr
 obtain⟨x2,h_2,hr⟩:=aC hr
 obtain⟨q,h_3,hr⟩:=aC hr
 refine zz ?_
 refine xp (qD h_1)<|xp (aLI h_2) ?_
 refine zz ?_
 obtain rfl:=sj hr
 exact iA Tryz.results128 bH (zG [])
theorem aF4 {N:Nat}{va b:List Int}{r:(List Int)×Bool}(hr:xJ N va b=some r):
  Vm.Fn Tryz.prog 172 [] [(.agg (va.map (eI .u64))),(.agg (b.map (eI .u64)))] (.tup [(.agg (r.1.map (eI .u64))),(eB r.2)]) []:=by
 refine zf Tryz.func172 Tryz.ntmps172 ?_
 unfold xJ at hr
 refine zz ?_
 refine aVS fun K1 hK1 hG1=> ?_
 have J1: ∀(kY:Int)(l1:List Int),aAY N kY l1=some r→K1 (aI 29 [(4,(.ptr 0 0)),(6,(.ptr 1 0)),(7,(eI .u64 kY))]) [some ⟨135,(aVO 4 0).map (eI .u64)⟩,some ⟨135,l1.map (eI .u64)⟩]:=by
  intro kY l1 hr
  unfold aAY at hr
  refine hK1 _ _ ?_
  obtain⟨q,h_1,hr⟩:=aC hr
  refine zz ?_
  obtain rfl:=sj hr
  exact nX Tryz.results172 bH bH (lK [])
 obtain⟨bQ,hL2,hr⟩:=aC hr
 refine zz ?_
 refine aVT<|aV1 (fun m s h=> ∃(carry_1 x9:Int)(l3:List Int),qV N va b m carry_1 x9 l3=some bQ∧Ghost 0 s h (aI 29 [(2,(.ptr 0 0)),(3,(.ptr 1 0)),(4,(.ptr 2 0)),(6,(.ptr 3 0)),(7,(eI .u64 carry_1)),(9,(eI .i64 x9))]) [some ⟨135,va.map (eI .u64)⟩,some ⟨135,b.map (eI .u64)⟩,some ⟨135,(aVO 4 0).map (eI .u64)⟩,some ⟨135,l3.map (eI .u64)⟩]) (n:=N) ⟨0,0,aVO 4 0,hL2,(zG [0,1,2,3])⟩ (by rintro s h ⟨_,_,_,h0,_⟩;simp[qV]at h0) ?_
 rintro m2 s h ⟨carry_1,x9,l3,hr2,hg⟩
 refine aVY hg ?_
 clear hg hL2
 rw[qV]at hr2
 refine zz ?_
 refine aVQ ?_
 refine zk hr2 rfl (fun h2 hr2=> ?_) (fun h2 hr2=> ?_)
 ·refine zz ?_
  refine aVQ<|aVT ?_
  obtain⟨x15,h_3,hr2⟩:=aC hr2
  obtain⟨x18,h_4,hr2⟩:=aC hr2
  obtain⟨d9,h_5,hr2⟩:=aC hr2
  obtain⟨fG,h_7,hr2⟩:=aC hr2
  refine zz ?_
  refine aV2 mixed [171] [] [[0,1,2,3,4,5,6,7,8,9,10,11,12,13,14]] ?_
  refine zz ?_
  refine xu (lD h_5) ?_
  refine zz ?_
  exact⟨d9.2,aVR.wrap (x9+1),l3.set (aV3 x9) d9.1,hr2,(zG [0,1,2,3])⟩
 refine zz ?_
 obtain rfl:=sj hr2
 refine zz ?_
 exact hG1 _ _ _ _ (zG [2,3]) (J1 carry_1 l3 hr)
theorem aGo {N:Nat}{hi lo b:List Int}{r:(List Int)×(List Int)×Bool}(hr:aAv N hi lo b=some r):
  Vm.Fn Tryz.prog 159 [] [(.agg (hi.map (eI .u64))),(.agg (lo.map (eI .u64))),(.agg (b.map (eI .u64)))] (.tup [(.agg (r.1.map (eI .u64))),(.agg (r.2.1.map (eI .u64))),(eB r.2.2)]) []:=by
 refine zf Tryz.func159 Tryz.ntmps159 ?_
 unfold aAv at hr
 refine zz ?_
 refine aVQ ?_
 obtain⟨q,h_1,hr⟩:=aC hr
 obtain⟨q_1,h_2,hr⟩:=aC hr
 obtain⟨d5,h_3,hr⟩:=aC hr
 refine zz ?_
 refine xp (tV h_3) ?_
 refine zz ?_
 refine zk hr rfl (fun h4 hr=> ?_) (fun h4 hr=> ?_)
 ·refine aVQ<|AB.rd (fQ []) (fQ []) mixed<|aVU (n:=4) (i:=0) (by decide +kernel) rfl (gS (v:=(.agg ((aVO 4 0).map (eI .u64)))) (sv (cA rfl (ldA (E:=(eI .u64)) (l:=aVO 4 0) b8 rfl rfl rfl)))) ?_
  refine DrawG.jn (m:=2) (L:=lst [0,1,2] 5) (s1:=aI 61 [(6,(.ptr 0 0)),(7,(.ptr 1 0)),(8,(eB false)),(16,(.agg ((aVO 4 0).map (eI .u64))))]) (h1:=[some ⟨135,(aVO 4 0).map (eI .u64)⟩,some ⟨135,(aVO 4 0).map (eI .u64)⟩]) ?_ (fun J=> ?_)
  ·refine aVU (n:=1) (i:=3) (by decide +kernel) rfl (gN (h':=[some ⟨135,(aVO 4 0).map (eI .u64)⟩,some ⟨135,(aVO 4 0).map (eI .u64)⟩]) (sv (bN rfl rfl (zA (E:=(eI .u64)) (l:=aVO 4 0) b8 rfl rfl (fun _=>rfl) rfl rfl rfl))))<|aVU (n:=0) (i:=4) (by decide +kernel) rfl (gS (v:=(eB false)) (sv (pA rfl)))<|aWi (by decide +kernel) ?_
   refine zz ?_
   obtain rfl:=sj hr
   exact wP Tryz.results159 bH bH bH (lK [])
  refine aWg (n:=3) [1,2] (by decide +kernel) (by decide) ?_
  refine(aWb rfl (gS (v:=(.agg ((aVO 4 0).map (eI .u64)))) (sv (cA rfl (ldA (E:=(eI .u64)) (l:=aVO 4 0) b8 rfl rfl rfl)))) ?_ (aWb rfl (gN (h':=[some ⟨135,hi.map (eI .u64)⟩,some ⟨135,lo.map (eI .u64)⟩,some ⟨135,b.map (eI .u64)⟩,some ⟨135,(aVO 4 0).map (eI .u64)⟩,some ⟨135,(aVO 4 0).map (eI .u64)⟩]) (sv (bN rfl rfl (zA (E:=(eI .u64)) (l:=aVO 4 0) b8 rfl rfl (fun _=>rfl) rfl rfl rfl)))) ?_ Fork.nil))
  ·refine aVU (n:=2) (i:=2) (by decide +kernel) rfl (gN (h':=[some ⟨135,hi.map (eI .u64)⟩,some ⟨135,lo.map (eI .u64)⟩,some ⟨135,b.map (eI .u64)⟩,some ⟨135,(aVO 4 0).map (eI .u64)⟩,some ⟨135,(aVO 4 0).map (eI .u64)⟩]) (sv (bN rfl rfl (zA (E:=(eI .u64)) (l:=aVO 4 0) b8 rfl rfl (fun _=>rfl) rfl rfl rfl)))) ?_
   exact aWf (by decide +kernel) (by decide +kernel) (zG [3,4]) J
  refine aVU (n:=2) (i:=1) (by decide +kernel) rfl (gS (v:=(.agg ((aVO 4 0).map (eI .u64)))) (sv (cA rfl (ldA (E:=(eI .u64)) (l:=aVO 4 0) b8 rfl rfl rfl)))) ?_
  exact aWf (by decide +kernel) (by decide +kernel) (zG [3,4]) J
 refine zz ?_
 refine aVS fun K1 hK1 hG1=> ?_
 have J1: ∀(l0 l1:List Int),aBn N l0 l1=some r→K1 (aI 61 [(6,(.ptr 0 0)),(7,(.ptr 1 0))]) [some ⟨135,l0.map (eI .u64)⟩,some ⟨135,l1.map (eI .u64)⟩]:=by
  intro l0 l1 hr
  unfold aBn at hr
  refine hK1 _ _<|aVQ ?_
  obtain⟨q_2,h_5,hr⟩:=aC hr
  obtain⟨q_3,h_6,hr⟩:=aC hr
  refine AB.rd (fQ []) (fQ []) mixed<|aVU (n:=4) (i:=0) (by decide +kernel) rfl (gS (v:=(.agg (l0.map (eI .u64)))) (sv (cA rfl (ldA (E:=(eI .u64)) (l:=l0) b8 rfl rfl (bE h_5))))) ?_
  refine DrawG.jn (m:=2) (L:=lst [0,1,2] 5) (s1:=aI 61 [(6,(.ptr 0 0)),(7,(.ptr 1 0)),(60,(.agg (l1.map (eI .u64))))]) (h1:=[some ⟨135,l0.map (eI .u64)⟩,some ⟨135,l1.map (eI .u64)⟩]) ?_ (fun J=> ?_)
  ·refine aVU (n:=1) (i:=3) (by decide +kernel) rfl (gN (h':=[some ⟨135,l0.map (eI .u64)⟩,some ⟨135,l1.map (eI .u64)⟩]) (sv (bN rfl rfl (zA (E:=(eI .u64)) (l:=l1) b8 rfl rfl (fun _=>rfl) (bE h_6) (bE h_6) rfl))))<|aVU (n:=0) (i:=4) (by decide +kernel) rfl (gS (v:=(eB true)) (sv (pA rfl)))<|aWi (by decide +kernel) ?_
   refine zz ?_
   obtain rfl:=sj hr
   exact wP Tryz.results159 bH bH bH (lK [])
  refine aWg (n:=3) [1,2] (by decide +kernel) (by decide) ?_
  refine(aWb rfl (gS (v:=(.agg (l1.map (eI .u64)))) (sv (cA rfl (ldA (E:=(eI .u64)) (l:=l1) b8 rfl rfl (bE h_6))))) ?_ (aWb rfl (gN (h':=[some ⟨135,l0.map (eI .u64)⟩,some ⟨135,l1.map (eI .u64)⟩]) (sv (bN rfl rfl (zA (E:=(eI .u64)) (l:=l0) b8 rfl rfl (fun _=>rfl) (bE h_5) (bE h_5) rfl)))) ?_ Fork.nil))
  ·refine aVU (n:=2) (i:=2) (by decide +kernel) rfl (gN (h':=[some ⟨135,l0.map (eI .u64)⟩,some ⟨135,l1.map (eI .u64)⟩]) (sv (bN rfl rfl (zA (E:=(eI .u64)) (l:=l0) b8 rfl rfl (fun _=>rfl) (bE h_5) (bE h_5) rfl)))) ?_
   exact aWf (by decide +kernel) (by decide +kernel) (zG [0,1]) J
  refine aVU (n:=2) (i:=1) (by decide +kernel) rfl (gS (v:=(.agg (l1.map (eI .u64)))) (sv (cA rfl (ldA (E:=(eI .u64)) (l:=l1) b8 rfl rfl (bE h_6))))) ?_
  exact aWf (by decide +kernel) (by decide +kernel) (zG [0,1]) J
 obtain⟨bQ,hL2,hr⟩:=aC hr
 refine zz ?_
 refine aVT<|aV1 (fun m s h=> ∃(vi:Int)(l2 l3:List Int),fL N lo b m vi l2 l3=some bQ∧Ghost 0 s h (aI 61 [(4,(.ptr 0 0)),(5,(.ptr 1 0)),(6,(.ptr 2 0)),(7,(.ptr 3 0)),(9,(eI .i64 vi))]) [some ⟨135,lo.map (eI .u64)⟩,some ⟨135,b.map (eI .u64)⟩,some ⟨135,l2.map (eI .u64)⟩,some ⟨135,l3.map (eI .u64)⟩]) (n:=N) ⟨255,aVO 4 0,hi,hL2,(zG [1,2,3,4])⟩ (by rintro s h ⟨_,_,_,h0,_⟩;simp[fL]at h0) ?_
 rintro m2 s h ⟨vi,l2,l3,hr2,hg⟩
 refine aVY hg ?_
 clear hg hL2
 rw[fL]at hr2
 refine aVQ ?_
 refine zz ?_
 refine zk hr2 rfl (fun h7 hr2=> ?_) (fun h7 hr2=> ?_)
 ·refine zz ?_
  refine aVS fun K3 hK3 hG3=> ?_
  have J3: ∀(i9 eZ:List Int),tU N lo b vi (fL N lo b m2) i9 eZ=some bQ→K3 (aI 61 [(4,(.ptr 0 0)),(5,(.ptr 1 0)),(6,(.ptr 2 0)),(7,(.ptr 3 0)),(9,(eI .i64 vi))]) [some ⟨135,lo.map (eI .u64)⟩,some ⟨135,b.map (eI .u64)⟩,some ⟨135,i9.map (eI .u64)⟩,some ⟨135,eZ.map (eI .u64)⟩]:=by
   intro i9 eZ hr2
   unfold tU at hr2
   refine hK3 _ _ ?_
   refine zz ?_
   exact⟨aVR.wrap (vi-1),i9,eZ,hr2,(zG [0,1,2,3])⟩
  refine aVT ?_
  obtain⟨q_4,h_8,hr2⟩:=aC hr2
  obtain⟨iB,h_9,hr2⟩:=aC hr2
  refine zz ?_
  refine xp (xV h_9) ?_
  obtain⟨x27,h_10,hr2⟩:=aC hr2
  obtain⟨q_5,h_11,hr2⟩:=aC hr2
  refine zz ?_
  refine xp (aF4 h_10) ?_
  refine zz ?_
  refine aVS fun K4 hK4 hG4=> ?_
  have J4: ∀(jU:List Int),tG N lo b vi l2 iB (fL N lo b m2) jU=some bQ→K4 (aI 61 [(4,(.ptr 0 0)),(5,(.ptr 1 0)),(6,(.ptr 2 0)),(7,(.ptr 3 0)),(9,(eI .i64 vi)),(10,(eB iB))]) [some ⟨135,lo.map (eI .u64)⟩,some ⟨135,b.map (eI .u64)⟩,some ⟨135,l2.map (eI .u64)⟩,some ⟨135,jU.map (eI .u64)⟩]:=by
   intro jU hr2
   unfold tG at hr2
   refine hK4 _ _ ?_
   refine aVS fun K5 hK5 hG5=> ?_
   have J5: ∀(x43:Bool),qQ N lo b vi l2 jU (fL N lo b m2) x43=some bQ→K5 (aI 61 [(4,(.ptr 0 0)),(5,(.ptr 1 0)),(6,(.ptr 2 0)),(7,(.ptr 3 0)),(9,(eI .i64 vi)),(43,(eB x43))]) [some ⟨135,lo.map (eI .u64)⟩,some ⟨135,b.map (eI .u64)⟩,some ⟨135,l2.map (eI .u64)⟩,some ⟨135,jU.map (eI .u64)⟩]:=by
    intro x43 hr2
    unfold qQ at hr2
    refine hK5 _ _ ?_
    refine zk hr2 rfl (fun h12 hr2=> ?_) (fun h12 hr2=> ?_)
    ·obtain⟨q_6,h_13,hr2⟩:=aC hr2
     obtain⟨x47,h_14,hr2⟩:=aC hr2
     obtain⟨q_7,h_15,hr2⟩:=aC hr2
     refine zz ?_
     refine xp (aBa h_14) ?_
     obtain⟨x52,h_16,hr2⟩:=aC hr2
     obtain⟨x56,h_17,hr2⟩:=aC hr2
     refine zz ?_
     refine aV2 mixed [] [] [[0,1,2,3,4,5,6,7,8,9]] ?_
     refine zz ?_
     exact hG3 _ _ _ _ (zG [0,1,2,3]) (J3 (l2.set (aV3 (aVR.wrap (aWh vi 64))) (bits .or .u64 x52 x56)) x47.1 hr2)
    refine zz ?_
    exact hG3 _ _ _ _ (zG [0,1,2,3]) (J3 l2 jU hr2)
   rcases aVP iB with h18|h18
   ·replace hr2:=dD hr2 h18
    refine xr ?_
    refine zz ?_
    exact hG5 _ _ _ _ (zG [0,1,2,3]) (J5 true hr2)
   replace hr2:=dA hr2 h18
   obtain⟨q_8,h_19,hr2⟩:=aC hr2
   obtain⟨x41,h_20,hr2⟩:=aC hr2
   refine xr ?_
   refine zz ?_
   refine xCg (v:=(eI .i64 x41)) (h':=[some ⟨135,lo.map (eI .u64)⟩,some ⟨135,b.map (eI .u64)⟩,some ⟨135,l2.map (eI .u64)⟩,some ⟨135,jU.map (eI .u64)⟩]) rfl rfl h18 rfl (Vm.Fn.pure (tV h_20) zR rfl) ?_
   refine zz ?_
   exact hG5 _ _ _ _ (zG [0,1,2,3]) (J5 (decide (0≤x41)) hr2)
  obtain⟨q_9,h_21,hr2⟩:=aC hr2
  obtain⟨nW,h_22,hr2⟩:=aC hr2
  refine zz ?_
  refine xp (xV h_22) ?_
  refine zz ?_
  refine zk hr2 rfl (fun h23 hr2=> ?_) (fun h23 hr2=> ?_)
  ·obtain⟨jY,h_24,hr2⟩:=aC hr2
   refine zz ?_
   exact hG4 _ _ _ _ (zG [0,1,2,3]) (J4 (x27.1.set (aV3 0) (bits .or .u64 jY 1)) hr2)
  refine zz ?_
  exact hG4 _ _ _ _ (zG [0,1,2,3]) (J4 x27.1 hr2)
 refine zz ?_
 obtain rfl:=sj hr2
 refine zz ?_
 exact hG1 _ _ _ _ (zG [2,3]) (J1 l2 l3 hr)
theorem rP {N:Nat}{va vm:List Int}{r:(List Int)}(hr:mB N va vm=some r):
  Vm.Fn Tryz.prog 158 [] [(.agg (va.map (eI .u64))),(.agg (vm.map (eI .u64)))] (.agg (r.map (eI .u64))) []:=by
 refine zf Tryz.func158 Tryz.ntmps158 ?_
 unfold mB at hr
 obtain⟨q,h_1,hr⟩:=aC hr
 obtain⟨q_1,h_2,hr⟩:=aC hr
 obtain⟨fC,h_3,hr⟩:=aC hr
 obtain⟨q_2,h_4,hr⟩:=aC hr
 obtain⟨q_3,h_5,hr⟩:=aC hr
 refine zz ?_
 refine xw (v:=(.agg ([0,0,0,0].map (eI .u64)))) (cE rfl (nB b8 nA rfl)) ?_
 refine zz ?_
 refine xp (aGo h_3) ?_
 refine zz ?_
 obtain rfl:=sj hr
 exact iA Tryz.results158 bH (zG [])
theorem aLw {N:Nat}{va:List Int}{r:Int}(hr:aDY N va=some r):
  Vm.Fn Tryz.prog 160 [] [(.agg (va.map (eI .u64)))] (eI .i64 r) []:=by
 refine zf Tryz.func160 Tryz.ntmps160 ?_
 unfold aDY at hr
 refine zz ?_
 refine aVS fun K1 hK1 hG1=> ?_
 have J1:aAF N=some r→K1 (aI 13 []) []:=by
  intro hr
  unfold aAF at hr
  refine hK1 _ _ ?_
  refine zz ?_
  obtain rfl:=sj hr
  exact bI Tryz.results160 []
 obtain⟨bQ,hL2,hr⟩:=aC hr
 refine zz ?_
 refine aVT<|aV1 (fun m s h=> ∃(vi:Int),qP N va m vi=some bQ∧Ghost 0 s h (aI 13 [(1,(.ptr 0 0)),(3,(eI .i64 vi))]) [some ⟨135,va.map (eI .u64)⟩]) (n:=N) ⟨255,hL2,(zG [0])⟩ (by rintro s h ⟨_,h0,_⟩;simp[qP]at h0) ?_
 rintro m2 s h ⟨vi,hr2,hg⟩
 refine aVY hg ?_
 clear hg hL2
 rw[qP]at hr2
 refine aVQ ?_
 refine zz ?_
 refine zk hr2 rfl (fun h1 hr2=> ?_) (fun h1 hr2=> ?_)
 ·refine zz ?_
  refine aVQ<|aVT ?_
  obtain⟨q,h_2,hr2⟩:=aC hr2
  obtain⟨cD,h_3,hr2⟩:=aC hr2
  refine zz ?_
  refine xp (xV h_3) ?_
  refine zz ?_
  refine zk hr2 rfl (fun h4 hr2=> ?_) (fun h4 hr2=> ?_)
  ·refine zz ?_
   obtain rfl:=sj hr2
   obtain rfl:=sj hr
   exact bI Tryz.results160 []
  refine zz ?_
  exact⟨aVR.wrap (vi-1),hr2,(zG [0])⟩
 refine zz ?_
 obtain rfl:=sj hr2
 refine zz ?_
 exact hG1 _ _ _ _ (zG []) (J1 hr)
theorem aKY {N:Nat}{va b:List Int}{r:(List Int)×(List Int)}(hr:aCn N va b=some r):
  Vm.Fn Tryz.prog 157 [] [(.agg (va.map (eI .u64))),(.agg (b.map (eI .u64)))] (.tup [(.agg (r.1.map (eI .u64))),(.agg (r.2.map (eI .u64)))]) []:=by
 refine zf Tryz.func157 Tryz.ntmps157 ?_
 unfold aCn at hr
 refine zz ?_
 refine aVS fun K1 hK1 hG1=> ?_
 have J1: ∀(l2:List Int),wX N l2=some r→K1 (aI 71 [(4,(.ptr 0 0)),(5,(.ptr 1 0)),(6,(.ptr 2 0))]) [some ⟨135,(aVO 4 0).map (eI .u64)⟩,some ⟨135,(aVO 4 0).map (eI .u64)⟩,some ⟨167,l2.map (eI .u64)⟩]:=by
  intro l2 hr
  unfold wX at hr
  refine hK1 _ _<|aVQ ?_
  obtain⟨q,h_1,hr⟩:=aC hr
  obtain⟨x64,h_2,hr⟩:=aC hr
  refine aV2 mixed [] [] [[0,1,2]] ?_
  refine zz ?_
  refine xw (v:=(.sl 2 (aV3 0*1) x64.length 1 false)) (cZ rfl rfl rfl (aLM (E:=(eI .u64)) (l:=l2) aGG nA rfl rfl rfl (bE h_1) zl rfl rfl h_2)) ?_
  refine xw (v:=(eI .i64 ((min x64.length (aVO 4 0).length:Nat):Int))) (h':=[some ⟨135,(aVO 4 0).map (eI .u64)⟩,some ⟨135,(nE (aVO 4 0) x64).map (eI .u64)⟩,some ⟨167,l2.map (eI .u64)⟩]) (aEs rfl rfl (aIT (E:=(eI .u64)) (l:=aVO 4 0) rfl aNw nA rfl rfl (aTG (l:=l2) rfl (fun _=>rfl) h_2) rfl)) ?_
  refine zz ?_
  refine aVQ ?_
  obtain⟨x67,h_3,hr⟩:=aC hr
  refine aV2 mixed [] [] [[0,1,2]] ?_
  refine zz ?_
  refine xw (v:=(.sl 2 (aV3 4*1) x67.length 1 false)) (cZ rfl rfl rfl (aLM (E:=(eI .u64)) (l:=l2) aGG nA rfl rfl rfl (bE h_1) zl rfl rfl h_3)) ?_
  refine xw (v:=(eI .i64 ((min x67.length (aVO 4 0).length:Nat):Int))) (h':=[some ⟨135,(nE (aVO 4 0) x67).map (eI .u64)⟩,some ⟨135,(nE (aVO 4 0) x64).map (eI .u64)⟩,some ⟨167,l2.map (eI .u64)⟩]) (aEs rfl rfl (aIT (E:=(eI .u64)) (l:=aVO 4 0) rfl aNw nA rfl rfl (aTG (l:=l2) rfl (fun _=>rfl) h_3) rfl)) ?_
  obtain⟨q_1,h_4,hr⟩:=aC hr
  obtain⟨q_2,h_5,hr⟩:=aC hr
  refine zz ?_
  obtain rfl:=sj hr
  exact nX Tryz.results157 bH bH (lK [])
 obtain⟨bQ,hL2,hr⟩:=aC hr
 refine zz ?_
 refine aVT<|aV1 (fun m s h=> ∃(x15:Int)(l4:List Int),mL N va b m x15 l4=some bQ∧Ghost 0 s h (aI 71 [(2,(.ptr 0 0)),(3,(.ptr 1 0)),(4,(.ptr 2 0)),(5,(.ptr 3 0)),(6,(.ptr 4 0)),(15,(eI .i64 x15))]) [some ⟨135,va.map (eI .u64)⟩,some ⟨135,b.map (eI .u64)⟩,some ⟨135,(aVO 4 0).map (eI .u64)⟩,some ⟨135,(aVO 4 0).map (eI .u64)⟩,some ⟨167,l4.map (eI .u64)⟩]) (n:=N) ⟨0,aVO 8 0,hL2,(zG [0,1,2,3,4])⟩ (by rintro s h ⟨_,_,h0,_⟩;simp[mL]at h0) ?_
 rintro m2 s h ⟨x15,l4,hr2,hg⟩
 refine aVY hg ?_
 clear hg hL2
 rw[mL]at hr2
 refine zz ?_
 refine aVQ ?_
 refine zk hr2 rfl (fun h6 hr2=> ?_) (fun h6 hr2=> ?_)
 ·refine zz ?_
  refine aVS fun K3 hK3 hG3=> ?_
  have J3: ∀(hY:List Int),aBg N va b x15 (mL N va b m2) hY=some bQ→K3 (aI 71 [(2,(.ptr 0 0)),(3,(.ptr 1 0)),(4,(.ptr 2 0)),(5,(.ptr 3 0)),(6,(.ptr 4 0)),(15,(eI .i64 x15))]) [some ⟨135,va.map (eI .u64)⟩,some ⟨135,b.map (eI .u64)⟩,some ⟨135,(aVO 4 0).map (eI .u64)⟩,some ⟨135,(aVO 4 0).map (eI .u64)⟩,some ⟨167,hY.map (eI .u64)⟩]:=by
   intro hY hr2
   unfold aBg at hr2
   refine hK3 _ _ ?_
   refine zz ?_
   exact⟨aVR.wrap (x15+1),hY,hr2,(zG [0,1,2,3,4])⟩
  refine aVT ?_
  refine zz ?_
  refine aVS fun K4 hK4 hG4=> ?_
  have J4: ∀(kY:Int)(aAp:List Int),aAC N va b x15 (mL N va b m2) kY aAp=some bQ→K4 (aI 71 [(2,(.ptr 0 0)),(3,(.ptr 1 0)),(4,(.ptr 2 0)),(5,(.ptr 3 0)),(6,(.ptr 4 0)),(7,(eI .i64 x15)),(8,(eI .u64 kY)),(15,(eI .i64 x15))]) [some ⟨135,va.map (eI .u64)⟩,some ⟨135,b.map (eI .u64)⟩,some ⟨135,(aVO 4 0).map (eI .u64)⟩,some ⟨135,(aVO 4 0).map (eI .u64)⟩,some ⟨167,aAp.map (eI .u64)⟩]:=by
   intro kY aAp hr2
   unfold aAC at hr2
   refine hK4 _ _ ?_
   obtain⟨x61,h_7,hr2⟩:=aC hr2
   refine zz ?_
   exact hG3 _ _ _ _ (zG [0,1,2,3,4]) (J3 (aAp.set (aV3 (aVR.wrap (x15+4))) kY) hr2)
  obtain⟨res5,hL5,hr2⟩:=aC hr2
  refine zz ?_
  refine aVT<|aV1 (fun m s h=> ∃(carry_1 x18:Int)(l4_3:List Int),qZ N va b x15 m carry_1 x18 l4_3=some res5∧Ghost 0 s h (aI 71 [(2,(.ptr 0 0)),(3,(.ptr 1 0)),(4,(.ptr 2 0)),(5,(.ptr 3 0)),(6,(.ptr 4 0)),(7,(eI .i64 x15)),(8,(eI .u64 carry_1)),(15,(eI .i64 x15)),(18,(eI .i64 x18))]) [some ⟨135,va.map (eI .u64)⟩,some ⟨135,b.map (eI .u64)⟩,some ⟨135,(aVO 4 0).map (eI .u64)⟩,some ⟨135,(aVO 4 0).map (eI .u64)⟩,some ⟨167,l4_3.map (eI .u64)⟩]) (n:=N) ⟨0,0,l4,hL5,(zG [0,1,2,3,4])⟩ (by rintro s h ⟨_,_,_,h0,_⟩;simp[qZ]at h0) ?_
  rintro m5 s h ⟨carry_1,x18,l4_3,hr5,hg⟩
  refine aVY hg ?_
  clear hg hL5
  rw[qZ]at hr5
  refine zz ?_
  refine aVQ ?_
  refine zk hr5 rfl (fun h8 hr5=> ?_) (fun h8 hr5=> ?_)
  ·refine zz ?_
   refine aVQ<|aVT ?_
   refine zz ?_
   refine aVQ ?_
   obtain⟨iB,h_9,hr5⟩:=aC hr5
   obtain⟨x26,h_10,hr5⟩:=aC hr5
   obtain⟨x28,h_11,hr5⟩:=aC hr5
   refine aV2 mixed [170] [] [[0,1,2,3,4,5,6,7,8,9,10,11]] ?_
   refine zz ?_
   refine xu (aCl h_11) ?_
   obtain⟨x35,h_13,hr5⟩:=aC hr5
   obtain⟨x38,h_14,hr5⟩:=aC hr5
   refine zz ?_
   refine xp (lD h_14) ?_
   obtain⟨x44,h_15,hr5⟩:=aC hr5
   refine zz ?_
   refine xp (lD h_15) ?_
   refine zz ?_
   exact⟨IntKind.u64.wrap ((IntKind.u64.wrap (x28.1+x38.2))+x44.2),aVR.wrap (x18+1),l4_3.set (aV3 (aVR.wrap (x15+x18))) x44.1,hr5,(zG [0,1,2,3,4])⟩
  refine zz ?_
  obtain rfl:=sj hr5
  refine zz ?_
  exact hG4 _ _ _ _ (zG [0,1,2,3,4]) (J4 carry_1 l4_3 hr2)
 refine zz ?_
 obtain rfl:=sj hr2
 refine zz ?_
 exact hG1 _ _ _ _ (zG [2,3,4]) (J1 l4 hr)
theorem aBl {N:Nat}{va b vm:List Int}{r:(List Int)}(hr:q4 N va b vm=some r):
  Vm.Fn Tryz.prog 143 [] [(.agg (va.map (eI .u64))),(.agg (b.map (eI .u64))),(.agg (vm.map (eI .u64)))] (.agg (r.map (eI .u64))) []:=by
 refine zf Tryz.func143 Tryz.ntmps143 ?_
 unfold q4 at hr
 refine zz ?_
 refine aVQ ?_
 obtain⟨q,h_1,hr⟩:=aC hr
 obtain⟨d5,h_2,hr⟩:=aC hr
 refine zz ?_
 refine xp (rJ h_2) ?_
 refine zz ?_
 refine zk hr rfl (fun h3 hr=> ?_) (fun h3 hr=> ?_)
 ·refine zz ?_
  obtain rfl:=sj hr
  exact iA Tryz.results143 bH (zG [])
 refine zz ?_
 refine aVQ ?_
 obtain⟨q_1,h_4,hr⟩:=aC hr
 obtain⟨x18,h_5,hr⟩:=aC hr
 obtain⟨q_2,h_7,hr⟩:=aC hr
 obtain⟨d9,h_8,hr⟩:=aC hr
 obtain⟨bX,h_10,hr⟩:=aC hr
 obtain⟨q_3,h_12,hr⟩:=aC hr
 obtain⟨q_4,h_13,hr⟩:=aC hr
 refine AB.rd (fQ [157,158]) (fQ []) mixed<|aVU (n:=13) (i:=0) (by decide +kernel) rfl (gS (v:=(.agg (va.map (eI .u64)))) (sv (cA rfl (ldA (E:=(eI .u64)) (l:=va) b8 rfl rfl (bE h_4)))))<|aVU (n:=12) (i:=1) (by decide +kernel) rfl (gS (v:=(.agg (vm.map (eI .u64)))) (sv (cA rfl (ldA (E:=(eI .u64)) (l:=vm) b8 rfl rfl (bE h_1)))))<|aVU (n:=11) (i:=2) (by decide +kernel) rfl (gU (fun _=>(Vm.Fn.pure (rP h_5) zR zR)) rfl (sv (lS rfl xO)))<|aVU (n:=10) (i:=3) (by decide +kernel) rfl (gS (v:=(.agg (b.map (eI .u64)))) (sv (cA rfl (ldA (E:=(eI .u64)) (l:=b) b8 rfl rfl (bE h_7))))) ?_
 refine aVU (n:=9) (i:=4) (by decide +kernel) rfl (gS (v:=(.agg (vm.map (eI .u64)))) (sv (cA rfl (ldA (E:=(eI .u64)) (l:=vm) b8 rfl rfl (bE h_1)))))<|aVU (n:=8) (i:=5) (by decide +kernel) rfl (gU (fun _=>(Vm.Fn.pure (rP h_8) zR zR)) rfl (sv (lS rfl xO)))<|aVU (n:=7) (i:=6) (by decide +kernel) rfl (gU (fun _=>(Vm.Fn.pure (aKY h_10) zR zR)) rfl (sv (lS rfl xO)))<|aVU (n:=6) (i:=7) (by decide +kernel) rfl (gS (v:=(.tup [(.agg (bX.1.map (eI .u64))),(.agg (bX.2.map (eI .u64)))])) (sv (mI rfl)))<|aVU (n:=5) (i:=8) (by decide +kernel) rfl (gS (v:=(.agg (bX.1.map (eI .u64)))) (sv (aGH rfl rfl))) ?_
 refine aVU (n:=4) (i:=9) (by decide +kernel) rfl (gS (v:=(.agg (bX.2.map (eI .u64)))) (sv (aGH rfl rfl))) ?_
 refine DrawG.jn (m:=1) (L:=lst [0,1,2,3,4,5,6,7,8,9,10,11,12] 14) (s1:=aI 34 [(5,(.ptr 0 0)),(6,(.ptr 1 0)),(7,(.ptr 2 0)),(8,(.ptr 3 0)),(24,(.agg (bX.2.map (eI .u64))))]) (h1:=[some ⟨135,vm.map (eI .u64)⟩,some ⟨135,(aVO 4 0).map (eI .u64)⟩,some ⟨135,bX.1.map (eI .u64)⟩,some ⟨135,(aVO 4 0).map (eI .u64)⟩]) ?_ (fun J=> ?_)
 ·refine aVU (n:=0) (i:=13) (by decide +kernel) rfl (gN (h':=[some ⟨135,vm.map (eI .u64)⟩,some ⟨135,(aVO 4 0).map (eI .u64)⟩,some ⟨135,bX.1.map (eI .u64)⟩,some ⟨135,bX.2.map (eI .u64)⟩]) (sv (bN rfl rfl (zA (E:=(eI .u64)) (l:=aVO 4 0) b8 rfl rfl (fun _=>rfl) rfl (bE h_13) rfl))))<|aWi (by decide +kernel) ?_
  obtain⟨x29,h_14,hr⟩:=aC hr
  obtain⟨q_5,h_15,hr⟩:=aC hr
  obtain⟨q_6,h_16,hr⟩:=aC hr
  refine zz ?_
  refine xp (aGo h_14) ?_
  refine zz ?_
  obtain rfl:=sj hr
  exact iA Tryz.results143 bH (zG [])
 refine aWg (n:=3) [10,11] (by decide +kernel) (by decide) ?_
 refine(aWb rfl (gS (v:=(.ptr 4 0)) (h':=[some ⟨135,va.map (eI .u64)⟩,some ⟨135,b.map (eI .u64)⟩,some ⟨135,vm.map (eI .u64)⟩,some ⟨135,(aVO 4 0).map (eI .u64)⟩,some ⟨135,(aVO 4 0).map (eI .u64)⟩]) (sv (dR b8 rfl rfl rfl))) ?_ (aWb rfl (gS (v:=(.ptr 4 0)) (h':=[some ⟨135,va.map (eI .u64)⟩,some ⟨135,b.map (eI .u64)⟩,some ⟨135,vm.map (eI .u64)⟩,some ⟨135,(aVO 4 0).map (eI .u64)⟩,some ⟨135,(aVO 4 0).map (eI .u64)⟩]) (sv (dR b8 rfl rfl rfl))) ?_ Fork.nil))
 ·refine aVU (n:=2) (i:=11) (by decide +kernel) rfl (gS (v:=(.ptr 5 0)) (h':=[some ⟨135,va.map (eI .u64)⟩,some ⟨135,b.map (eI .u64)⟩,some ⟨135,vm.map (eI .u64)⟩,some ⟨135,(aVO 4 0).map (eI .u64)⟩,some ⟨135,(aVO 4 0).map (eI .u64)⟩,some ⟨135,(aVO 4 0).map (eI .u64)⟩]) (sv (dR b8 rfl rfl rfl)))<|aVU (n:=1) (i:=12) (by decide +kernel) rfl (gN (h':=[some ⟨135,va.map (eI .u64)⟩,some ⟨135,b.map (eI .u64)⟩,some ⟨135,vm.map (eI .u64)⟩,some ⟨135,(aVO 4 0).map (eI .u64)⟩,some ⟨135,bX.1.map (eI .u64)⟩,some ⟨135,(aVO 4 0).map (eI .u64)⟩]) (sv (bN rfl rfl (zA (E:=(eI .u64)) (l:=aVO 4 0) b8 rfl rfl (fun _=>rfl) rfl (bE h_12) rfl)))) ?_
  exact aWf (by decide +kernel) (by decide +kernel) (zG [2,3,4,5]) J
 refine aVU (n:=2) (i:=10) (by decide +kernel) rfl (gS (v:=(.ptr 5 0)) (h':=[some ⟨135,va.map (eI .u64)⟩,some ⟨135,b.map (eI .u64)⟩,some ⟨135,vm.map (eI .u64)⟩,some ⟨135,(aVO 4 0).map (eI .u64)⟩,some ⟨135,(aVO 4 0).map (eI .u64)⟩,some ⟨135,(aVO 4 0).map (eI .u64)⟩]) (sv (dR b8 rfl rfl rfl)))<|aVU (n:=1) (i:=12) (by decide +kernel) rfl (gN (h':=[some ⟨135,va.map (eI .u64)⟩,some ⟨135,b.map (eI .u64)⟩,some ⟨135,vm.map (eI .u64)⟩,some ⟨135,(aVO 4 0).map (eI .u64)⟩,some ⟨135,(aVO 4 0).map (eI .u64)⟩,some ⟨135,bX.1.map (eI .u64)⟩]) (sv (bN rfl rfl (zA (E:=(eI .u64)) (l:=aVO 4 0) b8 rfl rfl (fun _=>rfl) rfl (bE h_12) rfl)))) ?_
 exact aWf (by decide +kernel) (by decide +kernel) (zG [2,3,5,4]) J
theorem aIu {N:Nat}{va ve vm:List Int}{r:(List Int)}(hr:xA N va ve vm=some r):
  Vm.Fn Tryz.prog 144 [] [(.agg (va.map (eI .u64))),(.agg (ve.map (eI .u64))),(.agg (vm.map (eI .u64)))] (.agg (r.map (eI .u64))) []:=by
 refine zf Tryz.func144 Tryz.ntmps144 ?_
 unfold xA at hr
 refine zz ?_
 refine aVQ ?_
 obtain⟨q,h_1,hr⟩:=aC hr
 obtain⟨cD,h_2,hr⟩:=aC hr
 refine zz ?_
 refine xp (rJ h_2) ?_
 refine zz ?_
 refine zk hr rfl (fun h3 hr=> ?_) (fun h3 hr=> ?_)
 ·refine zz ?_
  obtain rfl:=sj hr
  exact iA Tryz.results144 bH (zG [])
 refine zz ?_
 refine aVQ ?_
 obtain⟨fC,h_4,hr⟩:=aC hr
 obtain⟨bR,h_6,hr⟩:=aC hr
 obtain⟨q_1,h_8,hr⟩:=aC hr
 refine aV2 mixed [124,158] [] [[0,1,2,3,4]]<|xu (mR h_4) ?_
 refine zz ?_
 refine xu (rP h_6) ?_
 refine zz ?_
 refine aVS fun K1 hK1 hG1=> ?_
 have J1: ∀(l1:List Int),aAK N l1=some r→K1 (aI 34 [(6,(.ptr 0 0)),(7,(.ptr 1 0))]) [some ⟨135,(aVO 4 0).map (eI .u64)⟩,some ⟨135,l1.map (eI .u64)⟩]:=by
  intro l1 hr
  unfold aAK at hr
  refine hK1 _ _ ?_
  obtain⟨q_2,h_9,hr⟩:=aC hr
  refine zz ?_
  obtain rfl:=sj hr
  exact iA Tryz.results144 bH (zG [])
 obtain⟨q_3,h_10,hr⟩:=aC hr
 obtain⟨x16,h_11,hr⟩:=aC hr
 refine zz ?_
 refine xp (aLw h_11) ?_
 obtain⟨bQ,hL2,hr⟩:=aC hr
 refine zz ?_
 refine aVT<|aV1 (fun m s h=> ∃(vi:Int)(l4:List Int),i8 N va ve vm m vi l4=some bQ∧Ghost 0 s h (aI 34 [(3,(.ptr 0 0)),(4,(.ptr 1 0)),(5,(.ptr 2 0)),(6,(.ptr 3 0)),(7,(.ptr 4 0)),(8,(eI .i64 vi))]) [some ⟨135,va.map (eI .u64)⟩,some ⟨135,ve.map (eI .u64)⟩,some ⟨135,vm.map (eI .u64)⟩,some ⟨135,(aVO 4 0).map (eI .u64)⟩,some ⟨135,l4.map (eI .u64)⟩]) (n:=N) ⟨aVR.wrap (x16-1),bR,hL2,(zG [0,1,2,3,4])⟩ (by rintro s h ⟨_,_,h0,_⟩;simp[i8]at h0) ?_
 rintro m2 s h ⟨vi,l4,hr2,hg⟩
 refine aVY hg ?_
 clear hg hL2
 rw[i8]at hr2
 refine aVQ ?_
 refine zz ?_
 refine zk hr2 rfl (fun h12 hr2=> ?_) (fun h12 hr2=> ?_)
 ·refine zz ?_
  refine aVS fun K3 hK3 hG3=> ?_
  have J3: ∀(hY:List Int),oR N va ve vm vi (i8 N va ve vm m2) hY=some bQ→K3 (aI 34 [(3,(.ptr 0 0)),(4,(.ptr 1 0)),(5,(.ptr 2 0)),(6,(.ptr 3 0)),(7,(.ptr 4 0)),(8,(eI .i64 vi))]) [some ⟨135,va.map (eI .u64)⟩,some ⟨135,ve.map (eI .u64)⟩,some ⟨135,vm.map (eI .u64)⟩,some ⟨135,(aVO 4 0).map (eI .u64)⟩,some ⟨135,hY.map (eI .u64)⟩]:=by
   intro hY hr2
   unfold oR at hr2
   refine hK3 _ _ ?_
   refine zz ?_
   exact⟨aVR.wrap (vi-1),hY,hr2,(zG [0,1,2,3,4])⟩
  refine aVT ?_
  obtain⟨q_4,h_13,hr2⟩:=aC hr2
  obtain⟨x25,h_14,hr2⟩:=aC hr2
  obtain⟨q_5,h_15,hr2⟩:=aC hr2
  refine zz ?_
  refine xp (aBl h_14) ?_
  obtain⟨x28,h_16,hr2⟩:=aC hr2
  refine zz ?_
  refine xp (xV h_16) ?_
  refine zz ?_
  refine zk hr2 rfl (fun h17 hr2=> ?_) (fun h17 hr2=> ?_)
  ·obtain⟨q_6,h_18,hr2⟩:=aC hr2
   obtain⟨nW,h_19,hr2⟩:=aC hr2
   obtain⟨q_7,h_20,hr2⟩:=aC hr2
   refine zz ?_
   refine xp (aBl h_19) ?_
   refine zz ?_
   exact hG3 _ _ _ _ (zG [0,1,2,3,4]) (J3 nW hr2)
  refine zz ?_
  exact hG3 _ _ _ _ (zG [0,1,2,3,4]) (J3 x25 hr2)
 refine zz ?_
 obtain rfl:=sj hr2
 refine zz ?_
 exact hG1 _ _ _ _ (zG [3,4]) (J1 l4 hr)
theorem aDi {N:Nat}{va ve:List Int}{r:(List Int)}(hr:uA N va ve=some r):
  Vm.Fn Tryz.prog 131 [] [(.agg (va.map (eI .u64))),(.agg (ve.map (eI .u64)))] (.agg (r.map (eI .u64))) []:=by
 refine zf Tryz.func131 Tryz.ntmps131 ?_
 unfold uA at hr
 refine zz ?_
 refine aVQ ?_
 obtain⟨q,h_1,hr⟩:=aC hr
 obtain⟨q_1,h_2,hr⟩:=aC hr
 obtain⟨x7,h_3,hr⟩:=aC hr
 obtain⟨x8,h_5,hr⟩:=aC hr
 obtain⟨q_2,h_7,hr⟩:=aC hr
 refine aV2 mixed [139,144] [] [[0,1,2,3,4]] ?_
 refine zz ?_
 refine xu (qD h_3)<|xu (aIu h_5) ?_
 refine zz ?_
 obtain rfl:=sj hr
 exact iA Tryz.results131 bH (zG [])
theorem aK9 {N:Nat}{r:(List Int)}(hr:aDP N=some r):
  Vm.Fn Tryz.prog 140 [] [] (.agg (r.map (eI .u64))) []:=by
 refine zf Tryz.func140 Tryz.ntmps140 ?_
 unfold aDP at hr
 obtain⟨x1,h_1,hr⟩:=aC hr
 obtain⟨q,h_2,hr⟩:=aC hr
 refine zz ?_
 refine xp (mR h_1) ?_
 refine zz ?_
 obtain rfl:=sj hr
 exact iA Tryz.results140 bH (zG [])
theorem aII {N:Nat}{va:List Int}{r:Bool}(hr:yD N va=some r):
  Vm.Fn Tryz.prog 125 [] [(.agg (va.map (eI .u64)))] (eB r) []:=by
 refine zf Tryz.func125 Tryz.ntmps125 ?_
 unfold yD at hr
 refine zz ?_
 refine aVS fun K1 hK1 hG1=> ?_
 have J1: ∀(x2:Bool),r6 N x2=some r→K1 (aI 19 [(2,(eB x2))]) []:=by
  intro x2 hr
  unfold r6 at hr
  refine hK1 _ _ ?_
  refine zz ?_
  obtain rfl:=sj hr
  exact bI Tryz.results125 []
 obtain⟨q,h_1,hr⟩:=aC hr
 obtain⟨x4,h_2,hr⟩:=aC hr
 rcases aVP (!x4)with h4|h4
 ·replace hr:=dD hr h4
  obtain⟨x8,h_5,hr⟩:=aC hr
  obtain⟨x9,h_7,hr⟩:=aC hr
  rcases aVP (decide (x9<0))with h9|h9
  ·replace hr:=dD hr h9
   obtain⟨bR,h_10,hr⟩:=aC hr
   obtain⟨x15,h_12,hr⟩:=aC hr
   obtain⟨x16,h_14,hr⟩:=aC hr
   obtain⟨q_1,h_16,hr⟩:=aC hr
   obtain⟨q_2,h_17,hr⟩:=aC hr
   refine aV2 mixed [128,131,137,138,139,140] [] [[0,1,2,3,4,5,6,7,8,9,10,11,12,13,14,15,16]] ?_
   refine zz ?_
   refine xu (rJ h_2) ?_
   refine zz ?_
   refine xu (qD h_5)<|xu (tV h_7) ?_
   refine zz ?_
   refine xu (yS h_10)<|xu (aDi h_12)<|xu (aK9 h_14) ?_
   refine zz ?_
   exact hG1 _ _ _ _ (zG []) (J1 (x15 == x16) hr)
  replace hr:=dA hr h9
  refine aV2 mixed [128,131,137,138,139,140] [] [[0,1,2,3,4,5,6,7,8,9,10,11,12,13,14,15,16]] ?_
  refine zz ?_
  refine xu (rJ h_2) ?_
  refine zz ?_
  refine xu (qD h_5)<|xu (tV h_7) ?_
  refine zz ?_
  exact hG1 _ _ _ _ (zG []) (J1 false hr)
 replace hr:=dA hr h4
 refine aV2 mixed [128,131,137,138,139,140] [] [[0,1,2,3,4,5,6,7,8,9,10,11,12,13,14,15,16]] ?_
 refine zz ?_
 refine xu (rJ h_2) ?_
 refine zz ?_
 refine xX rfl<|xX rfl<|xX rfl<|xX rfl<|xX rfl ?_
 refine zz ?_
 exact hG1 _ _ _ _ (zG []) (J1 false hr)
theorem yJ {N:Nat}{p:List Int}{r:Bool}(hr:u9 N p=some r):
  Vm.Fn Tryz.prog 118 [] [(.agg (p.map (eI .u64)))] (eB r) []:=by
 refine zf Tryz.func118 Tryz.ntmps118 ?_
 unfold u9 at hr
 refine zz ?_
 refine aVS fun K1 hK1 hG1=> ?_
 have J1: ∀(x2:Bool),yM N x2=some r→K1 (aI 10 [(2,(eB x2))]) []:=by
  intro x2 hr
  unfold yM at hr
  refine hK1 _ _ ?_
  refine zz ?_
  obtain rfl:=sj hr
  exact bI Tryz.results118 []
 obtain⟨q,h_1,hr⟩:=aC hr
 obtain⟨x4,h_2,hr⟩:=aC hr
 obtain⟨q_1,h_4,hr⟩:=aC hr
 rcases aVP (!(p == x4))with h5|h5
 ·replace hr:=dD hr h5
  obtain⟨x8,h_6,hr⟩:=aC hr
  refine aV2 mixed [124,125] [] [[0,1,2,3,4,5,6,7]] ?_
  refine zz ?_
  refine xu (mR h_2) ?_
  refine zz ?_
  refine xu (aII h_6) ?_
  refine zz ?_
  exact hG1 _ _ _ _ (zG []) (J1 x8 hr)
 replace hr:=dA hr h5
 refine aV2 mixed [124,125] [] [[0,1,2,3,4,5,6,7]] ?_
 refine zz ?_
 refine xu (mR h_2) ?_
 refine zz ?_
 exact hG1 _ _ _ _ (zG []) (J1 false hr)
theorem qC {N:Nat}{va:List Int}{r:Bool}(hr:pS N va=some r):
  Vm.Fn Tryz.prog 126 [] [(.agg (va.map (eI .u64)))] (eB r) []:=by
 refine zf Tryz.func126 Tryz.ntmps126 ?_
 unfold pS at hr
 refine zz ?_
 refine aVQ ?_
 obtain⟨q,h_1,hr⟩:=aC hr
 obtain⟨x4,h_2,hr⟩:=aC hr
 obtain⟨x5,h_4,hr⟩:=aC hr
 refine aV2 mixed [128,138] [] [[0,1,2,3,4]] ?_
 refine zz ?_
 refine xu (yS h_2)<|xu (tV h_4) ?_
 refine zz ?_
 obtain rfl:=sj hr
 exact bI Tryz.results126 []
theorem aIh {N:Nat}{b:List Int}{r:(List Int)×(List Int)×Int}(hr:wM N b=some r):
  Vm.Fn Tryz.prog 119 [] [(.row none 1 (b.map (eI .u8)))] (.tup [(.agg (dK (eI .u64) r.1 (dK (eI .u64) r.2.1 []))),(eI .i64 r.2.2)]) []:=by
 refine zf Tryz.func119 Tryz.ntmps119 ?_
 unfold wM at hr
 refine zz ?_
 refine xw (v:=(.ptr 0 0)) (h':=[some ⟨139,(dK (eI .u64) (aVO 4 0) (dK (eI .u64) (aVO 4 0) []))⟩]) (dR rO rfl rfl rfl) ?_
 refine zz ?_
 refine aVQ ?_
 refine zz ?_
 refine zk hr rfl (fun h1 hr=> ?_) (fun h1 hr=> ?_)
 ·refine zz ?_
  refine xw (v:=(.agg (dK (eI .u64) (aVO 4 0) (dK (eI .u64) (aVO 4 0) [])))) (cE rfl (tO rO aES rfl)) ?_
  refine zz ?_
  obtain rfl:=sj hr
  exact nX Tryz.results119 bH bH (zG [])
 refine zz ?_
 refine aVQ ?_
 obtain⟨d5,h_2,hr⟩:=aC hr
 refine aV2 mixed [] [] [[0,1,2,3]] ?_
 refine zz ?_
 refine xw (v:=(eI .i64 ((min d5.length (aVO 32 0).length:Nat):Int))) (h':=[some ⟨139,(dK (eI .u64) (aVO 4 0) (dK (eI .u64) (aVO 4 0) []))⟩,some ⟨28,(nE (aVO 32 0) d5).map (eI .u8)⟩,some ⟨28,(aVO 32 0).map (eI .u8)⟩]) (aEs rfl rfl (aIT (E:=(eI .u8)) (l:=aVO 32 0) rfl dC dO rfl rfl (aDH (fun _=>rfl)) rfl)) ?_
 refine zz ?_
 refine aVQ ?_
 obtain⟨x17,h_3,hr⟩:=aC hr
 refine aV2 mixed [] [] [[0,1,2,3]] ?_
 refine zz ?_
 refine xw (v:=(eI .i64 ((min x17.length (aVO 32 0).length:Nat):Int))) (h':=[some ⟨139,(dK (eI .u64) (aVO 4 0) (dK (eI .u64) (aVO 4 0) []))⟩,some ⟨28,(nE (aVO 32 0) d5).map (eI .u8)⟩,some ⟨28,(nE (aVO 32 0) x17).map (eI .u8)⟩]) (aEs rfl rfl (aIT (E:=(eI .u8)) (l:=aVO 32 0) rfl dC dO rfl rfl (aDH (fun _=>rfl)) rfl)) ?_
 refine zz ?_
 refine aVQ ?_
 obtain⟨q,h_4,hr⟩:=aC hr
 obtain⟨bS,h_5,hr⟩:=aC hr
 obtain⟨q_1,h_7,hr⟩:=aC hr
 obtain⟨bX,h_8,hr⟩:=aC hr
 obtain⟨q_2,h_10,hr⟩:=aC hr
 obtain⟨q_3,h_11,hr⟩:=aC hr
 refine aV2 mixed [117] [] [[0,1,2,3,4,5,6]] ?_
 refine zz ?_
 refine xu (r9 h_5) ?_
 refine zz ?_
 refine xu (r9 h_8)<|xw (v:=(.agg (dK (eI .u64) bS (dK (eI .u64) bX [])))) (cE rfl (aNS (ps':=[(0,(.agg (dK (eI .u64) bS []))),(1,(.agg (dK (eI .u64) bX [])))]) (by simp only[aEo (l:=bS) (bE h_10),aEo (l:=bX) (bE h_11)]) (tO rO aES rfl)))<|xw (v:=(.ptr 3 0)) (h':=[some ⟨139,(dK (eI .u64) (aVO 4 0) (dK (eI .u64) (aVO 4 0) []))⟩,some ⟨28,(nE (aVO 32 0) d5).map (eI .u8)⟩,some ⟨28,(nE (aVO 32 0) x17).map (eI .u8)⟩,some ⟨139,(dK (eI .u64) (aVO 4 0) (dK (eI .u64) (aVO 4 0) []))⟩]) (dR rO rfl rfl rfl) ?_
 refine zz ?_
 refine aVQ ?_
 refine aVS fun K1 hK1 hG1=> ?_
 have J1: ∀(jY:Bool),v8 N bS bX jY=some r→K1 (aI 36 [(2,(.ptr 0 0)),(6,(.ptr 1 0)),(33,(eB jY))]) [some ⟨139,(dK (eI .u64) (aVO 4 0) (dK (eI .u64) (aVO 4 0) []))⟩,some ⟨139,(dK (eI .u64) bS (dK (eI .u64) bX []))⟩]:=by
  intro jY hr
  unfold v8 at hr
  refine hK1 _ _ ?_
  refine zk hr rfl (fun h12 hr=> ?_) (fun h12 hr=> ?_)
  ·refine zz ?_
   refine xw (v:=(.agg (dK (eI .u64) (aVO 4 0) (dK (eI .u64) (aVO 4 0) [])))) (cE rfl (tO rO aES rfl)) ?_
   refine zz ?_
   obtain rfl:=sj hr
   exact nX Tryz.results119 bH bH (zG [])
  refine zz ?_
  obtain rfl:=sj hr
  exact nX Tryz.results119 bH bH (zG [])
 obtain⟨x26,h_13,hr⟩:=aC hr
 rcases aVP (!x26)with h14|h14
 ·replace hr:=dD hr h14
  refine xr ?_
  refine zz ?_
  refine xp (qC h_13) ?_
  refine zz ?_
  exact hG1 _ _ _ _ (zG [0,3]) (J1 true hr)
 replace hr:=dA hr h14
 obtain⟨e9,h_15,hr⟩:=aC hr
 refine xr ?_
 refine zz ?_
 refine xp (qC h_13) ?_
 refine zz ?_
 refine xCg (v:=(eB e9)) (h':=[some ⟨139,(dK (eI .u64) (aVO 4 0) (dK (eI .u64) (aVO 4 0) []))⟩,some ⟨28,(nE (aVO 32 0) d5).map (eI .u8)⟩,some ⟨28,(nE (aVO 32 0) x17).map (eI .u8)⟩,some ⟨139,(dK (eI .u64) bS (dK (eI .u64) bX []))⟩]) rfl rfl h14 rfl (Vm.Fn.pure (qC h_15) zR rfl) ?_
 refine zz ?_
 exact hG1 _ _ _ _ (zG [0,3]) (J1 (!e9) hr)
theorem aJi {N:Nat}{ve:List Int}{r:(List Int)}(hr:y6 N ve=some r):
  Vm.Fn Tryz.prog 130 [] [(.agg (ve.map (eI .u64)))] (.agg (r.map (eI .u64))) []:=by
 refine zf Tryz.func130 Tryz.ntmps130 ?_
 unfold y6 at hr
 refine zz ?_
 refine aVQ ?_
 obtain⟨x3,h_1,hr⟩:=aC hr
 obtain⟨q,h_3,hr⟩:=aC hr
 obtain⟨x5,h_4,hr⟩:=aC hr
 obtain⟨q_1,h_6,hr⟩:=aC hr
 refine aV2 mixed [124,131] [] [[0,1,2,3]]<|xu (mR h_1) ?_
 refine zz ?_
 refine xu (aDi h_4) ?_
 refine zz ?_
 obtain rfl:=sj hr
 exact iA Tryz.results130 bH (zG [])
theorem aL0 {N:Nat}{va b:List Int}{r:(List Int)}(hr:aCd N va b=some r):
  Vm.Fn Tryz.prog 129 [] [(.agg (va.map (eI .u64))),(.agg (b.map (eI .u64)))] (.agg (r.map (eI .u64))) []:=by
 refine zf Tryz.func129 Tryz.ntmps129 ?_
 unfold aCd at hr
 refine zz ?_
 refine aVQ ?_
 obtain⟨q,h_1,hr⟩:=aC hr
 obtain⟨q_1,h_2,hr⟩:=aC hr
 obtain⟨x7,h_3,hr⟩:=aC hr
 obtain⟨x8,h_5,hr⟩:=aC hr
 obtain⟨q_2,h_7,hr⟩:=aC hr
 refine aV2 mixed [139,143] [] [[0,1,2,3,4]] ?_
 refine zz ?_
 refine xu (qD h_3)<|xu (aBl h_5) ?_
 refine zz ?_
 obtain rfl:=sj hr
 exact iA Tryz.results129 bH (zG [])
theorem aIY {N:Nat}{va:List Int}{r:(List Int)}(hr:zF N va=some r):
  Vm.Fn Tryz.prog 162 [] [(.agg (va.map (eI .u64)))] (.agg (r.map (eI .u8))) []:=by
 refine zf Tryz.func162 Tryz.ntmps162 ?_
 unfold zF at hr
 refine zz ?_
 refine aVS fun K1 hK1 hG1=> ?_
 have J1: ∀(l1:List Int),aBN N l1=some r→K1 (aI 24 [(2,(.ptr 0 0)),(3,(.ptr 1 0))]) [some ⟨28,(aVO 32 0).map (eI .u8)⟩,some ⟨28,l1.map (eI .u8)⟩]:=by
  intro l1 hr
  unfold aBN at hr
  refine hK1 _ _ ?_
  obtain⟨q,h_1,hr⟩:=aC hr
  refine zz ?_
  obtain rfl:=sj hr
  exact iA Tryz.results162 bH (zG [])
 obtain⟨bQ,hL2,hr⟩:=aC hr
 refine zz ?_
 refine aVT<|aV1 (fun m s h=> ∃(x6:Int)(l2:List Int),lB N va m x6 l2=some bQ∧Ghost 0 s h (aI 24 [(1,(.ptr 0 0)),(2,(.ptr 1 0)),(3,(.ptr 2 0)),(6,(eI .i64 x6))]) [some ⟨135,va.map (eI .u64)⟩,some ⟨28,(aVO 32 0).map (eI .u8)⟩,some ⟨28,l2.map (eI .u8)⟩]) (n:=N) ⟨0,aVO 32 0,hL2,(zG [0,1,2])⟩ (by rintro s h ⟨_,_,h0,_⟩;simp[lB]at h0) ?_
 rintro m2 s h ⟨x6,l2,hr2,hg⟩
 refine aVY hg ?_
 clear hg hL2
 rw[lB]at hr2
 refine zz ?_
 refine aVQ ?_
 refine zk hr2 rfl (fun h2 hr2=> ?_) (fun h2 hr2=> ?_)
 ·refine zz ?_
  refine aVQ<|aVT ?_
  obtain⟨bR,h_3,hr2⟩:=aC hr2
  obtain⟨x19,h_4,hr2⟩:=aC hr2
  obtain⟨d9,h_5,hr2⟩:=aC hr2
  refine zz ?_
  exact⟨aVR.wrap (x6+1),l2.set (aV3 x6) (IntKind.u8.wrap x19),hr2,(zG [0,1,2])⟩
 refine zz ?_
 obtain rfl:=sj hr2
 refine zz ?_
 exact hG1 _ _ _ _ (zG [1,2]) (J1 l2 hr)
theorem aDN {N:Nat}{va:List Int}{r:(List Int)}(hr:tL N va=some r):
  Vm.Fn Tryz.prog 146 [] [(.agg (va.map (eI .u64)))] (.row none 1 (r.map (eI .u8))) []:=by
 refine zf Tryz.func146 Tryz.ntmps146 ?_
 unfold tL at hr
 obtain⟨q,h_1,hr⟩:=aC hr
 obtain⟨x5,h_2,hr⟩:=aC hr
 obtain⟨q_1,h_3,hr⟩:=aC hr
 refine zz ?_
 refine xp (aIY h_2) ?_
 refine zz ?_
 obtain rfl:=sj hr
 exact iA Tryz.results146 bH (aV0 (zv 1) (zG []))
theorem aIk {N:Nat}{va b vm:List Int}{r:(List Int)}(hr:yF N va b vm=some r):
  Vm.Fn Tryz.prog 173 [] [(.agg (va.map (eI .u64))),(.agg (b.map (eI .u64))),(.agg (vm.map (eI .u64)))] (.agg (r.map (eI .u64))) []:=by
 refine zf Tryz.func173 Tryz.ntmps173 ?_
 unfold yF at hr
 refine zz ?_
 refine aVQ ?_
 obtain⟨q,h_1,hr⟩:=aC hr
 obtain⟨cD,h_2,hr⟩:=aC hr
 refine zz ?_
 refine xp (rJ h_2) ?_
 refine zz ?_
 refine zk hr rfl (fun h3 hr=> ?_) (fun h3 hr=> ?_)
 ·refine zz ?_
  obtain rfl:=sj hr
  exact iA Tryz.results173 bH (zG [])
 refine zz ?_
 refine aVQ ?_
 obtain⟨q_1,h_4,hr⟩:=aC hr
 obtain⟨bR,h_5,hr⟩:=aC hr
 obtain⟨q_2,h_7,hr⟩:=aC hr
 obtain⟨x17,h_8,hr⟩:=aC hr
 obtain⟨q_3,h_10,hr⟩:=aC hr
 obtain⟨q_4,h_11,hr⟩:=aC hr
 refine aV2 mixed [158] [] [[0,1,2,3,4,5,6,7]] ?_
 refine zz ?_
 refine xu (rP h_5) ?_
 refine zz ?_
 refine xu (rP h_8) ?_
 obtain⟨d9,h_12,hr⟩:=aC hr
 obtain⟨q_5,h_13,hr⟩:=aC hr
 refine zz ?_
 refine xp (aF4 h_12) ?_
 refine zz ?_
 refine aVS fun K1 hK1 hG1=> ?_
 have J1: ∀(l1:List Int),oQ N l1=some r→K1 (aI 38 [(6,(.ptr 0 0)),(7,(.ptr 1 0))]) [some ⟨135,(aVO 4 0).map (eI .u64)⟩,some ⟨135,l1.map (eI .u64)⟩]:=by
  intro l1 hr
  unfold oQ at hr
  refine hK1 _ _ ?_
  obtain⟨q_6,h_14,hr⟩:=aC hr
  refine zz ?_
  obtain rfl:=sj hr
  exact iA Tryz.results173 bH (zG [])
 refine aVS fun K2 hK2 hG2=> ?_
 have J2: ∀(lL:Bool),lP N vm d9 lL=some r→K2 (aI 38 [(5,(.ptr 0 0)),(6,(.ptr 1 0)),(7,(.ptr 2 0)),(30,(eB lL))]) [some ⟨135,vm.map (eI .u64)⟩,some ⟨135,(aVO 4 0).map (eI .u64)⟩,some ⟨135,d9.1.map (eI .u64)⟩]:=by
  intro lL hr
  unfold lP at hr
  refine hK2 _ _ ?_
  refine zk hr rfl (fun h15 hr=> ?_) (fun h15 hr=> ?_)
  ·obtain⟨cV,h_16,hr⟩:=aC hr
   obtain⟨q_7,h_17,hr⟩:=aC hr
   refine zz ?_
   refine xp (aBa h_16) ?_
   refine zz ?_
   exact hG1 _ _ _ _ (zG [1,2]) (J1 cV.1 hr)
  refine zz ?_
  exact hG1 _ _ _ _ (zG [1,2]) (J1 d9.1 hr)
 rcases aVP d9.2 with h18|h18
 ·replace hr:=dD hr h18
  refine xr ?_
  refine zz ?_
  exact hG2 _ _ _ _ (zG [2,3,4]) (J2 true hr)
 replace hr:=dA hr h18
 obtain⟨x28,h_19,hr⟩:=aC hr
 refine xr ?_
 refine zz ?_
 refine xCg (v:=(eI .i64 x28)) (h':=[some ⟨135,bR.map (eI .u64)⟩,some ⟨135,x17.map (eI .u64)⟩,some ⟨135,vm.map (eI .u64)⟩,some ⟨135,(aVO 4 0).map (eI .u64)⟩,some ⟨135,d9.1.map (eI .u64)⟩]) rfl rfl h18 rfl (Vm.Fn.pure (tV h_19) zR rfl) ?_
 refine zz ?_
 exact hG2 _ _ _ _ (zG [2,3,4]) (J2 (decide (0≤x28)) hr)
theorem aF2 {N:Nat}{va b:List Int}{r:(List Int)}(hr:sK N va b=some r):
  Vm.Fn Tryz.prog 161 [] [(.agg (va.map (eI .u64))),(.agg (b.map (eI .u64)))] (.agg (r.map (eI .u64))) []:=by
 refine zf Tryz.func161 Tryz.ntmps161 ?_
 unfold sK at hr
 refine zz ?_
 refine aVQ ?_
 obtain⟨q,h_1,hr⟩:=aC hr
 obtain⟨q_1,h_2,hr⟩:=aC hr
 obtain⟨x7,h_3,hr⟩:=aC hr
 obtain⟨x8,h_5,hr⟩:=aC hr
 obtain⟨q_2,h_7,hr⟩:=aC hr
 refine aV2 mixed [128,173] [] [[0,1,2,3,4]] ?_
 refine zz ?_
 refine xu (yS h_3)<|xu (aIk h_5) ?_
 refine zz ?_
 obtain rfl:=sj hr
 exact iA Tryz.results161 bH (zG [])
theorem aIt {N:Nat}{vh:List Int}{r:(List Int)}(hr:wL N vh=some r):
  Vm.Fn Tryz.prog 145 [] [(.agg (vh.map (eI .u8)))] (.agg (r.map (eI .u64))) []:=by
 refine zf Tryz.func145 Tryz.ntmps145 ?_
 unfold wL at hr
 obtain⟨q,h_1,hr⟩:=aC hr
 obtain⟨x4,h_2,hr⟩:=aC hr
 obtain⟨x6,h_3,hr⟩:=aC hr
 obtain⟨q_1,h_4,hr⟩:=aC hr
 refine zz ?_
 refine xp (r9 h_2)<|xw (v:=(.agg ([0,0,0,0].map (eI .u64)))) (cE rfl (nB b8 nA rfl))<|xp (aF2 h_3) ?_
 refine zz ?_
 obtain rfl:=sj hr
 exact iA Tryz.results145 bH (zG [])
theorem aFE {N:Nat}{vr p vm:List Int}{r:(List Int)}(hr:sE N vr p vm=some r):
  Vm.Fn Tryz.prog 132 [] [(.agg (vr.map (eI .u64))),(.agg (p.map (eI .u64))),(.agg (vm.map (eI .u8)))] (.agg (r.map (eI .u64))) []:=by
 refine zf Tryz.func132 Tryz.ntmps132 ?_
 unfold sE at hr
 refine zz ?_
 refine aVQ ?_
 obtain⟨q,h_1,hr⟩:=aC hr
 obtain⟨x8,h_2,hr⟩:=aC hr
 obtain⟨q_1,h_4,hr⟩:=aC hr
 obtain⟨cD,h_5,hr⟩:=aC hr
 obtain⟨q_2,h_7,hr⟩:=aC hr
 obtain⟨d5,h_8,hr⟩:=aC hr
 obtain⟨bR,h_10,hr⟩:=aC hr
 obtain⟨x15,h_12,hr⟩:=aC hr
 obtain⟨q_3,h_14,hr⟩:=aC hr
 refine aV2 mixed [145,146] [40,95] [[0,1,2,3,4],[5,6,7,8,9]] ?_
 refine zz ?_
 refine xu (aDN h_2) ?_
 refine zz ?_
 refine xu (aDN h_5) ?_
 refine zz ?_
 refine⟨_,_,(zv 2), ?_⟩
 refine zz ?_
 refine zgL (aAa h_8) [] [4] ?_
 refine zgL (aDX h_10) [] [5] ?_
 refine xu (aIt h_12) ?_
 refine zz ?_
 obtain rfl:=sj hr
 exact iA Tryz.results132 bH (zG [])
theorem aIa {N:Nat}{p vm s_E s_S:List Int}{r:Bool}(hr:xP N p vm s_E s_S=some r):
  Vm.Fn Tryz.prog 120 [] [(.agg (p.map (eI .u64))),(.agg (vm.map (eI .u8))),(.agg (dK (eI .u64) s_E (dK (eI .u64) s_S [])))] (eB r) []:=by
 refine zf Tryz.func120 Tryz.ntmps120 ?_
 unfold xP at hr
 refine zz ?_
 refine aVQ ?_
 refine aVS fun K1 hK1 hG1=> ?_
 have J1: ∀(fG:Bool),mM N p vm s_E s_S fG=some r→K1 (aI 46 [(3,(.ptr 0 0)),(4,(.ptr 1 0)),(5,(.ptr 2 0)),(24,(eB fG))]) [some ⟨135,p.map (eI .u64)⟩,some ⟨28,vm.map (eI .u8)⟩,some ⟨139,(dK (eI .u64) s_E (dK (eI .u64) s_S []))⟩]:=by
  intro fG hr
  unfold mM at hr
  refine hK1 _ _ ?_
  refine zk hr rfl (fun h1 hr=> ?_) (fun h1 hr=> ?_)
  ·refine zz ?_
   obtain rfl:=sj hr
   exact bI Tryz.results120 []
  refine zz ?_
  refine aVQ ?_
  obtain⟨x26,h_2,hr⟩:=aC hr
  obtain⟨q,h_4,hr⟩:=aC hr
  obtain⟨x29,h_5,hr⟩:=aC hr
  obtain⟨q_1,h_7,hr⟩:=aC hr
  refine aV2 mixed [127,128] [] [[0,1,2,3,4,5,6,7,8,9]]<|xu (yS h_2) ?_
  refine zz ?_
  refine xu (aBa h_5) ?_
  refine zz ?_
  refine aVQ ?_
  obtain⟨q_2,h_8,hr⟩:=aC hr
  obtain⟨cV,h_9,hr⟩:=aC hr
  obtain⟨q_3,h_11,hr⟩:=aC hr
  obtain⟨x37,h_12,hr⟩:=aC hr
  obtain⟨x38,h_14,hr⟩:=aC hr
  obtain⟨q_4,h_16,hr⟩:=aC hr
  refine aV2 mixed [129,130,131] [] [[0,1,2,3,4,5,6,7,8]] ?_
  refine zz ?_
  refine xu (aJi h_9) ?_
  refine zz ?_
  refine xu (aDi h_12)<|xu (aL0 h_14) ?_
  refine zz ?_
  refine aVQ ?_
  obtain⟨q_5,h_17,hr⟩:=aC hr
  obtain⟨x44,h_18,hr⟩:=aC hr
  obtain⟨q_6,h_20,hr⟩:=aC hr
  refine aV2 mixed [132] [] [[0,1,2,3,4,5,6,7]] ?_
  refine zz ?_
  refine xu (aFE h_18) ?_
  refine zz ?_
  obtain rfl:=sj hr
  exact bI Tryz.results120 []
 obtain⟨q_7,h_21,hr⟩:=aC hr
 obtain⟨b4,h_22,hr⟩:=aC hr
 rcases aVP (!b4)with h23|h23
 ·replace hr:=dD hr h23
  refine xr ?_
  refine zz ?_
  refine xp (yJ h_22) ?_
  refine zz ?_
  refine xX rfl<|xX rfl<|xX rfl<|xX rfl ?_
  refine zz ?_
  exact hG1 _ _ _ _ (zG [0,1,2]) (J1 true hr)
 replace hr:=dA hr h23
 obtain⟨q_8,h_24,hr⟩:=aC hr
 obtain⟨x16,h_25,hr⟩:=aC hr
 rcases aVP (!x16)with h26|h26
 ·replace hr:=dD hr h26
  refine xr ?_
  refine zz ?_
  refine xp (yJ h_22) ?_
  refine zz ?_
  refine xCg (v:=(eB x16)) (h':=[some ⟨135,p.map (eI .u64)⟩,some ⟨28,vm.map (eI .u8)⟩,some ⟨139,(dK (eI .u64) s_E (dK (eI .u64) s_S []))⟩]) rfl rfl h23 rfl (Vm.Fn.pure (qC h_25) zR rfl) ?_
  refine zz ?_
  exact hG1 _ _ _ _ (zG [0,1,2]) (J1 true hr)
 replace hr:=dA hr h26
 obtain⟨q_9,h_27,hr⟩:=aC hr
 obtain⟨bX,h_28,hr⟩:=aC hr
 refine xr ?_
 refine zz ?_
 refine xp (yJ h_22) ?_
 refine zz ?_
 refine xCg (v:=(eB x16)) (h':=[some ⟨135,p.map (eI .u64)⟩,some ⟨28,vm.map (eI .u8)⟩,some ⟨139,(dK (eI .u64) s_E (dK (eI .u64) s_S []))⟩]) rfl rfl h23 rfl (Vm.Fn.pure (qC h_25) zR rfl) ?_
 refine zz ?_
 refine xCg (v:=(eB bX)) (h':=[some ⟨135,p.map (eI .u64)⟩,some ⟨28,vm.map (eI .u8)⟩,some ⟨139,(dK (eI .u64) s_E (dK (eI .u64) s_S []))⟩]) rfl rfl h26 rfl (Vm.Fn.pure (qC h_28) zR rfl) ?_
 refine zz ?_
 exact hG1 _ _ _ _ (zG [0,1,2]) (J1 (!bX) hr)
theorem aDU {N:Nat}{sig key vm:List Int}{r:Bool×Int}(hr:qE N sig key vm=some r):
  Vm.Fn Tryz.prog 100 [] [(.row none 1 (sig.map (eI .u8))),(.row none 1 (key.map (eI .u8))),(.agg (vm.map (eI .u8)))] (.tup [(eB r.1),(eI .i64 r.2)]) []:=by
 refine zf Tryz.func100 Tryz.ntmps100 ?_
 unfold qE at hr
 refine zz ?_
 refine aVQ ?_
 refine zz ?_
 refine zk hr rfl (fun h1 hr=> ?_) (fun h1 hr=> ?_)
 ·refine zz ?_
  obtain rfl:=sj hr
  exact sZ Tryz.results100 []
 refine zz ?_
 refine xw (v:=(eI .i64 ((min key.length (aVO 32 0).length:Nat):Int))) (h':=[some ⟨28,vm.map (eI .u8)⟩,some ⟨28,(nE (aVO 32 0) key).map (eI .u8)⟩]) (aEs rfl rfl (aIT (E:=(eI .u8)) (l:=aVO 32 0) rfl dC dO rfl rfl (aDH (fun _=>rfl)) rfl)) ?_
 obtain⟨q,h_2,hr⟩:=aC hr
 obtain⟨x19,h_3,hr⟩:=aC hr
 obtain⟨q_1,h_4,hr⟩:=aC hr
 refine zz ?_
 refine xp (r9 h_3) ?_
 refine zz ?_
 refine aVQ ?_
 obtain⟨d9,h_5,hr⟩:=aC hr
 refine zz ?_
 refine xp (yJ h_5) ?_
 refine zz ?_
 refine zk hr rfl (fun h6 hr=> ?_) (fun h6 hr=> ?_)
 ·refine zz ?_
  obtain rfl:=sj hr
  exact sZ Tryz.results100 []
 refine zz ?_
 refine aVQ ?_
 refine zz ?_
 refine zk hr rfl (fun h7 hr=> ?_) (fun h7 hr=> ?_)
 ·refine zz ?_
  obtain rfl:=sj hr
  exact sZ Tryz.results100 []
 obtain⟨x28,h_8,hr⟩:=aC hr
 refine zz ?_
 refine xp (aIh h_8) ?_
 refine zz ?_
 refine xw (v:=(.ptr 3 0)) (h':=[some ⟨28,vm.map (eI .u8)⟩,some ⟨28,(nE (aVO 32 0) key).map (eI .u8)⟩,some ⟨135,x19.map (eI .u64)⟩,some ⟨139,(dK (eI .u64) (aVO 4 0) (dK (eI .u64) (aVO 4 0) []))⟩]) (dR rO rfl rfl rfl) ?_
 refine zz ?_
 refine aVQ ?_
 refine aVS fun K1 hK1 hG1=> ?_
 have J1: ∀(x39:Bool),rY N x39=some r→K1 (aI 40 [(39,(eB x39))]) []:=by
  intro x39 hr
  unfold rY at hr
  refine hK1 _ _ ?_
  refine zk hr rfl (fun h9 hr=> ?_) (fun h9 hr=> ?_)
  ·refine zz ?_
   obtain rfl:=sj hr
   exact sZ Tryz.results100 []
  refine zz ?_
  obtain rfl:=sj hr
  exact sZ Tryz.results100 []
 rcases aVP (x28.2.2 != 0)with h10|h10
 ·replace hr:=dD hr h10
  refine xr ?_
  refine zz ?_
  exact hG1 _ _ _ _ (zG []) (J1 true hr)
 replace hr:=dA hr h10
 obtain⟨q_2,h_11,hr⟩:=aC hr
 obtain⟨x37,h_12,hr⟩:=aC hr
 refine xr ?_
 refine zz ?_
 refine xCg (v:=(eB x37)) (h':=[some ⟨28,vm.map (eI .u8)⟩,some ⟨28,(nE (aVO 32 0) key).map (eI .u8)⟩,some ⟨135,x19.map (eI .u64)⟩,some ⟨139,(dK (eI .u64) x28.1 (dK (eI .u64) x28.2.1 []))⟩]) rfl rfl h10 rfl (Vm.Fn.pure (aIa h_12) zR rfl) ?_
 refine zz ?_
 exact hG1 _ _ _ _ (zG []) (J1 (!x37) hr)
theorem aJx {N:Nat}{aT:Int}{bO:List Int}{o_M o_N:Int}{rZ:List (List Int)}{vm:List Int}{r:Bool×Int}(hr:zZ N aT bO o_M o_N rZ vm=some r):
  Vm.Fn Tryz.prog 101 [] [(.agg [(eI .i64 aT),(.row none 1 (bO.map (eI .u8))),(eI .i64 o_M),(eI .i64 o_N)]),(.row none 1 (rZ.map (eL 1 (eI .u8)))),(.agg (vm.map (eI .u8)))] (.tup [(eB r.1),(eI .i64 r.2)]) []:=by
 refine zf Tryz.func101 Tryz.ntmps101 ?_
 unfold zZ at hr
 refine zz ?_
 refine aVS fun K1 hK1 hG1=> ?_
 have J1: ∀(vn:Int),aBR N aT bO o_M o_N vn=some r→K1 (aI 44 [(3,(.ptr 0 0)),(8,(eI .i64 vn))]) [some ⟨90,[(eI .i64 aT),(.row none 1 (bO.map (eI .u8))),(eI .i64 o_M),(eI .i64 o_N)]⟩]:=by
  intro vn hr
  unfold aBR at hr
  refine hK1 _ _ ?_
  refine zz ?_
  obtain rfl:=sj hr
  exact sZ Tryz.results101 []
 obtain⟨bQ,hL2,hr⟩:=aC hr
 refine zz ?_
 refine aVT<|aV1 (fun m s h=> ∃(eD vi:Int),j6 N aT bO o_M o_N rZ vm m eD vi=some bQ∧Ghost 0 s h (aI 44 [(1,(.row none 1 (rZ.map (eL 1 (eI .u8))))),(3,(.ptr 0 0)),(5,(.ptr 1 0)),(8,(eI .i64 eD)),(9,(eI .i64 vi))]) [some ⟨90,[(eI .i64 aT),(.row none 1 (bO.map (eI .u8))),(eI .i64 o_M),(eI .i64 o_N)]⟩,some ⟨28,vm.map (eI .u8)⟩]) (n:=N) ⟨0,0,hL2,(zG [0,1])⟩ (by rintro s h ⟨_,_,h0,_⟩;simp[j6]at h0) ?_
 rintro m2 s h ⟨eD,vi,hr2,hg⟩
 refine aVY hg ?_
 clear hg hL2
 rw[j6]at hr2
 refine aVQ ?_
 refine zz ?_
 refine zk hr2 rfl (fun h1 hr2=> ?_) (fun h1 hr2=> ?_)
 ·refine zz ?_
  refine aVS fun K3 hK3 hG3=> ?_
  have J3: ∀(aCu:Int),tJ N aT bO o_M o_N rZ vm vi (j6 N aT bO o_M o_N rZ vm m2) aCu=some bQ→K3 (aI 44 [(1,(.row none 1 (rZ.map (eL 1 (eI .u8))))),(3,(.ptr 0 0)),(5,(.ptr 1 0)),(8,(eI .i64 aCu)),(9,(eI .i64 vi))]) [some ⟨90,[(eI .i64 aT),(.row none 1 (bO.map (eI .u8))),(eI .i64 o_M),(eI .i64 o_N)]⟩,some ⟨28,vm.map (eI .u8)⟩]:=by
   intro aCu hr2
   unfold tJ at hr2
   refine hK3 _ _ ?_
   refine zz ?_
   exact⟨aCu,aVR.wrap (vi+1),hr2,(zG [0,1])⟩
  refine aVT<|aVQ ?_
  obtain⟨d9,h_2,hr2⟩:=aC hr2
  obtain⟨x28,h_3,hr2⟩:=aC hr2
  obtain⟨q,h_4,hr2⟩:=aC hr2
  obtain⟨e9,h_5,hr2⟩:=aC hr2
  refine aV2 mixed [100] [] [[0,1,2,3,4,5,6,7,8,9,10,11,12,13,14,15,16,17]] ?_
  refine zz ?_
  refine xu (aDU h_5) ?_
  refine zz ?_
  refine aVQ ?_
  refine zz ?_
  refine zk hr2 rfl (fun h7 hr2=> ?_) (fun h7 hr2=> ?_)
  ·refine zz ?_
   obtain rfl:=sj hr2
   obtain rfl:=sj hr
   exact sZ Tryz.results101 []
  refine zz ?_
  refine zk hr2 rfl (fun h8 hr2=> ?_) (fun h8 hr2=> ?_)
  ·refine zz ?_
   exact hG3 _ _ _ _ (zG [0,1]) (J3 (aVR.wrap (eD+1)) hr2)
  refine zz ?_
  exact hG3 _ _ _ _ (zG [0,1]) (J3 eD hr2)
 refine zz ?_
 obtain rfl:=sj hr2
 refine zz ?_
 exact hG1 _ _ _ _ (zG [0]) (J1 eD hr)
theorem aIw {N:Nat}{b:List Int}{r:Int×Int}(hr:yE N b=some r):
  Vm.Fn Tryz.prog 121 [] [(.row none 1 (b.map (eI .u8)))] (.tup [(eI .u32 r.1),(eI .i64 r.2)]) []:=by
 refine zf Tryz.func121 Tryz.ntmps121 ?_
 unfold yE at hr
 refine zz ?_
 refine aVQ ?_
 refine aVS fun K1 hK1 hG1=> ?_
 have J1: ∀(bX:Bool),mG N b bX=some r→K1 (aI 40 [(0,(.row none 1 (b.map (eI .u8)))),(22,(eB bX))]) []:=by
  intro bX hr
  unfold mG at hr
  refine hK1 _ _ ?_
  refine zk hr rfl (fun h1 hr=> ?_) (fun h1 hr=> ?_)
  ·refine zz ?_
   obtain rfl:=sj hr
   exact sZ Tryz.results121 []
  refine zz ?_
  refine aVS fun K2 hK2 hG2=> ?_
  have J2: ∀(vn:Int),aBs N vn=some r→K2 (aI 40 [(4,(eI .u32 vn))]) []:=by
   intro vn hr
   unfold aBs at hr
   refine hK2 _ _ ?_
   refine zz ?_
   obtain rfl:=sj hr
   exact sZ Tryz.results121 []
  obtain⟨vK,hL3,hr⟩:=aC hr
  refine zz ?_
  refine aVT<|aV1 (fun m s h=> ∃(eD x25:Int),lR N b m eD x25=some vK∧Ghost 0 s h (aI 40 [(0,(.row none 1 (b.map (eI .u8)))),(4,(eI .u32 eD)),(24,(eI .i64 (b.length:Int))),(25,(eI .i64 x25))]) []) (n:=N) ⟨0,0,hL3,(zG [])⟩ (by rintro s h ⟨_,_,h0,_⟩;simp[lR]at h0) ?_
  rintro m3 s h ⟨eD,x25,hr3,hg⟩
  refine aVY hg ?_
  clear hg hL3
  rw[lR]at hr3
  refine zz ?_
  refine aVQ ?_
  refine zk hr3 rfl (fun h2 hr3=> ?_) (fun h2 hr3=> ?_)
  ·refine zz ?_
   refine aVQ<|aVT ?_
   obtain⟨e9,h_3,hr3⟩:=aC hr3
   obtain⟨x36,h_4,hr3⟩:=aC hr3
   refine zz ?_
   exact⟨bits .or .u32 eD x36,aVR.wrap (x25+1),hr3,(zG [])⟩
  refine zz ?_
  obtain rfl:=sj hr3
  refine zz ?_
  exact hG2 _ _ _ _ (zG []) (J2 eD hr)
 rcases aVP (decide (4<(b.length:Int)))with h5|h5
 ·replace hr:=dD hr h5
  refine xr ?_
  refine zz ?_
  exact hG1 _ _ _ _ (zG []) (J1 true hr)
 replace hr:=dA hr h5
 rcases aVP (decide (0<(b.length:Int)))with h6|h6
 ·replace hr:=dD hr h6
  obtain⟨x18,h_7,hr⟩:=aC hr
  refine xr ?_
  refine zz ?_
  exact hG1 _ _ _ _ (zG []) (J1 (x18 == 0) hr)
 replace hr:=dA hr h6
 refine xr ?_
 refine zz ?_
 exact hG1 _ _ _ _ (zG []) (J1 false hr)
theorem aDV {N:Nat}{gG:List Int}{now r:Int}(hr:tC N gG now=some r):
  Vm.Fn Tryz.prog 102 [] [(.row none 1 (gG.map (eI .u8))),(eI .i64 now)] (eI .i64 r) []:=by
 refine zf Tryz.func102 Tryz.ntmps102 ?_
 unfold tC at hr
 obtain⟨x9,h_1,hr⟩:=aC hr
 refine zz ?_
 refine xp (aIw h_1) ?_
 refine zz ?_
 refine aVQ ?_
 refine zz ?_
 refine zk hr rfl (fun h2 hr=> ?_) (fun h2 hr=> ?_)
 ·refine zz ?_
  obtain rfl:=sj hr
  exact bI Tryz.results102 []
 refine zz ?_
 refine aVQ ?_
 refine zz ?_
 refine zk hr rfl (fun h3 hr=> ?_) (fun h3 hr=> ?_)
 ·refine zz ?_
  obtain rfl:=sj hr
  exact bI Tryz.results102 []
 refine zz ?_
 obtain rfl:=sj hr
 exact bI Tryz.results102 []
theorem aKD {N:Nat}{aT:Int}{bO:List Int}{o_M o_N:Int}{vs:List (List Int)}{bD:List Int}{bM cJ:Int}{r:(List (List Int))×Int}(hr:aAR N aT bO o_M o_N vs bD bM cJ=some r):
  Vm.Fn Tryz.prog 75 [] [(.agg [(eI .i64 aT),(.row none 1 (bO.map (eI .u8))),(eI .i64 o_M),(eI .i64 o_N)]),(.row none 1 (vs.map (eL 1 (eI .u8)))),(.agg (bG (eI .u8) bD [(eI .i64 bM),(eI .i64 cJ)]))] (.tup [(.row none 1 (r.1.map (eL 1 (eI .u8)))),(eI .i64 r.2)]) []:=by
 refine zf Tryz.func75 Tryz.ntmps75 ?_
 unfold aAR at hr
 refine zz ?_
 refine aVQ ?_
 refine zz ?_
 refine aVT ?_
 refine zz ?_
 refine zk hr rfl (fun h1 hr=> ?_) (fun h1 hr=> ?_)
 ·obtain⟨x25,h_2,hr⟩:=aC hr
  obtain⟨x26,h_3,hr⟩:=aC hr
  refine zz ?_
  refine jD (aAa h_2) [] [2] ?_
  refine aWe (zv 3) ?_
  refine zc (aAN h_3) [] ?_
  refine zz ?_
  obtain rfl:=sj hr
  exact nX Tryz.results75 bH bH (aV0 (aV4 (fr':=[(0,(.tup [(.row none 1 (x26.1.map (eL 1 (eI .u8)))),(eI .i64 x26.2)]))]) (h':=[some ⟨90,[(eI .i64 aT),(.row none 1 (bO.map (eI .u8))),(eI .i64 o_M),(eI .i64 o_N)]⟩,some ⟨54,(bG (eI .u8) bD [(eI .i64 bM),(eI .i64 cJ)])⟩,some ⟨31,[bO].map (eL 1 (eI .u8))⟩,none,none]) (aV8 rfl (aV9 (aVW (aWa (aQ rfl) rfl rfl (gL (fun _=>rfl)) (by first|rfl|(simp only[aVZ,b7,b6];done))) (aVW (aV6 (aQ rfl)) aV7))) aWc) (aVX (aVV (aQ rfl)) rfl (aVX (aVV (aQ rfl)) rfl (aVX (aVV (aQ rfl)) (all_map (fun _=>rfl) _) (aV5 (aV5 aWd)))))) (zG []))
 refine zz ?_
 refine zk hr rfl (fun h4 hr=> ?_) (fun h4 hr=> ?_)
 ·obtain⟨x35,h_5,hr⟩:=aC hr
  obtain⟨x37,h_6,hr⟩:=aC hr
  refine zz ?_
  refine zc (aAN h_6) [] ?_
  refine zz ?_
  obtain rfl:=sj hr
  exact nX Tryz.results75 bH bH (aV0 (aV4 (fr':=[(0,(.tup [(.row none 1 (x37.1.map (eL 1 (eI .u8)))),(eI .i64 x37.2)]))]) (h':=[some ⟨90,[(eI .i64 aT),(.row none 1 (bO.map (eI .u8))),(eI .i64 o_M),(eI .i64 o_N)]⟩,some ⟨54,(bG (eI .u8) bD [(eI .i64 bM),(eI .i64 cJ)])⟩,none]) (aV8 rfl (aV9 (aVW (aWa (aQ rfl) rfl rfl (gL (fun _=>rfl)) (by first|rfl|(simp only[aVZ,b7,b6];done))) (aVW (aV6 (aQ rfl)) aV7))) aWc) (aVX (aVV (aQ rfl)) rfl (aVX (aVV (aQ rfl)) rfl (aV5 aWd)))) (zG []))
 refine zz ?_
 refine zk hr rfl (fun h7 hr=> ?_) (fun h7 hr=> ?_)
 ·obtain⟨x45,h_8,hr⟩:=aC hr
  refine zz ?_
  obtain rfl:=sj hr
  exact sZ Tryz.results75 []
 refine zz ?_
 refine zk hr rfl (fun h9 hr=> ?_) (fun h9 hr=> ?_)
 ·refine aVQ ?_
  obtain⟨x53,h_10,hr⟩:=aC hr
  obtain⟨x57,h_11,hr⟩:=aC hr
  obtain⟨x62,h_12,hr⟩:=aC hr
  obtain⟨x65,h_13,hr⟩:=aC hr
  refine aV2 mixed [] [] [[0,1,2,3,4,5,6,7,8,9,10,11,12,13,14,15,16,17,18,19]] ?_
  refine zz ?_
  obtain rfl:=sj hr
  exact nX Tryz.results75 bH bH (aV0 (aV4 (fr':=[(0,(.tup [(.row none 1 (x65.map (eL 1 (eI .u8)))),(eI .i64 0)]))]) (h':=[some ⟨90,[(eI .i64 aT),(.row none 1 (bO.map (eI .u8))),(eI .i64 o_M),(eI .i64 o_N)]⟩,some ⟨54,(bG (eI .u8) bD [(eI .i64 bM),(eI .i64 cJ)])⟩,some ⟨31,[x57,x62].map (eL 1 (eI .u8))⟩,none]) (aV8 rfl (aV9 (aVW (aWa (aQ rfl) rfl rfl (gL (fun _=>rfl)) (by first|rfl|(simp only[aVZ,b7,b6];done))) (aVW (aV6 (aQ rfl)) aV7))) aWc) (aVX (aVV (aQ rfl)) rfl (aVX (aVV (aQ rfl)) rfl (aVX (aVV (aQ rfl)) (all_map (fun _=>rfl) _) (aV5 aWd))))) (zG []))
 refine zz ?_
 refine zk hr rfl (fun h14 hr=> ?_) (fun h14 hr=> ?_)
 ·refine aVQ ?_
  obtain⟨x73,h_15,hr⟩:=aC hr
  obtain⟨x77,h_16,hr⟩:=aC hr
  obtain⟨x82,h_17,hr⟩:=aC hr
  obtain⟨x84,h_18,hr⟩:=aC hr
  obtain⟨x85,h_20,hr⟩:=aC hr
  obtain⟨x87,h_22,hr⟩:=aC hr
  refine aV2 mixed [97,98] [] [[0,1,2,3,4,5,6,7,8,9,10,11,12,13,14,15,16,17,18,19,20,21]] ?_
  refine zz ?_
  refine xu (aKH h_18)<|xu (yN h_20) ?_
  refine zz ?_
  obtain rfl:=sj hr
  exact nX Tryz.results75 bH bH (aV0 (aV4 (fr':=[(0,(.tup [(.row none 1 (x87.map (eL 1 (eI .u8)))),(eI .i64 0)]))]) (h':=[some ⟨90,[(eI .i64 aT),(.row none 1 (bO.map (eI .u8))),(eI .i64 o_M),(eI .i64 o_N)]⟩,some ⟨54,(bG (eI .u8) bD [(eI .i64 bM),(eI .i64 cJ)])⟩,some ⟨31,[x85].map (eL 1 (eI .u8))⟩,none]) (aV8 rfl (aV9 (aVW (aWa (aQ rfl) rfl rfl (gL (fun _=>rfl)) (by first|rfl|(simp only[aVZ,b7,b6];done))) (aVW (aV6 (aQ rfl)) aV7))) aWc) (aVX (aVV (aQ rfl)) rfl (aVX (aVV (aQ rfl)) rfl (aVX (aVV (aQ rfl)) (all_map (fun _=>rfl) _) (aV5 aWd))))) (zG []))
 refine zz ?_
 refine zk hr rfl (fun h23 hr=> ?_) (fun h23 hr=> ?_)
 ·refine aVQ ?_
  obtain⟨x95,h_24,hr⟩:=aC hr
  obtain⟨x99,h_25,hr⟩:=aC hr
  obtain⟨aSL,h_26,hr⟩:=aC hr
  obtain⟨aHr,h_28,hr⟩:=aC hr
  obtain⟨aQl,h_30,hr⟩:=aC hr
  refine aV2 mixed [42,97] [] [[0,1,2,3,4,5,6,7,8,9,10,11,12,13,14,15,16,17]] ?_
  refine zz ?_
  refine xu (aAl h_26) ?_
  refine zz ?_
  refine xu (yN h_28) ?_
  refine zz ?_
  obtain rfl:=sj hr
  exact nX Tryz.results75 bH bH (aV0 (aV4 (fr':=[(0,(.tup [(.row none 1 (aQl.map (eL 1 (eI .u8)))),(eI .i64 0)]))]) (h':=[some ⟨90,[(eI .i64 aT),(.row none 1 (bO.map (eI .u8))),(eI .i64 o_M),(eI .i64 o_N)]⟩,some ⟨54,(bG (eI .u8) bD [(eI .i64 bM),(eI .i64 cJ)])⟩,some ⟨31,[aHr].map (eL 1 (eI .u8))⟩,none]) (aV8 rfl (aV9 (aVW (aWa (aQ rfl) rfl rfl (gL (fun _=>rfl)) (by first|rfl|(simp only[aVZ,b7,b6];done))) (aVW (aV6 (aQ rfl)) aV7))) aWc) (aVX (aVV (aQ rfl)) rfl (aVX (aVV (aQ rfl)) rfl (aVX (aVV (aQ rfl)) (all_map (fun _=>rfl) _) (aV5 aWd))))) (zG []))
 refine zz ?_
 refine zk hr rfl (fun h31 hr=> ?_) (fun h31 hr=> ?_)
 ·refine aVQ ?_
  obtain⟨aLb,h_32,hr⟩:=aC hr
  obtain⟨aF5,h_33,hr⟩:=aC hr
  refine zz ?_
  refine xp (aAl h_33) ?_
  refine zz ?_
  refine zk hr rfl (fun h34 hr=> ?_) (fun h34 hr=> ?_)
  ·refine zz ?_
   obtain rfl:=sj hr
   exact nX Tryz.results75 bH bH (lK [])
  obtain⟨aCE,h_35,hr⟩:=aC hr
  refine zz ?_
  obtain rfl:=sj hr
  exact sZ Tryz.results75 []
 refine zz ?_
 refine zk hr rfl (fun h36 hr=> ?_) (fun h36 hr=> ?_)
 ·obtain⟨aJl,h_37,hr⟩:=aC hr
  obtain⟨aGa,h_38,hr⟩:=aC hr
  obtain⟨q,h_39,hr⟩:=aC hr
  refine zz ?_
  refine xp (tS h_38) ?_
  refine zz ?_
  refine aVQ<|aVY (zv 2) ?_
  obtain⟨aTx,h_40,hr⟩:=aC hr
  obtain⟨aQi,h_41,hr⟩:=aC hr
  refine aV2 mixed [] [] [[0,1,2,3,4,5,6,7,8,9,10]] ?_
  refine zz ?_
  obtain rfl:=sj hr
  exact nX Tryz.results75 bH bH (aV0 (aV4 (fr':=[(0,(.tup [(.row none 1 (aQi.map (eL 1 (eI .u8)))),(eI .i64 0)]))]) (h':=[some ⟨90,[(eI .i64 aT),(.row none 1 (bO.map (eI .u8))),(eI .i64 o_M),(eI .i64 o_N)]⟩,some ⟨54,(bG (eI .u8) bD [(eI .i64 bM),(eI .i64 cJ)])⟩,none,some ⟨31,[aGa].map (eL 1 (eI .u8))⟩,none]) (aV8 rfl (aV9 (aVW (aWa (aQ rfl) rfl rfl (gL (fun _=>rfl)) (by first|rfl|(simp only[aVZ,b7,b6];done))) (aVW (aV6 (aQ rfl)) aV7))) aWc) (aVX (aVV (aQ rfl)) rfl (aVX (aVV (aQ rfl)) rfl (aV5 (aVX (aVV (aQ rfl)) (all_map (fun _=>rfl) _) (aV5 aWd)))))) (zG []))
 refine zz ?_
 refine zk hr rfl (fun h42 hr=> ?_) (fun h42 hr=> ?_)
 ·obtain⟨aTd,h_43,hr⟩:=aC hr
  obtain⟨aTw,h_44,hr⟩:=aC hr
  obtain⟨aGc,h_45,hr⟩:=aC hr
  refine zz ?_
  refine zc (aCq h_44) [] ?_
  refine aWe (zv 2) ?_
  refine zc (aAN h_45) [] ?_
  refine zz ?_
  obtain rfl:=sj hr
  exact nX Tryz.results75 bH bH (aV0 (aV4 (fr':=[(0,(.tup [(.row none 1 (aGc.1.map (eL 1 (eI .u8)))),(eI .i64 aGc.2)]))]) (h':=[some ⟨90,[(eI .i64 aT),(.row none 1 (bO.map (eI .u8))),(eI .i64 o_M),(eI .i64 o_N)]⟩,some ⟨54,(bG (eI .u8) bD [(eI .i64 bM),(eI .i64 cJ)])⟩,none,none]) (aV8 rfl (aV9 (aVW (aWa (aQ rfl) rfl rfl (gL (fun _=>rfl)) (by first|rfl|(simp only[aVZ,b7,b6];done))) (aVW (aV6 (aQ rfl)) aV7))) aWc) (aVX (aVV (aQ rfl)) rfl (aVX (aVV (aQ rfl)) rfl (aV5 (aV5 aWd))))) (zG []))
 refine zz ?_
 refine zk hr rfl (fun h46 hr=> ?_) (fun h46 hr=> ?_)
 ·refine aVQ ?_
  obtain⟨aTH,h_47,hr⟩:=aC hr
  obtain⟨aSV,h_48,hr⟩:=aC hr
  obtain⟨q_1,h_49,hr⟩:=aC hr
  obtain⟨aOa,h_50,hr⟩:=aC hr
  refine aV2 mixed [100] [] [[0,1,2,3,4,5,6,7,8,9,10,11,12,13,14,15,16,17]] ?_
  refine zz ?_
  refine xu (aDU h_50) ?_
  refine zz ?_
  refine aVQ ?_
  obtain⟨aTD,h_52,hr⟩:=aC hr
  obtain⟨aP2,h_53,hr⟩:=aC hr
  obtain⟨aQq,h_55,hr⟩:=aC hr
  refine aV2 mixed [97] [] [[0,1,2,3,4,5,6,7,8,9,10,11,12]] ?_
  refine zz ?_
  refine xu (yN h_53) ?_
  refine zz ?_
  obtain rfl:=sj hr
  exact nX Tryz.results75 bH bH (aV0 (aV4 (fr':=[(0,(.tup [(.row none 1 (aQq.map (eL 1 (eI .u8)))),(eI .i64 aOa.2)]))]) (h':=[some ⟨90,[(eI .i64 aT),(.row none 1 (bO.map (eI .u8))),(eI .i64 o_M),(eI .i64 o_N)]⟩,some ⟨54,(bG (eI .u8) bD [(eI .i64 bM),(eI .i64 cJ)])⟩,some ⟨31,[aP2].map (eL 1 (eI .u8))⟩,none]) (aV8 rfl (aV9 (aVW (aWa (aQ rfl) rfl rfl (gL (fun _=>rfl)) (by first|rfl|(simp only[aVZ,b7,b6];done))) (aVW (aV6 (aQ rfl)) aV7))) aWc) (aVX (aVV (aQ rfl)) rfl (aVX (aVV (aQ rfl)) rfl (aVX (aVV (aQ rfl)) (all_map (fun _=>rfl) _) (aV5 aWd))))) (zG []))
 refine zz ?_
 refine zk hr rfl (fun h56 hr=> ?_) (fun h56 hr=> ?_)
 ·refine zz ?_
  refine aVQ ?_
  obtain⟨aTt,h_57,hr⟩:=aC hr
  obtain⟨q_2,h_58,hr⟩:=aC hr
  obtain⟨aNv,h_59,hr⟩:=aC hr
  refine aV2 mixed [101] [] [[0,1,2,3,4,5,6,7,8,9,10,11]] ?_
  refine zz ?_
  refine xu (aJx h_59) ?_
  refine zz ?_
  refine aVQ ?_
  obtain⟨aTA,h_61,hr⟩:=aC hr
  obtain⟨aPU,h_62,hr⟩:=aC hr
  obtain⟨aPO,h_64,hr⟩:=aC hr
  refine aV2 mixed [97] [] [[0,1,2,3,4,5,6,7,8,9,10]] ?_
  refine zz ?_
  refine xu (yN h_62) ?_
  refine zz ?_
  obtain rfl:=sj hr
  exact nX Tryz.results75 bH bH (aV0 (aV4 (fr':=[(0,(.tup [(.row none 1 (aPO.map (eL 1 (eI .u8)))),(eI .i64 aNv.2)]))]) (h':=[some ⟨90,[(eI .i64 aT),(.row none 1 (bO.map (eI .u8))),(eI .i64 o_M),(eI .i64 o_N)]⟩,some ⟨54,(bG (eI .u8) bD [(eI .i64 bM),(eI .i64 cJ)])⟩,some ⟨31,[aPU].map (eL 1 (eI .u8))⟩,none]) (aV8 rfl (aV9 (aVW (aWa (aQ rfl) rfl rfl (gL (fun _=>rfl)) (by first|rfl|(simp only[aVZ,b7,b6];done))) (aVW (aV6 (aQ rfl)) aV7))) aWc) (aVX (aVV (aQ rfl)) rfl (aVX (aVV (aQ rfl)) rfl (aVX (aVV (aQ rfl)) (all_map (fun _=>rfl) _) (aV5 aWd))))) (zG []))
 refine zz ?_
 refine zk hr rfl (fun h65 hr=> ?_) (fun h65 hr=> ?_)
 ·refine aVQ ?_
  obtain⟨aTB,h_66,hr⟩:=aC hr
  obtain⟨aTq,h_67,hr⟩:=aC hr
  refine aV2 mixed [102] [] [[0,1,2,3,4,5,6,7,8,9,10]] ?_
  refine zz ?_
  refine xu (aDV h_67) ?_
  refine zz ?_
  obtain rfl:=sj hr
  exact sZ Tryz.results75 []
 refine zz ?_
 refine zk hr rfl (fun h69 hr=> ?_) (fun h69 hr=> ?_)
 ·refine aVQ ?_
  obtain⟨aTI,h_70,hr⟩:=aC hr
  obtain⟨aTM,h_71,hr⟩:=aC hr
  refine aV2 mixed [102] [] [[0,1,2,3,4,5,6,7,8,9,10]] ?_
  refine zz ?_
  refine xu (aDV h_71) ?_
  refine zz ?_
  obtain rfl:=sj hr
  exact sZ Tryz.results75 []
 refine zz ?_
 obtain rfl:=sj hr
 exact nX Tryz.results75 bH bH (lK [])
theorem aK5 {N:Nat}{b:List Int}{stack:List (List Int)}{bD:List Int}{bM cJ:Int}{r:(List (List Int))×Int×Int}(hr:aCf N b stack bD bM cJ=some r):
  Vm.Fn Tryz.prog 41 [] [(.row none 1 (b.map (eI .u8))),(.row none 1 (stack.map (eL 1 (eI .u8)))),(.agg (bG (eI .u8) bD [(eI .i64 bM),(eI .i64 cJ)]))] (.tup [(.row none 1 (r.1.map (eL 1 (eI .u8)))),(eI .i64 r.2.1),(eI .i64 r.2.2)]) []:=by
 refine zf Tryz.func41 Tryz.ntmps41 ?_
 unfold aCf at hr
 obtain⟨bS,h_1,hr⟩:=aC hr
 refine zz ?_
 refine zc (aJt h_1) [] ?_
 refine zz ?_
 refine aVQ ?_
 refine zz ?_
 refine zk hr rfl (fun h2 hr=> ?_) (fun h2 hr=> ?_)
 ·refine zz ?_
  obtain rfl:=sj hr
  exact wP Tryz.results41 bH bH bH (lK [])
 refine zz ?_
 refine aVQ ?_
 obtain⟨x27,h_3,hr⟩:=aC hr
 refine zz ?_
 refine jD (aIs h_3) [] [1] ?_
 refine zz ?_
 refine zk hr rfl (fun h4 hr=> ?_) (fun h4 hr=> ?_)
 ·refine zz ?_
  obtain rfl:=sj hr
  exact wP Tryz.results41 bH bH bH (lK [])
 refine zz ?_
 refine aVQ ?_
 obtain⟨lL,h_5,hr⟩:=aC hr
 refine zz ?_
 refine xp (aKy h_5) ?_
 refine zz ?_
 refine zk hr rfl (fun h6 hr=> ?_) (fun h6 hr=> ?_)
 ·refine zz ?_
  obtain rfl:=sj hr
  exact wP Tryz.results41 bH bH bH (lK [])
 obtain⟨nW,h_7,hr⟩:=aC hr
 refine zz ?_
 refine zc (aH5 h_7) [] ?_
 refine zz ?_
 refine aVS fun K1 hK1 hG1=> ?_
 have J1: ∀(vs:List (List Int))(cost:Int),aDl N vs cost=some r→K1 (aI 134 [(11,(.row none 1 (vs.map (eL 1 (eI .u8))))),(12,(eI .i64 cost))]) []:=by
  intro vs cost hr
  unfold aDl at hr
  refine hK1 _ _ ?_
  refine zz ?_
  obtain rfl:=sj hr
  exact zd3 Tryz.results41 []
 refine zz ?_
 refine aVY (zv 2) ?_
 obtain⟨bQ,hL2,hr⟩:=aC hr
 refine aVT<|aV1 (fun m s h=> ∃(jS:List (List Int))(kK x35:Int)(l1:List bB),dY N bD bM cJ bS m jS kK x35 l1=some bQ∧Ghost 0 s h (aI 134 [(5,(.ptr 0 0)),(11,(.row none 1 (jS.map (eL 1 (eI .u8))))),(12,(eI .i64 kK)),(13,(.sl 1 0 l1.length 2 true)),(33,(.sl 2 0 bS.1.length 4 true)),(34,(eI .i64 (bS.1.length:Int))),(35,(eI .i64 x35))]) [some ⟨54,(bG (eI .u8) bD [(eI .i64 bM),(eI .i64 cJ)])⟩,some ⟨103,l1.flatMap bP⟩,some ⟨90,bS.1.flatMap cO⟩]) (n:=N) ⟨nW,0,0,[],hL2,(zW 103 [0,3,1])⟩ (by rintro s h ⟨_,_,_,_,h0,_⟩;simp[dY]at h0) ?_
 rintro m2 s h ⟨jS,kK,x35,l1,hr2,hg⟩
 refine aVY hg ?_
 clear hg hL2
 rw[dY]at hr2
 refine zz ?_
 refine aVQ ?_
 refine zk hr2 rfl (fun h8 hr2=> ?_) (fun h8 hr2=> ?_)
 ·refine zz ?_
  refine aVS fun K3 hK3 hG3=> ?_
  have J3: ∀(aIN:List (List Int))(aEC:Int)(cS:List bB),iK N bD bM cJ bS x35 (dY N bD bM cJ bS m2) aIN aEC cS=some bQ→K3 (aI 134 [(5,(.ptr 0 0)),(11,(.row none 1 (aIN.map (eL 1 (eI .u8))))),(12,(eI .i64 aEC)),(13,(.sl 1 0 cS.length 2 true)),(33,(.sl 2 0 bS.1.length 4 true)),(34,(eI .i64 (bS.1.length:Int))),(35,(eI .i64 x35))]) [some ⟨54,(bG (eI .u8) bD [(eI .i64 bM),(eI .i64 cJ)])⟩,some ⟨103,cS.flatMap bP⟩,some ⟨90,bS.1.flatMap cO⟩]:=by
   intro aIN aEC cS hr2
   unfold iK at hr2
   refine hK3 _ _ ?_
   refine zz ?_
   exact⟨aIN,aEC,aVR.wrap (x35+1),cS,hr2,(zG [0,1,2])⟩
  refine aVT ?_
  obtain⟨x37,h_9,hr2⟩:=aC hr2
  refine zz ?_
  refine xw (v:=(.agg [(eI .i64 x37.Code),(.row none 1 (x37.Data.map (eI .u8))),(eI .i64 x37.M),(eI .i64 x37.N)])) (cA rfl (aNz (C:=cO) (K:=4) (fun _=>rfl) rfl h_9 (aCJ (ds:=[(eI .i64 x37.Code),(.row none 1 (x37.Data.map (eI .u8))),(eI .i64 x37.M),(eI .i64 x37.N)]) aBM rfl zl rfl))) ?_
  obtain⟨x40,h_10,hr2⟩:=aC hr2
  refine zz ?_
  refine jD (aIz h_10) [] [1] ?_
  refine zz ?_
  refine aVS fun K4 hK4 hG4=> ?_
  have J4: ∀(iO:Bool),tE N bD bM cJ bS jS kK x35 l1 x37 (dY N bD bM cJ bS m2) iO=some bQ→K4 (aI 134 [(5,(.ptr 0 0)),(11,(.row none 1 (jS.map (eL 1 (eI .u8))))),(12,(eI .i64 kK)),(13,(.sl 1 0 l1.length 2 true)),(15,(.ptr 2 0)),(16,(eB iO)),(33,(.sl 3 0 bS.1.length 4 true)),(34,(eI .i64 (bS.1.length:Int))),(35,(eI .i64 x35))]) [some ⟨54,(bG (eI .u8) bD [(eI .i64 bM),(eI .i64 cJ)])⟩,some ⟨103,l1.flatMap bP⟩,some ⟨90,[(eI .i64 x37.Code),(.row none 1 (x37.Data.map (eI .u8))),(eI .i64 x37.M),(eI .i64 x37.N)]⟩,some ⟨90,bS.1.flatMap cO⟩]:=by
   intro iO hr2
   unfold tE at hr2
   refine hK4 _ _ ?_
   refine aVS fun K5 hK5 hG5=> ?_
   have J5: ∀(mK:Int),t0 N bD bM cJ bS jS x35 l1 x37 iO (dY N bD bM cJ bS m2) mK=some bQ→K5 (aI 134 [(5,(.ptr 0 0)),(11,(.row none 1 (jS.map (eL 1 (eI .u8))))),(12,(eI .i64 mK)),(13,(.sl 1 0 l1.length 2 true)),(15,(.ptr 2 0)),(16,(eB iO)),(33,(.sl 3 0 bS.1.length 4 true)),(34,(eI .i64 (bS.1.length:Int))),(35,(eI .i64 x35))]) [some ⟨54,(bG (eI .u8) bD [(eI .i64 bM),(eI .i64 cJ)])⟩,some ⟨103,l1.flatMap bP⟩,some ⟨90,[(eI .i64 x37.Code),(.row none 1 (x37.Data.map (eI .u8))),(eI .i64 x37.M),(eI .i64 x37.N)]⟩,some ⟨90,bS.1.flatMap cO⟩]:=by
    intro mK hr2
    unfold t0 at hr2
    refine hK5 _ _<|aVT ?_
    refine zz ?_
    refine zk hr2 rfl (fun h11 hr2=> ?_) (fun h11 hr2=> ?_)
    ·refine zz ?_
     refine aVS fun K6 hK6 hG6=> ?_
     have J6: ∀(aI3:List (List Int))(c2:Bool),tW N bD bM cJ bS x35 l1 iO mK (dY N bD bM cJ bS m2) aI3 c2=some bQ→K6 (aI 134 [(5,(.ptr 0 0)),(11,(.row none 1 (aI3.map (eL 1 (eI .u8))))),(12,(eI .i64 mK)),(13,(.sl 1 0 l1.length 2 true)),(17,(.ptr 2 0)),(33,(.sl 3 0 bS.1.length 4 true)),(34,(eI .i64 (bS.1.length:Int))),(35,(eI .i64 x35))]) [some ⟨54,(bG (eI .u8) bD [(eI .i64 bM),(eI .i64 cJ)])⟩,some ⟨103,l1.flatMap bP⟩,some ⟨103,[(eB iO),(eB c2)]⟩,some ⟨90,bS.1.flatMap cO⟩]:=by
      intro aI3 c2 hr2
      unfold tW at hr2
      refine hK6 _ _ ?_
      obtain⟨x91,h_12,hr2⟩:=aC hr2
      refine zz ?_
      refine xw (v:=(.sl 4 0 1 2 true)) (h':=[some ⟨54,(bG (eI .u8) bD [(eI .i64 bM),(eI .i64 cJ)])⟩,some ⟨103,l1.flatMap bP⟩,some ⟨103,[(eB iO),(eB c2)]⟩,some ⟨90,bS.1.flatMap cO⟩,some ⟨103,[(bB.mk iO c2)].flatMap bP⟩]) (pD rfl (aCL (C:=bP) (xs:=[(bB.mk iO c2)]) (K:=2) (fun _=>rfl) (fun _=>rfl) aNU aET ⟨zl,zl,zl⟩ rfl rfl rfl rfl rfl rfl)) ?_
      refine zz ?_
      exact hG3 _ _ _ _ (zG [0,5,3]) (J3 aI3 mK x91 hr2)
     refine zz ?_
     refine zk hr2 rfl (fun h13 hr2=> ?_) (fun h13 hr2=> ?_)
     ·obtain⟨x79,h_14,hr2⟩:=aC hr2
      obtain⟨x81,h_15,hr2⟩:=aC hr2
      refine zz ?_
      refine xp (aAl h_15) ?_
      obtain⟨x87,h_16,hr2⟩:=aC hr2
      refine zz ?_
      exact hG6 _ _ _ _ (zG [0,1,4,3]) (J6 x87 x81 hr2)
     refine zz ?_
     exact hG6 _ _ _ _ (zG [0,1,4,3]) (J6 jS false hr2)
    refine zz ?_
    refine zk hr2 rfl (fun h17 hr2=> ?_) (fun h17 hr2=> ?_)
    ·obtain⟨aCr,h_18,hr2⟩:=aC hr2
     refine zz ?_
     refine xw (v:=(eB aCr.done)) (cA rfl (aK7 (C:=bP) (K:=2) (off:=1) (fun _=>rfl) rfl h_18 zl (pH ti4 rfl rfl))) ?_
     refine zz ?_
     refine xy (h':=[some ⟨54,(bG (eI .u8) bD [(eI .i64 bM),(eI .i64 cJ)])⟩,some ⟨103,(l1.set (aV3 (aVR.wrap ((l1.length:Int)-1))) (bB.mk aCr.reached (!aCr.done))).flatMap bP⟩,some ⟨90,[(eI .i64 x37.Code),(.row none 1 (x37.Data.map (eI .u8))),(eI .i64 x37.M),(eI .i64 x37.N)]⟩,some ⟨90,bS.1.flatMap cO⟩]) (bN rfl rfl (aPq (C:=bP) (K:=2) (off:=1) (fun _=>rfl) ti4 rfl h_18 rfl rfl zl rfl rfl)) ?_
     refine zz ?_
     exact hG3 _ _ _ _ (lK [0,1,3]) (J3 jS mK (l1.set (aV3 (aVR.wrap ((l1.length:Int)-1))) (bB.mk aCr.reached (!aCr.done))) hr2)
    refine zz ?_
    refine zk hr2 rfl (fun h19 hr2=> ?_) (fun h19 hr2=> ?_)
    ·obtain⟨aCE,h_20,hr2⟩:=aC hr2
     refine zz ?_
     refine xw (v:=(.sl 1 0 aCE.length 2 true)) (cZ rfl rfl rfl (aIE (l:=l1) rfl aNU aET rfl rfl rfl h_20)) ?_
     refine aWe (Ghost.cutF (t:=118) (C:=bP) (l:=l1) (K:=2) (h':=[some ⟨54,(bG (eI .u8) bD [(eI .i64 bM),(eI .i64 cJ)])⟩,some ⟨103,aCE.flatMap bP⟩,some ⟨90,[(eI .i64 x37.Code),(.row none 1 (x37.Data.map (eI .u8))),(eI .i64 x37.M),(eI .i64 x37.N)]⟩,some ⟨90,bS.1.flatMap cO⟩]) (fun _=>rfl) rfl rfl h_20 rfl) ?_
     refine zz ?_
     exact hG3 _ _ _ _ (zG [0,1,3]) (J3 jS mK aCE hr2)
    refine zz ?_
    refine zk hr2 rfl (fun h21 hr2=> ?_) (fun h21 hr2=> ?_)
    ·obtain⟨aLU,h_22,hr2⟩:=aC hr2
     refine zz ?_
     refine xp (aKD h_22) ?_
     refine zz ?_
     refine zk hr2 rfl (fun h23 hr2=> ?_) (fun h23 hr2=> ?_)
     ·refine zz ?_
      obtain rfl:=sj hr2
      obtain rfl:=sj hr
      exact wP Tryz.results41 bH bH bH (lK [])
     refine zz ?_
     exact hG3 _ _ _ _ (zG [0,1,3]) (J3 aLU.1 mK l1 hr2)
    refine zz ?_
    exact hG3 _ _ _ _ (zG [0,1,3]) (J3 jS mK l1 hr2)
   refine zz ?_
   refine zk hr2 rfl (fun h24 hr2=> ?_) (fun h24 hr2=> ?_)
   ·refine aVQ ?_
    obtain⟨x59,h_25,hr2⟩:=aC hr2
    refine zz ?_
    refine xp (aJj h_25) ?_
    refine zz ?_
    refine zk hr2 rfl (fun h26 hr2=> ?_) (fun h26 hr2=> ?_)
    ·refine zz ?_
     obtain rfl:=sj hr2
     obtain rfl:=sj hr
     exact wP Tryz.results41 bH bH bH (lK [])
    obtain⟨x66,h_27,hr2⟩:=aC hr2
    refine zz ?_
    refine xp (aI8 h_27) ?_
    refine zz ?_
    refine zk hr2 rfl (fun h28 hr2=> ?_) (fun h28 hr2=> ?_)
    ·refine zz ?_
     obtain rfl:=sj hr2
     obtain rfl:=sj hr
     exact wP Tryz.results41 bH bH bH (lK [])
    refine zz ?_
    exact hG5 _ _ _ _ (zG [0,1,2,3]) (J5 (aVR.wrap (kK+x59)) hr2)
   refine zz ?_
   exact hG5 _ _ _ _ (zG [0,1,2,3]) (J5 kK hr2)
  refine aVS fun K7 hK7 hG7=> ?_
  have J7: ∀(x48:Bool),qN N bD bM cJ bS jS kK x35 l1 x37 x40 (dY N bD bM cJ bS m2) x48=some bQ→K7 (aI 134 [(5,(.ptr 0 0)),(11,(.row none 1 (jS.map (eL 1 (eI .u8))))),(12,(eI .i64 kK)),(13,(.sl 1 0 l1.length 2 true)),(15,(.ptr 2 0)),(16,(eB x40)),(33,(.sl 3 0 bS.1.length 4 true)),(34,(eI .i64 (bS.1.length:Int))),(35,(eI .i64 x35)),(48,(eB x48))]) [some ⟨54,(bG (eI .u8) bD [(eI .i64 bM),(eI .i64 cJ)])⟩,some ⟨103,l1.flatMap bP⟩,some ⟨90,[(eI .i64 x37.Code),(.row none 1 (x37.Data.map (eI .u8))),(eI .i64 x37.M),(eI .i64 x37.N)]⟩,some ⟨90,bS.1.flatMap cO⟩]:=by
   intro x48 hr2
   unfold qN at hr2
   refine hK7 _ _ ?_
   refine zk hr2 rfl (fun h29 hr2=> ?_) (fun h29 hr2=> ?_)
   ·obtain⟨x53,h_30,hr2⟩:=aC hr2
    refine zz ?_
    refine xw (v:=(eB x53.reached)) (cA rfl (aK7 (C:=bP) (K:=2) (off:=0) (fun _=>rfl) rfl h_30 zl (pH ti4 rfl rfl))) ?_
    refine zz ?_
    exact hG4 _ _ _ _ (zG [0,1,2,3]) (J4 x53.reached hr2)
   refine zz ?_
   exact hG4 _ _ _ _ (zG [0,1,2,3]) (J4 x40 hr2)
  rcases aVP (x37.Code == 15)with h31|h31
  ·replace hr2:=dD hr2 h31
   refine xr ?_
   refine zz ?_
   exact hG7 _ _ _ _ (zG [0,1,3,2]) (J7 true hr2)
  replace hr2:=dA hr2 h31
  refine xr ?_
  refine zz ?_
  exact hG7 _ _ _ _ (zG [0,1,3,2]) (J7 (x37.Code == 16) hr2)
 refine zz ?_
 obtain rfl:=sj hr2
 refine zz ?_
 exact hG1 _ _ _ _ (zG []) (J1 jS kK hr)
theorem aFQ {N:Nat}{b:List Int}{bJ:List (List Int)}{bD:List Int}{bM cJ r:Int}(hr:sB N b bJ bD bM cJ=some r):
  Vm.Fn Tryz.prog 17 [] [(.row none 1 (b.map (eI .u8))),(.row none 1 (bJ.map (eL 1 (eI .u8)))),(.agg (bG (eI .u8) bD [(eI .i64 bM),(eI .i64 cJ)]))] (eI .i64 r) []:=by
 refine zf Tryz.func17 Tryz.ntmps17 ?_
 unfold sB at hr
 obtain⟨bR,h_1,hr⟩:=aC hr
 refine zz ?_
 refine xp (aK5 h_1) ?_
 refine zz ?_
 refine aVQ<|aVT ?_
 refine zz ?_
 refine zk hr rfl (fun h2 hr=> ?_) (fun h2 hr=> ?_)
 ·refine zz ?_
  obtain rfl:=sj hr
  exact bI Tryz.results17 []
 refine zz ?_
 refine zk hr rfl (fun h3 hr=> ?_) (fun h3 hr=> ?_)
 ·refine zz ?_
  obtain rfl:=sj hr
  exact bI Tryz.results17 []
 obtain⟨x28,h_4,hr⟩:=aC hr
 obtain⟨lL,h_5,hr⟩:=aC hr
 refine zz ?_
 refine xp (aAl h_5) ?_
 refine zz ?_
 refine zk hr rfl (fun h6 hr=> ?_) (fun h6 hr=> ?_)
 ·refine zz ?_
  obtain rfl:=sj hr
  exact bI Tryz.results17 []
 refine zz ?_
 obtain rfl:=sj hr
 exact bI Tryz.results17 []
theorem aIP {N:Nat}{aD:Int}{aA:List aK}{aB:List aG}{aE vi:Int}{cX:List Int}{b5 bT:Int}{bK:List Int}{b9:Int}{cM:Bool}{cP r:Int}(hr:zY N aD aA aB aE vi cX b5 bT bK b9 cM cP=some r):
  Vm.Fn Tryz.prog 8 [] [(.agg [(eI .u32 aD),(.row none 35 (aA.map aO)),(.row none 2 (aB.map aP)),(eI .u32 aE)]),(eI .i64 vi),(.agg (bG (eI .u8) cX [(eI .u32 b5),(eI .i64 bT),(.row none 1 (bK.map (eI .u8))),(eI .i64 b9),(eB cM)])),(eI .i64 cP)] (eI .i64 r) []:=by
 refine zf Tryz.func8 Tryz.ntmps8 ?_
 unfold zY at hr
 obtain⟨x16,h_1,hr⟩:=aC hr
 obtain⟨q,h_2,hr⟩:=aC hr
 refine zz ?_
 refine xp (aG1 h_1) ?_
 refine zz ?_
 refine aVQ ?_
 refine zz ?_
 refine zk hr rfl (fun h3 hr=> ?_) (fun h3 hr=> ?_)
 ·refine zz ?_
  obtain rfl:=sj hr
  exact bI Tryz.results8 []
 refine zz ?_
 refine aVQ<|aVQ ?_
 obtain⟨x25,h_4,hr⟩:=aC hr
 refine aV2 mixed [] [] [[0,1,2,3,4,5,6,7,8]] ?_
 refine zz ?_
 refine xw (v:=(eB (!(aCR x25.Prev.Tx cX ((x25.Prev.Index == b5)&&true))))) (v5 rfl rfl (aHz (d:=9) rG rfl aLV zl aN3 rfl rfl rfl rfl rfl)) ?_
 refine zz ?_
 refine zk hr rfl (fun h5 hr=> ?_) (fun h5 hr=> ?_)
 ·refine zz ?_
  obtain rfl:=sj hr
  exact bI Tryz.results8 []
 refine zz ?_
 refine aVQ ?_
 refine aVS fun K1 hK1 hG1=> ?_
 have J1: ∀(x43:Bool),p9 N aD aA aB aE vi cX b5 bT bK b9 cM cP x16 x43=some r→K1 (aI 61 [(1,(eI .i64 vi)),(3,(eI .i64 cP)),(4,(.ptr 0 0)),(6,(.ptr 1 0)),(9,(.ptr 2 0)),(43,(eB x43))]) [some ⟨26,[(eI .u32 aD),(.row none 35 (aA.map aO)),(.row none 2 (aB.map aP)),(eI .u32 aE)]⟩,some ⟨35,(bG (eI .u8) cX [(eI .u32 b5),(eI .i64 bT),(.row none 1 (bK.map (eI .u8))),(eI .i64 b9),(eB cM)])⟩,some ⟨28,x16.1.map (eI .u8)⟩]:=by
  intro x43 hr
  unfold p9 at hr
  refine hK1 _ _ ?_
  refine zk hr rfl (fun h6 hr=> ?_) (fun h6 hr=> ?_)
  ·refine zz ?_
   obtain rfl:=sj hr
   exact bI Tryz.results8 []
  refine zz ?_
  refine aVQ ?_
  obtain⟨x50,h_7,hr⟩:=aC hr
  obtain⟨x60,h_8,hr⟩:=aC hr
  refine aV2 mixed [17] [] [[0,1,2,3,4,5,6,7,8,9,10,11,12,13,14,15,16,17]] ?_
  refine zz ?_
  refine xw (v:=(.agg (bG (eI .u8) x16.1 [(eI .i64 cP),(eI .i64 (aVR.wrap (cP-b9)))]))) (cE rfl (aNS (ps':=[(0,(.agg (bG (eI .u8) x16.1 []))),(1,(eI .i64 cP)),(2,(eI .i64 (aVR.wrap (cP-b9))))]) (by simp only[uB (l:=x16.1) (bE h_2)]) (tO aBE aPV rfl)))<|xu (aFQ h_8) ?_
  refine zz ?_
  obtain rfl:=sj hr
  exact bI Tryz.results8 []
 rcases aVP (decide (16777216<cP))with h10|h10
 ·replace hr:=dD hr h10
  refine xr ?_
  refine zz ?_
  refine xX rfl<|xX rfl<|xX rfl<|xX rfl ?_
  refine zz ?_
  exact hG1 _ _ _ _ (zG [0,1,2]) (J1 true hr)
 replace hr:=dA hr h10
 rcases aVP (decide (b9<0))with h11|h11
 ·replace hr:=dD hr h11
  refine xr ?_
  refine zz ?_
  exact hG1 _ _ _ _ (zG [0,1,2]) (J1 true hr)
 replace hr:=dA hr h11
 refine xr ?_
 refine zz ?_
 exact hG1 _ _ _ _ (zG [0,1,2]) (J1 (decide (cP<b9)) hr)
theorem aFc {N:Nat}{aD:Int}{aA:List aK}{aB:List aG}{aE vi:Int}{cX:List Int}{b5 bT:Int}{bK:List Int}{b9:Int}{cM:Bool}{cP:Int}{r:Bool}(hr:pF N aD aA aB aE vi cX b5 bT bK b9 cM cP=some r):
  Vm.Fn Tryz.prog 3 [] [(.agg [(eI .u32 aD),(.row none 35 (aA.map aO)),(.row none 2 (aB.map aP)),(eI .u32 aE)]),(eI .i64 vi),(.agg (bG (eI .u8) cX [(eI .u32 b5),(eI .i64 bT),(.row none 1 (bK.map (eI .u8))),(eI .i64 b9),(eB cM)])),(eI .i64 cP)] (eB r) []:=by
 refine zf Tryz.func3 Tryz.ntmps3 ?_
 unfold pF at hr
 refine zz ?_
 refine aVQ ?_
 obtain⟨x9,h_1,hr⟩:=aC hr
 refine zz ?_
 refine xp (aKv h_1) ?_
 refine zz ?_
 refine zk hr rfl (fun h2 hr=> ?_) (fun h2 hr=> ?_)
 ·refine zz ?_
  obtain rfl:=sj hr
  exact bI Tryz.results3 []
 refine zz ?_
 refine aVQ ?_
 refine aVS fun K1 hK1 hG1=> ?_
 have J1: ∀(bS:Bool),mC N aD aA aB aE vi cX b5 bT bK b9 cM cP bS=some r→K1 (aI 32 [(1,(eI .i64 vi)),(3,(eI .i64 cP)),(4,(.ptr 0 0)),(6,(.ptr 1 0)),(20,(eB bS))]) [some ⟨26,[(eI .u32 aD),(.row none 35 (aA.map aO)),(.row none 2 (aB.map aP)),(eI .u32 aE)]⟩,some ⟨35,(bG (eI .u8) cX [(eI .u32 b5),(eI .i64 bT),(.row none 1 (bK.map (eI .u8))),(eI .i64 b9),(eB cM)])⟩]:=by
  intro bS hr
  unfold mC at hr
  refine hK1 _ _ ?_
  refine zk hr rfl (fun h3 hr=> ?_) (fun h3 hr=> ?_)
  ·refine zz ?_
   obtain rfl:=sj hr
   exact bI Tryz.results3 []
  refine zz ?_
  refine aVQ ?_
  obtain⟨x25,h_4,hr⟩:=aC hr
  obtain⟨lL,h_6,hr⟩:=aC hr
  refine aV2 mixed [7,8] [] [[0,1,2,3,4,5,6,7,8,9,10,11]] ?_
  refine zz ?_
  refine xu (aI5 h_4) ?_
  refine zz ?_
  refine xu (aIP h_6) ?_
  refine zz ?_
  obtain rfl:=sj hr
  exact bI Tryz.results3 []
 obtain⟨fC,h_8,hr⟩:=aC hr
 rcases aVP (!fC)with h9|h9
 ·replace hr:=dD hr h9
  refine xr ?_
  refine zz ?_
  refine xp (aIL h_8) ?_
  refine zz ?_
  exact hG1 _ _ _ _ (zG [0,1]) (J1 true hr)
 replace hr:=dA hr h9
 refine xr ?_
 refine zz ?_
 refine xp (aIL h_8) ?_
 refine zz ?_
 exact hG1 _ _ _ _ (zG [0,1]) (J1 (decide (600<(bK.length:Int))) hr)
end Go.Proofs.YtbjiaghljpoliaaGreatDoor
