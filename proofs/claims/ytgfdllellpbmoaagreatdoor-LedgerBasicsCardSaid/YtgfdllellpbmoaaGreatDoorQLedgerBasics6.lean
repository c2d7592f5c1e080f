/- Texts of ours, joined: Wk1. -/
import Derived.Test.YtgfdllellpbmoaaGreatDoorQLedgerBasics5
open Bool renaming eq_false_or_eq_true → aYV
open Go.IntKind renaming i64 → aYW,u32 → aYZ,max → aY7,u8 → aZa
open List renaming replicate → aYX
open Go.Vm.AB renaming block → aYY,seq → aY0,seq_g → aY1,ghost → aY2,loopM → aY3,rs → aY6
open Int renaming tmod → aY4,toNat → aY5,tdiv → aY9
open Go.Vm.Ghost renaming trans → aY8
open Go.Vm.DrawG renaming ps → aZb,jh → aZd
open Go.Vm.OpsX renaming ghost → aZc
set_option linter.unusedVariables false
set_option linter.unusedSimpArgs false
set_option maxRecDepth 20000
set_option maxHeartbeats 8000000
namespace Go.Proofs.YtgfdllellpbmoaaGreatDoor
open Go Go.Vm
theorem aFe {N p r} (hr:aCH N p=some r):
  Vm.Fn Tryz.prog 5 [] [(cY p)] (eB r) []:=by
 refine zf Tryz.func5 Tryz.ntmps5 ?_
 unfold aCH at hr
 refine zz ?_
 obtain rfl:=sj hr
 exact aX Tryz.results5 []
theorem aMn {N l vn r} (hr:aBk N l vn=some r):
  Vm.Fn Tryz.prog 6 [] [(.row none 37 (l.map aR)),(eI .i64 vn)] (eB r) []:=by
 refine zf Tryz.func6 Tryz.ntmps6 ?_
 unfold aBk at hr
 refine zz ?_
 refine aY0<|zz ?_
 refine zk hr ?_ ?_<;>intro h1 hr
 ·refine zz ?_
  obtain rfl:=sj hr
  exact aX Tryz.results6 []
 refine zz ?_
 refine aY1 fun K1 hK1 hG1=> ?_
 have J1:aDq N=some r→K1 (aD 23 []) []:=by
  intro hr
  unfold aDq at hr
  refine hK1<|zz ?_
  obtain rfl:=sj hr
  exact aX Tryz.results6 []
 obtain⟨bB,hL2,hr⟩:=aA hr
 refine zz ?_
 refine aYY<|aY3 (fun m s h=> ∃cB,oZ N l m cB=some bB∧Ghost 0 s h (aD 23 [(11,(.row none 37 (l.map aR))),(12,(eI .i64 (l.length:Int))),(13,(eI .i64 cB))]) []) ⟨0,hL2,(zG [])⟩ ?_
 rintro m2 s h ⟨cB,hr2,hg⟩
 refine aY2 hg ?_
 clear hg hL2
 rw[oZ]at hr2
 refine zz ?_
 refine aY0 ?_
 refine zk hr2 ?_ ?_<;>intro h2 hr2
 ·refine zz ?_
  refine aY0<|aYY ?_
  obtain⟨x15,h_3,hr2⟩:=aA hr2
  refine zz ?_
  refine zk hr2 ?_ ?_<;>intro h4 hr2
  ·refine zz ?_
   obtain rfl:=sj hr2
   obtain rfl:=sj hr
   exact aX Tryz.results6 []
  refine zz ?_
  exact⟨aYW.wrap (cB+1),hr2,(zG [])⟩
 refine zz ?_
 obtain rfl:=sj hr2
 refine zz ?_
 exact hG1 (zG []) (J1 hr)
theorem aIR {N vn r} (hr:aAA N vn=some r):
  Vm.Fn Tryz.prog 63 [] [(eI .u64 vn)] (.agg (r.map (eI .u64))) []:=by
 refine zf Tryz.func63 Tryz.ntmps63 ?_
 unfold aAA at hr
 refine zz ?_
 refine xw (v:=(.agg ([vn,0,0,0].map (eI .u64)))) (bV rfl (oT sN rD rfl)) ?_
 refine zz ?_
 obtain rfl:=sj hr
 exact gL Tryz.results63 aY (zG [])
theorem aHr {N x r} (hr:rN N x=some r):
  Vm.Fn Tryz.prog 101 [] [(eI .u64 x)] (eI .i64 r) []:=by
 refine zf Tryz.func101 Tryz.ntmps101 ?_
 unfold rN at hr
 refine zz ?_
 refine aY1 fun K1 hK1 hG1=> ?_
 have J1: ∀x_1 vn,kR N x_1 vn=some r→K1 (aD 25 [(0,(eI .u64 x_1)),(2,(eI .i64 vn))]) []:=by
  intro x_1 vn hr
  unfold kR at hr
  refine hK1 ?_
  refine aY1 fun K2 hK2 hG2=> ?_
  have J2: ∀x_2 iV,kK N x_2 iV=some r→K2 (aD 25 [(0,(eI .u64 x_2)),(2,(eI .i64 iV))]) []:=by
   intro x_2 iV hr
   unfold kK at hr
   refine hK2 ?_
   refine aY1 fun K3 hK3 hG3=> ?_
   have J3: ∀x_3 aNl,iP N x_3 aNl=some r→K3 (aD 25 [(0,(eI .u64 x_3)),(2,(eI .i64 aNl))]) []:=by
    intro x_3 aNl hr
    unfold iP at hr
    refine hK3 ?_
    obtain⟨bW,h_1,hr⟩:=aA hr
    refine zz ?_
    refine xw (v:=(eI .u8 bW)) (aV9 rfl rfl (ixT ti9 h_1)) ?_
    refine zz ?_
    obtain rfl:=sj hr
    exact aX Tryz.results101 []
   refine zz ?_
   refine zk hr ?_ ?_<;>intro h2 hr
   ·obtain⟨x16,h_3,hr⟩:=aA hr
    refine zz ?_
    exact hG3 (zG []) (J3 x16 (aYW.wrap (iV+8)) hr)
   refine zz ?_
   exact hG3 (zG []) (J3 x_2 iV hr)
  refine zz ?_
  refine zk hr ?_ ?_<;>intro h4 hr
  ·obtain⟨bQ,h_5,hr⟩:=aA hr
   refine zz ?_
   exact hG2 (zG []) (J2 bQ (aYW.wrap (vn+16)) hr)
  refine zz ?_
  exact hG2 (zG []) (J2 x_1 vn hr)
 refine zz ?_
 refine zk hr ?_ ?_<;>intro h6 hr
 ·obtain⟨x6,h_7,hr⟩:=aA hr
  refine zz ?_
  exact hG1 (zG []) (J1 x6 32 hr)
 refine zz ?_
 exact hG1 (zG []) (J1 x 0 hr)
theorem aOW {N va r} (hr:aEo N va=some r):
  Vm.Fn Tryz.prog 64 [] [(.agg (va.map (eI .u64)))] (eI .i64 r) []:=by
 refine zf Tryz.func64 Tryz.ntmps64 ?_
 unfold aEo at hr
 refine zz ?_
 refine aY1 fun K1 hK1 hG1=> ?_
 have J1:aCU N=some r→K1 (aD 19 []) []:=by
  intro hr
  unfold aCU at hr
  refine hK1<|zz ?_
  obtain rfl:=sj hr
  exact aX Tryz.results64 []
 obtain⟨bB,hL2,hr⟩:=aA hr
 refine zz ?_
 refine aYY<|aY3 (fun m s h=> ∃vi,vQ N va m vi=some bB∧Ghost 0 s h (aD 19 [(1,(.ptr 0 0)),(3,(eI .i64 vi))]) [some ⟨29,va.map (eI .u64)⟩]) ⟨3,hL2,(zG [0])⟩ ?_
 rintro m2 s h ⟨vi,hr2,hg⟩
 refine aY2 hg ?_
 clear hg hL2
 rw[vQ]at hr2
 refine aY0<|zz ?_
 refine zk hr2 ?_ ?_<;>intro h1 hr2
 ·refine zz ?_
  refine aY0<|aYY ?_
  obtain⟨x9,h_2,hr2⟩:=aA hr2
  refine zz ?_
  refine zk hr2 ?_ ?_<;>intro h3 hr2
  ·obtain⟨x17,h_4,hr2⟩:=aA hr2
   refine zz ?_
   refine xp (aHr h_4) ?_
   refine zz ?_
   obtain rfl:=sj hr2
   obtain rfl:=sj hr
   exact aX Tryz.results64 []
  refine zz ?_
  exact⟨aYW.wrap (vi-1),hr2,(zG [0])⟩
 refine zz ?_
 obtain rfl:=sj hr2
 refine zz ?_
 exact hG1 (zG []) (J1 hr)
theorem aO1 {N va vn r} (hr:aDX N va vn=some r):
  Vm.Fn Tryz.prog 102 [] [(.agg (va.map (eI .u64))),(eI .i64 vn)] (.agg (r.map (eI .u64))) []:=by
 refine zf Tryz.func102 Tryz.ntmps102 ?_
 unfold aDX at hr
 refine zz ?_
 refine aY0<|zz ?_
 refine zk hr ?_ ?_<;>intro h1 hr
 ·obtain⟨q,h_2,hr⟩:=aA hr
  refine zz ?_
  obtain rfl:=sj hr
  exact gL Tryz.results102 aY (zG [])
 refine zz ?_
 refine aY0<|zz ?_
 refine zk hr ?_ ?_<;>intro h3 hr
 ·refine zz ?_
  obtain rfl:=sj hr
  exact gL Tryz.results102 aY (zG [])
 refine zz ?_
 refine aY1 fun K1 hK1 hG1=> ?_
 have J1: ∀l1,aCS N l1=some r→K1 (aD 53 [(4,(.ptr 0 0)),(5,(.ptr 1 0))]) [some ⟨29,(aYX 4 0).map (eI .u64)⟩,some ⟨29,l1.map (eI .u64)⟩]:=by
  intro l1 hr
  unfold aCS at hr
  refine hK1 ?_
  obtain⟨q_1,h_4,hr⟩:=aA hr
  refine zz ?_
  obtain rfl:=sj hr
  exact gL Tryz.results102 aY (zG [])
 obtain⟨bB,hL2,hr⟩:=aA hr
 refine zz ?_
 refine aYY<|aY3 (fun m s h=> ∃cW l2,pN N va vn m cW l2=some bB∧Ghost 0 s h (aD 53 [(2,(.ptr 0 0)),(4,(.ptr 1 0)),(5,(.ptr 2 0)),(6,(eI .i64 (aYW.wrap (aY9 vn 64)))),(7,(eI .i64 (aY4 vn 64))),(20,(eI .i64 (aYW.wrap (4-(aYW.wrap (aY9 vn 64)))))),(21,(eI .i64 cW))]) [some ⟨29,va.map (eI .u64)⟩,some ⟨29,(aYX 4 0).map (eI .u64)⟩,some ⟨29,l2.map (eI .u64)⟩]) ⟨0,aYX 4 0,hL2,(zG [0,1,2])⟩ ?_
 rintro m2 s h ⟨cW,l2,hr2,hg⟩
 refine aY2 hg ?_
 clear hg hL2
 rw[pN]at hr2
 refine zz ?_
 refine aY0 ?_
 refine zk hr2 ?_ ?_<;>intro h5 hr2
 ·refine zz ?_
  refine aY1 fun K3 hK3 hG3=> ?_
  have J3: ∀dJ,aAe N va vn cW (pN N va vn m2) dJ=some bB→K3 (aD 53 [(2,(.ptr 0 0)),(4,(.ptr 1 0)),(5,(.ptr 2 0)),(6,(eI .i64 (aYW.wrap (aY9 vn 64)))),(7,(eI .i64 (aY4 vn 64))),(20,(eI .i64 (aYW.wrap (4-(aYW.wrap (aY9 vn 64)))))),(21,(eI .i64 cW))]) [some ⟨29,va.map (eI .u64)⟩,some ⟨29,(aYX 4 0).map (eI .u64)⟩,some ⟨29,dJ.map (eI .u64)⟩]:=by
   intro dJ hr2
   unfold aAe at hr2
   refine hK3<|zz ?_
   exact⟨aYW.wrap (cW+1),dJ,hr2,(zG [0,1,2])⟩
  refine aYY ?_
  obtain⟨x28,h_6,hr2⟩:=aA hr2
  obtain⟨cO,h_7,hr2⟩:=aA hr2
  obtain⟨g6,h_8,hr2⟩:=aA hr2
  refine zz ?_
  refine zk hr2 ?_ ?_<;>intro h9 hr2
  ·obtain⟨x38,h_10,hr2⟩:=aA hr2
   obtain⟨x44,h_11,hr2⟩:=aA hr2
   obtain⟨x48,h_12,hr2⟩:=aA hr2
   refine aY6 mixed [] [] [[0,1,2,3,4,5,6,7,8,9,10,11,12,13,14]]<|zz ?_
   exact hG3 (zG [0,1,2]) (J3 ((l2.set (aY5 cW) cO).set (aY5 cW) (bits .or .u64 x38 x48)) hr2)
  refine zz ?_
  exact hG3 (zG [0,1,2]) (J3 (l2.set (aY5 cW) cO) hr2)
 refine zz ?_
 obtain rfl:=sj hr2
 refine zz ?_
 exact hG1 (zG [1,2]) (J1 l2 hr)
theorem aOT {N va vn r} (hr:mX N va vn=some r):
  Vm.Fn Tryz.prog 103 [] [(.agg (va.map (eI .u64))),(eI .i64 vn)] (.agg (r.map (eI .u64))) []:=by
 refine zf Tryz.func103 Tryz.ntmps103 ?_
 unfold mX at hr
 refine zz ?_
 refine aY0<|zz ?_
 refine zk hr ?_ ?_<;>intro h1 hr
 ·obtain⟨q,h_2,hr⟩:=aA hr
  refine zz ?_
  obtain rfl:=sj hr
  exact gL Tryz.results103 aY (zG [])
 refine zz ?_
 refine aY0<|zz ?_
 refine zk hr ?_ ?_<;>intro h3 hr
 ·refine zz ?_
  obtain rfl:=sj hr
  exact gL Tryz.results103 aY (zG [])
 refine zz ?_
 refine aY1 fun K1 hK1 hG1=> ?_
 have J1: ∀l1,aE3 N l1=some r→K1 (aD 51 [(4,(.ptr 0 0)),(5,(.ptr 1 0))]) [some ⟨29,(aYX 4 0).map (eI .u64)⟩,some ⟨29,l1.map (eI .u64)⟩]:=by
  intro l1 hr
  unfold aE3 at hr
  refine hK1 ?_
  obtain⟨q_1,h_4,hr⟩:=aA hr
  refine zz ?_
  obtain rfl:=sj hr
  exact gL Tryz.results103 aY (zG [])
 obtain⟨bB,hL2,hr⟩:=aA hr
 refine zz ?_
 refine aYY<|aY3 (fun m s h=> ∃vi l2,gH N va vn m vi l2=some bB∧Ghost 0 s h (aD 51 [(2,(.ptr 0 0)),(4,(.ptr 1 0)),(5,(.ptr 2 0)),(6,(eI .i64 (aYW.wrap (aY9 vn 64)))),(7,(eI .i64 (aY4 vn 64))),(8,(eI .i64 vi))]) [some ⟨29,va.map (eI .u64)⟩,some ⟨29,(aYX 4 0).map (eI .u64)⟩,some ⟨29,l2.map (eI .u64)⟩]) ⟨aYW.wrap (aY9 vn 64),aYX 4 0,hL2,(zG [0,1,2])⟩ ?_
 rintro m2 s h ⟨vi,l2,hr2,hg⟩
 refine aY2 hg ?_
 clear hg hL2
 rw[gH]at hr2
 refine aY0<|zz ?_
 refine zk hr2 ?_ ?_<;>intro h5 hr2
 ·refine zz ?_
  refine aY1 fun K3 hK3 hG3=> ?_
  have J3: ∀dJ,pL N va vn vi (gH N va vn m2) dJ=some bB→K3 (aD 51 [(2,(.ptr 0 0)),(4,(.ptr 1 0)),(5,(.ptr 2 0)),(6,(eI .i64 (aYW.wrap (aY9 vn 64)))),(7,(eI .i64 (aY4 vn 64))),(8,(eI .i64 vi))]) [some ⟨29,va.map (eI .u64)⟩,some ⟨29,(aYX 4 0).map (eI .u64)⟩,some ⟨29,dJ.map (eI .u64)⟩]:=by
   intro dJ hr2
   unfold pL at hr2
   refine hK3<|zz ?_
   exact⟨aYW.wrap (vi+1),dJ,hr2,(zG [0,1,2])⟩
  refine aYY ?_
  obtain⟨x28,h_6,hr2⟩:=aA hr2
  obtain⟨cO,h_7,hr2⟩:=aA hr2
  obtain⟨g6,h_8,hr2⟩:=aA hr2
  refine zz ?_
  refine zk hr2 ?_ ?_<;>intro h9 hr2
  ·obtain⟨x37,h_10,hr2⟩:=aA hr2
   obtain⟨x43,h_11,hr2⟩:=aA hr2
   obtain⟨x47,h_12,hr2⟩:=aA hr2
   refine aY6 mixed [] [] [[0,1,2,3,4,5,6,7,8,9,10,11,12,13,14]]<|zz ?_
   exact hG3 (zG [0,1,2]) (J3 ((l2.set (aY5 vi) cO).set (aY5 vi) (bits .or .u64 x37 x47)) hr2)
  refine zz ?_
  exact hG3 (zG [0,1,2]) (J3 (l2.set (aY5 vi) cO) hr2)
 refine zz ?_
 obtain rfl:=sj hr2
 refine zz ?_
 exact hG1 (zG [1,2]) (J1 l2 hr)
theorem aH8 {N va vn r} (hr:pU N va vn=some r):
  Vm.Fn Tryz.prog 65 [] [(.agg (va.map (eI .u64))),(eI .i64 vn)] (.agg (r.map (eI .u64))) []:=by
 refine zf Tryz.func65 Tryz.ntmps65 ?_
 unfold pU at hr
 refine zz ?_
 refine aY0<|zz ?_
 refine zk hr ?_ ?_<;>intro h1 hr
 ·obtain⟨q,h_2,hr⟩:=aA hr
  obtain⟨bQ,h_3,hr⟩:=aA hr
  obtain⟨q_1,h_4,hr⟩:=aA hr
  refine zz ?_
  refine xw (aEZ rfl (aNA ..))<|xp (aO1 h_3) ?_
  refine zz ?_
  obtain rfl:=sj hr
  exact gL Tryz.results65 aY (zG [])
 obtain⟨q_2,h_5,hr⟩:=aA hr
 obtain⟨cB,h_6,hr⟩:=aA hr
 obtain⟨q_3,h_7,hr⟩:=aA hr
 refine zz ?_
 refine xp (aOT h_6) ?_
 refine zz ?_
 obtain rfl:=sj hr
 exact gL Tryz.results65 aY (zG [])
theorem aI2 {N kZ r} (hr:vJ N kZ=some r):
  Vm.Fn Tryz.prog 37 [] [(eI .u32 kZ)] (.tup [(.agg (r.1.map (eI .u64))),(eI .i64 r.2)]) []:=by
 refine zf Tryz.func37 Tryz.ntmps37 ?_
 unfold vJ at hr
 obtain⟨bQ,h_1,hr⟩:=aA hr
 obtain⟨q,h_2,hr⟩:=aA hr
 refine zz ?_
 refine xp (aIR h_1) ?_
 obtain⟨cH,h_3,hr⟩:=aA hr
 refine zz ?_
 refine aY0 ?_
 refine aY1 fun K1 hK1 hG1=> ?_
 have J1: ∀x25,qV N bQ cH x25=some r→K1 (aD 35 [(2,(.ptr 0 0)),(4,(.ptr 1 0)),(5,(eI .i64 (aYW.wrap (8*(aYW.wrap ((aYW.wrap cH)-3)))))),(25,(eB x25))]) [some ⟨29,(aYX 4 0).map (eI .u64)⟩,some ⟨29,bQ.map (eI .u64)⟩]:=by
  intro x25 hr
  unfold qV at hr
  refine hK1 ?_
  refine zk hr ?_ ?_<;>intro h4 hr
  ·refine zz ?_
   refine xw (v:=(.agg ([0,0,0,0].map (eI .u64)))) (bV rfl (oT sN rD rfl)) ?_
   refine zz ?_
   obtain rfl:=sj hr
   exact kS Tryz.results37 aY aY (gF [])
  obtain⟨x29,h_5,hr⟩:=aA hr
  obtain⟨q_1,h_6,hr⟩:=aA hr
  refine zz ?_
  refine xp (aH8 h_5) ?_
  refine zz ?_
  refine aY0<|zz ?_
  refine xw (v:=(.agg ([0,0,0,0].map (eI .u64)))) (bV rfl (oT sN rD rfl)) ?_
  refine zz ?_
  refine zk hr ?_ ?_<;>intro h7 hr
  ·refine zz ?_
   refine xw (v:=(.agg ([0,0,0,0].map (eI .u64)))) (bV rfl (oT sN rD rfl)) ?_
   refine zz ?_
   obtain rfl:=sj hr
   exact kS Tryz.results37 aY aY (gF [])
  refine zz ?_
  obtain rfl:=sj hr
  exact kS Tryz.results37 aY aY (gF [])
 rcases aYV ((bits .and .u32 kZ 8388608) != 0)with h8|h8
 ·replace hr:=bY hr h8
  refine xr<|zz ?_
  exact hG1 (zG [0,1]) (J1 true hr)
 replace hr:=bX hr h8
 obtain⟨cW,h_9,hr⟩:=aA hr
 refine xr<|zz ?_
 refine xCg (v:=(eI .i64 cW)) (h':=[some ⟨29,(aYX 4 0).map (eI .u64)⟩,some ⟨29,bQ.map (eI .u64)⟩]) rfl rfl h8 rfl (Vm.Fn.pure (aOW h_9) zR rfl) ?_
 refine zz ?_
 exact hG1 (zG [0,1]) (J1 (decide (256<(aYW.wrap (cW+(aYW.wrap (8*(aYW.wrap ((aYW.wrap cH)-3)))))))) hr)
theorem aOO {N va b r} (hr:aAL N va b=some r):
  Vm.Fn Tryz.prog 38 [] [(.agg (va.map (eI .u64))),(.agg (b.map (eI .u64)))] (eI .i64 r) []:=by
 refine zf Tryz.func38 Tryz.ntmps38 ?_
 unfold aAL at hr
 refine zz ?_
 refine aY1 fun K1 hK1 hG1=> ?_
 have J1:aCR N=some r→K1 (aD 24 []) []:=by
  intro hr
  unfold aCR at hr
  refine hK1<|zz ?_
  obtain rfl:=sj hr
  exact aX Tryz.results38 []
 obtain⟨bB,hL2,hr⟩:=aA hr
 refine zz ?_
 refine aYY<|aY3 (fun m s h=> ∃vi,pM N va b m vi=some bB∧Ghost 0 s h (aD 24 [(2,(.ptr 0 0)),(3,(.ptr 1 0)),(5,(eI .i64 vi))]) [some ⟨29,va.map (eI .u64)⟩,some ⟨29,b.map (eI .u64)⟩]) ⟨3,hL2,(zG [0,1])⟩ ?_
 rintro m2 s h ⟨vi,hr2,hg⟩
 refine aY2 hg ?_
 clear hg hL2
 rw[pM]at hr2
 refine aY0<|zz ?_
 refine zk hr2 ?_ ?_<;>intro h1 hr2
 ·refine zz ?_
  refine aY0<|aYY<|aY0<|aY0 ?_
  obtain⟨b8,h_2,hr2⟩:=aA hr2
  obtain⟨bZ,h_3,hr2⟩:=aA hr2
  refine aY6 mixed [] [] [[0,1,2,3,4,5,6]]<|zz ?_
  refine zk hr2 ?_ ?_<;>intro h4 hr2
  ·refine zz ?_
   obtain rfl:=sj hr2
   obtain rfl:=sj hr
   exact aX Tryz.results38 []
  refine zz ?_
  refine aY0<|aY6 mixed [] [] [[0,1,2,3,4,5,6]]<|zz ?_
  refine zk hr2 ?_ ?_<;>intro h5 hr2
  ·refine zz ?_
   obtain rfl:=sj hr2
   obtain rfl:=sj hr
   exact aX Tryz.results38 []
  refine zz ?_
  exact⟨aYW.wrap (vi-1),hr2,(zG [0,1])⟩
 refine zz ?_
 obtain rfl:=sj hr2
 refine zz ?_
 exact hG1 (zG []) (J1 hr)
theorem s7 {N p r} (hr:mK N p=some r):
  Vm.Fn Tryz.prog 22 [] [(cY p)] (eB r) []:=by
 refine zf Tryz.func22 Tryz.ntmps22 ?_
 unfold mK at hr
 refine zz ?_
 refine aY0 ?_
 refine aY1 fun K1 hK1 hG1=> ?_
 have J1: ∀cW,lV N p cW=some r→K1 (aD 93 [(1,(.ptr 0 0)),(21,(eB cW))]) [some ⟨32,aT p⟩]:=by
  intro cW hr
  unfold lV at hr
  refine hK1 ?_
  refine zk hr ?_ ?_<;>intro h1 hr
  ·refine zz ?_
   obtain rfl:=sj hr
   exact aX Tryz.results22 []
  refine zz ?_
  refine aY0 ?_
  refine aY1 fun K2 hK2 hG2=> ?_
  have J2: ∀x39,jC N p x39=some r→K2 (aD 93 [(1,(.ptr 0 0)),(39,(eB x39))]) [some ⟨32,aT p⟩]:=by
   intro x39 hr
   unfold jC at hr
   refine hK2 ?_
   refine zk hr ?_ ?_<;>intro h2 hr
   ·refine zz ?_
    obtain rfl:=sj hr
    exact aX Tryz.results22 []
   refine zz ?_
   refine aY0 ?_
   refine aY1 fun K3 hK3 hG3=> ?_
   have J3: ∀x57,fT N p x57=some r→K3 (aD 93 [(1,(.ptr 0 0)),(57,(eB x57))]) [some ⟨32,aT p⟩]:=by
    intro x57 hr
    unfold fT at hr
    refine hK3 ?_
    refine zk hr ?_ ?_<;>intro h3 hr
    ·refine zz ?_
     obtain rfl:=sj hr
     exact aX Tryz.results22 []
    refine zz ?_
    refine aY1 fun K4 hK4 hG4=> ?_
    have J4:tB N p=some r→K4 (aD 93 [(1,(.ptr 0 0))]) [some ⟨32,aT p⟩]:=by
     intro hr
     unfold tB at hr
     refine hK4 ?_
     obtain⟨x81,h_4,hr⟩:=aA hr
     obtain⟨q,h_5,hr⟩:=aA hr
     refine zz ?_
     refine xp (aI2 h_4) ?_
     refine zz ?_
     refine aY1 fun K5 hK5 hG5=> ?_
     have J5: ∀x2,o9 N x2=some r→K5 (aD 93 [(2,(eB x2))]) []:=by
      intro x2 hr
      unfold o9 at hr
      refine hK5<|zz ?_
      obtain rfl:=sj hr
      exact aX Tryz.results22 []
     rcases aYV (x81.2 == 0)with h6|h6
     ·replace hr:=bY hr h6
      obtain⟨q_1,h_7,hr⟩:=aA hr
      obtain⟨x90,h_8,hr⟩:=aA hr
      refine xr<|zz ?_
      refine xCg (v:=(eI .i64 x90)) (h':=[some ⟨32,aT p⟩,some ⟨29,x81.1.map (eI .u64)⟩]) rfl rfl h6 rfl (Vm.Fn.pure (aOO h_8) zR rfl) ?_
      refine zz ?_
      exact hG5 (zG []) (J5 (decide (x90≤0)) hr)
     replace hr:=bX hr h6
     refine xr<|zz ?_
     exact hG5 (zG []) (J5 false hr)
    obtain⟨res6,hL6,hr⟩:=aA hr
    refine zz ?_
    refine aYY<|aY3 (fun m s h=> ∃before x61,g8 N p m before x61=some res6∧Ghost 0 s h (aD 93 [(1,(.ptr 0 0)),(3,(eI .i64 before)),(59,(.row none 33 (p.Checkpoints.map cR))),(60,(eI .i64 (p.Checkpoints.length:Int))),(61,(eI .i64 x61))]) [some ⟨32,aT p⟩]) ⟨0,0,hL6,(zG [0])⟩ ?_
    rintro m6 s h ⟨before,x61,hr6,hg⟩
    refine aY2 hg ?_
    clear hg hL6
    rw[g8]at hr6
    refine zz ?_
    refine aY0 ?_
    refine zk hr6 ?_ ?_<;>intro h9 hr6
    ·refine zz ?_
     refine aY0<|aYY ?_
     obtain⟨x63,h_10,hr6⟩:=aA hr6
     refine zz ?_
     refine aY0 ?_
     refine aY1 fun K7 hK7 hG7=> ?_
     have J7: ∀x73,pA N p x61 x63 (g8 N p m6) x73=some res6→K7 (aD 93 [(1,(.ptr 0 0)),(5,(.ptr 1 0)),(59,(.row none 33 (p.Checkpoints.map cR))),(60,(eI .i64 (p.Checkpoints.length:Int))),(61,(eI .i64 x61)),(73,(eB x73))]) [some ⟨32,aT p⟩,some ⟨86,gT x63⟩]:=by
      intro x73 hr6
      unfold pA at hr6
      refine hK7 ?_
      refine zk hr6 ?_ ?_<;>intro h11 hr6
      ·refine zz ?_
       obtain rfl:=sj hr6
       obtain rfl:=sj hr
       exact aX Tryz.results22 []
      refine zz ?_
      exact⟨x63.Height,aYW.wrap (x61+1),hr6,(zG [0])⟩
     rcases aYV (decide (x63.Height≤before))with h12|h12
     ·replace hr6:=bY hr6 h12
      refine xr<|zz ?_
      exact hG7 (zG [0,1]) (J7 true hr6)
     replace hr6:=bX hr6 h12
     refine xr<|zz ?_
     exact hG7 (zG [0,1]) (J7 (decide (16777216<x63.Height)) hr6)
    refine zz ?_
    obtain rfl:=sj hr6
    refine zz ?_
    exact hG4 (zG [0]) (J4 hr)
   rcases aYV (decide (p.Halving<1))with h13|h13
   ·replace hr:=bY hr h13
    refine xr<|zz ?_
    refine xX rfl<|xX rfl<|xX rfl ?_
    refine zz ?_
    refine xX rfl<|xX rfl<|xX rfl ?_
    refine zz ?_
    exact hG3 (zG [0]) (J3 true hr)
   replace hr:=bX hr h13
   rcases aYV (decide (16777216<p.Halving))with h14|h14
   ·replace hr:=bY hr h14
    refine xr<|zz ?_
    refine xX rfl<|xX rfl<|xX rfl ?_
    refine zz ?_
    exact hG3 (zG [0]) (J3 true hr)
   replace hr:=bX hr h14
   rcases aYV (decide (p.Maturity<0))with h15|h15
   ·replace hr:=bY hr h15
    refine xr<|zz ?_
    exact hG3 (zG [0]) (J3 true hr)
   replace hr:=bX hr h15
   refine xr<|zz ?_
   exact hG3 (zG [0]) (J3 (decide (16777216<p.Maturity)) hr)
  rcases aYV (decide (p.Spacing<1))with h16|h16
  ·replace hr:=bY hr h16
   refine xr<|zz ?_
   refine xX rfl<|xX rfl<|xX rfl ?_
   refine zz ?_
   refine xX rfl<|xX rfl<|xX rfl ?_
   refine zz ?_
   exact hG2 (zG [0]) (J2 true hr)
  replace hr:=bX hr h16
  rcases aYV (decide (1048576<p.Spacing))with h17|h17
  ·replace hr:=bY hr h17
   refine xr<|zz ?_
   refine xX rfl<|xX rfl<|xX rfl ?_
   refine zz ?_
   exact hG2 (zG [0]) (J2 true hr)
  replace hr:=bX hr h17
  rcases aYV (decide (p.Subsidy<0))with h18|h18
  ·replace hr:=bY hr h18
   refine xr<|zz ?_
   exact hG2 (zG [0]) (J2 true hr)
  replace hr:=bX hr h18
  refine xr<|zz ?_
  exact hG2 (zG [0]) (J2 (decide (2100000000000000<p.Subsidy)) hr)
 obtain⟨q_2,h_19,hr⟩:=aA hr
 rcases aYV (p.Limit == [0,0,0,0])with h20|h20
 ·replace hr:=bY hr h20
  refine xr<|zz ?_
  refine xw (v:=(.agg ([0,0,0,0].map (eI .u64)))) (bV rfl (oT sN rD rfl)) ?_
  refine zz ?_
  refine xX rfl<|xX rfl<|xX rfl ?_
  refine zz ?_
  exact hG1 (zG [0]) (J1 true hr)
 replace hr:=bX hr h20
 rcases aYV (decide (p.Window<1))with h21|h21
 ·replace hr:=bY hr h21
  refine xr<|zz ?_
  refine xw (v:=(.agg ([0,0,0,0].map (eI .u64)))) (bV rfl (oT sN rD rfl)) ?_
  refine zz ?_
  exact hG1 (zG [0]) (J1 true hr)
 replace hr:=bX hr h21
 refine xr<|zz ?_
 refine xw (v:=(.agg ([0,0,0,0].map (eI .u64)))) (bV rfl (oT sN rD rfl)) ?_
 refine zz ?_
 exact hG1 (zG [0]) (J1 (decide (4096<p.Window)) hr)
theorem aJI {N vn eN r} (hr:xR N vn eN=some r):
  Vm.Fn Tryz.prog 108 [] [(eI .u64 vn),(eI .i64 eN)] (.sl 0 0 r.length 1 false) [some ⟨5,r.map (eI .u8)⟩]:=by
 refine zf Tryz.func108 Tryz.ntmps108 ?_
 unfold xR at hr
 obtain⟨x8,h_1,hr⟩:=aA hr
 refine zz ?_
 refine xw (v:=(.sl 0 0 x8.length 1 false)) (h':=[some ⟨5,x8.map (eI .u8)⟩]) (aKY rfl rfl (mkS (E:=(eI .u8)) (y:=0) z4 sP ⟨zl,rfl,rfl⟩ rfl rfl rfl h_1 rfl rfl)) ?_
 refine zz ?_
 refine aY1 fun K1 hK1 hG1=> ?_
 have J1: ∀l0,wG N l0=some r→K1 (aD 23 [(5,(.sl 0 0 l0.length 1 false))]) [some ⟨5,l0.map (eI .u8)⟩]:=by
  intro l0 hr
  unfold wG at hr
  refine hK1<|zz ?_
  obtain rfl:=sj hr
  exact aX Tryz.results108 [0]
 obtain⟨bB,hL2,hr⟩:=aA hr
 refine zz ?_
 refine aYY<|aY3 (fun m s h=> ∃bQ aM,lA N vn eN m bQ aM=some bB∧Ghost 0 s h (aD 23 [(0,(eI .u64 vn)),(5,(.sl 0 0 aM.length 1 false)),(9,(eI .i64 eN)),(10,(eI .i64 bQ))]) [some ⟨5,aM.map (eI .u8)⟩]) ⟨0,x8,hL2,(zG [0])⟩ ?_
 rintro m2 s h ⟨bQ,aM,hr2,hg⟩
 refine aY2 hg ?_
 clear hg hL2
 rw[lA]at hr2
 refine zz ?_
 refine aY0 ?_
 refine zk hr2 ?_ ?_<;>intro h2 hr2
 ·refine zz ?_
  refine aY0<|aYY ?_
  obtain⟨x18,h_3,hr2⟩:=aA hr2
  obtain⟨b6,h_4,hr2⟩:=aA hr2
  refine zz ?_
  exact⟨aYW.wrap (bQ+1),aM.set (aY5 bQ) (aZa.wrap x18),hr2,(gF [0])⟩
 refine zz ?_
 obtain rfl:=sj hr2
 refine zz ?_
 exact hG1 (zG [0]) (J1 aM hr)
theorem aEv {N b vs r} (hr:tM N b vs=some r):
  Vm.Fn Tryz.prog 107 [] [(.row none 1 (b.map (eI .u8))),(.row none 1 (vs.map (eI .u8)))] (.sl 0 0 r.length 1 false) [some ⟨5,r.map (eI .u8)⟩]:=by
 refine zf Tryz.func107 Tryz.ntmps107 ?_
 unfold tM at hr
 obtain⟨b8,h_1,hr⟩:=aA hr
 refine zz ?_
 refine xw (v:=(.sl 0 0 0 1 false)) (h':=[some ⟨5,b8.map (eI .u8)⟩]) (aKY rfl rfl (mkC (E:=(eI .u8)) (y:=0) z4 sP ⟨zl,rfl,rfl⟩ rfl rfl rfl h_1 rfl rfl)) ?_
 obtain⟨bZ,h_2,hr⟩:=aA hr
 refine zz ?_
 refine xw (v:=(.sl 1 0 bZ.length 1 false)) (h':=[none,some ⟨5,bZ.map (eI .u8)⟩]) (uX rfl rfl (aV7 (E:=(eI .u8)) (Nat.zero_le _) z4 sP ⟨rfl,rfl,zl⟩ rfl (aK3 (fun _=>rfl)) h_2 rfl rfl)) ?_
 obtain⟨x17,h_3,hr⟩:=aA hr
 refine zz ?_
 obtain rfl:=sj hr
 exact aX Tryz.results107 [2]
theorem rY {N b vn r} (hr:jG N b vn=some r):
  Vm.Fn Tryz.prog 67 [] [(.row none 1 (b.map (eI .u8))),(eI .u32 vn)] (.sl 0 0 r.length 1 false) [some ⟨5,r.map (eI .u8)⟩]:=by
 refine zf Tryz.func67 Tryz.ntmps67 ?_
 unfold jG at hr
 obtain⟨x8,h_1,hr⟩:=aA hr
 obtain⟨x9,h_2,hr⟩:=aA hr
 refine zz ?_
 refine zc (aJI h_1) [] ?_
 refine gV (aEv h_2) [] [0] ?_
 refine zz ?_
 obtain rfl:=sj hr
 exact aX Tryz.results67 [1]
theorem aCd {N b vh r} (hr:nC N b vh=some r):
  Vm.Fn Tryz.prog 68 [] [(.row none 1 (b.map (eI .u8))),(.agg (vh.map (eI .u8)))] (.sl 0 0 r.length 1 false) [some ⟨5,r.map (eI .u8)⟩]:=by
 refine zf Tryz.func68 Tryz.ntmps68 ?_
 unfold nC at hr
 obtain⟨q,h_1,hr⟩:=aA hr
 obtain⟨x7,h_2,hr⟩:=aA hr
 refine zz ?_
 refine gV (aEv h_2) [] [0] ?_
 refine zz ?_
 obtain rfl:=sj hr
 exact aX Tryz.results68 [1]
theorem aFi {N vh r} (hr:nQ N vh=some r):
  Vm.Fn Tryz.prog 40 [] [(qM vh)] (.sl 0 0 r.length 1 false) [some ⟨5,r.map (eI .u8)⟩]:=by
 refine zf Tryz.func40 Tryz.ntmps40 ?_
 unfold nQ at hr
 obtain⟨x6,h_1,hr⟩:=aA hr
 refine zz ?_
 refine zc (rY h_1) [] ?_
 obtain⟨q,h_2,hr⟩:=aA hr
 obtain⟨bQ,h_3,hr⟩:=aA hr
 refine zz ?_
 refine gV (aCd h_3) [] [1] ?_
 obtain⟨q_1,h_4,hr⟩:=aA hr
 obtain⟨bZ,h_5,hr⟩:=aA hr
 refine zz ?_
 refine gV (aCd h_5) [] [2] ?_
 obtain⟨x18,h_6,hr⟩:=aA hr
 refine zz ?_
 refine gV (rY h_6) [] [3] ?_
 obtain⟨bW,h_7,hr⟩:=aA hr
 refine zz ?_
 refine gV (rY h_7) [] [4] ?_
 obtain⟨x26,h_8,hr⟩:=aA hr
 refine zz ?_
 refine gV (rY h_8) [] [5] ?_
 refine zz ?_
 obtain rfl:=sj hr
 exact aX Tryz.results40 [6]
theorem aQu {N vn r} (hr:aFd N vn=some r):
  Vm.Fn Tryz.prog 105 [] [(eI .u64 vn)] (.sl 0 0 r.length 1 false) [some ⟨5,r.map (eI .u8)⟩]:=by
 refine zf Tryz.func105 Tryz.ntmps105 ?_
 unfold aFd at hr
 obtain⟨x15,h_1,hr⟩:=aA hr
 refine zz ?_
 refine xw (v:=(.sl 0 0 x15.length 1 false)) (h':=[some ⟨5,x15.map (eI .u8)⟩]) (aKY rfl rfl (mkL (E:=(eI .u8)) (y:=0) z4 sP ⟨zl,rfl,rfl⟩ rfl rfl rfl h_1 rfl rfl)) ?_
 obtain⟨x17,h_2,hr⟩:=aA hr
 refine zz ?_
 refine aY1 fun K1 hK1 hG1=> ?_
 have J1: ∀l0,aGk N l0=some r→K1 (aD 33 [(4,(.sl 0 0 l0.length 1 false))]) [some ⟨5,l0.map (eI .u8)⟩]:=by
  intro l0 hr
  unfold aGk at hr
  refine hK1<|zz ?_
  obtain rfl:=sj hr
  exact aX Tryz.results105 [0]
 obtain⟨bB,hL2,hr⟩:=aA hr
 refine zz ?_
 refine aYY<|aY3 (fun m s h=> ∃x18 aM,uS N vn m x18 aM=some bB∧Ghost 0 s h (aD 33 [(0,(eI .u64 vn)),(4,(.sl 0 0 aM.length 1 false)),(18,(eI .i64 x18))]) [some ⟨5,aM.map (eI .u8)⟩]) ⟨0,x15.set (aY5 0) 128,hL2,(gF [0])⟩ ?_
 rintro m2 s h ⟨x18,aM,hr2,hg⟩
 refine aY2 hg ?_
 clear hg hL2
 rw[uS]at hr2
 refine zz ?_
 refine aY0 ?_
 refine zk hr2 ?_ ?_<;>intro h3 hr2
 ·refine zz ?_
  refine aY0<|aYY ?_
  obtain⟨x27,h_4,hr2⟩:=aA hr2
  obtain⟨fA,h_5,hr2⟩:=aA hr2
  refine zz ?_
  exact⟨aYW.wrap (x18+1),fA,hr2,(zG [2])⟩
 refine zz ?_
 obtain rfl:=sj hr2
 refine zz ?_
 exact hG1 (zG [0]) (J1 aM hr)
theorem aQG {N parts r} (hr:aFf N parts=some r):
  Vm.Fn Tryz.prog 104 [] [(.row none 1 (parts.map (eL 1 (eI .u8))))] (.sl 0 0 r.length 1 false) [some ⟨5,r.map (eI .u8)⟩]:=by
 refine zf Tryz.func104 Tryz.ntmps104 ?_
 unfold aFf at hr
 refine zz ?_
 refine aY1 fun K1 hK1 hG1=> ?_
 have J1: ∀l0,aFH N l0=some r→K1 (aD 17 [(3,(.sl 0 0 l0.length 1 false))]) [some ⟨5,l0.map (eI .u8)⟩]:=by
  intro l0 hr
  unfold aFH at hr
  refine hK1<|zz ?_
  obtain rfl:=sj hr
  exact aX Tryz.results104 [0]
 obtain⟨bB,hL2,hr⟩:=aA hr
 refine zz ?_
 refine aYY<|aY3 (fun m s h=> ∃x8 aM,uU N parts m x8 aM=some bB∧Ghost 0 s h (aD 17 [(3,(.sl 0 0 aM.length 1 false)),(6,(.row none 1 (parts.map (eL 1 (eI .u8))))),(7,(eI .i64 (parts.length:Int))),(8,(eI .i64 x8))]) [some ⟨5,aM.map (eI .u8)⟩]) ⟨0,[],hL2,(zW 5 [0])⟩ ?_
 rintro m2 s h ⟨x8,aM,hr2,hg⟩
 refine aY2 hg ?_
 clear hg hL2
 rw[uU]at hr2
 refine zz ?_
 refine aY0 ?_
 refine zk hr2 ?_ ?_<;>intro h1 hr2
 ·refine zz ?_
  refine aY0<|aYY ?_
  obtain⟨bQ,h_2,hr2⟩:=aA hr2
  obtain⟨bZ,h_3,hr2⟩:=aA hr2
  refine zz ?_
  exact⟨aYW.wrap (x8+1),bZ,hr2,(zG [1])⟩
 refine zz ?_
 obtain rfl:=sj hr2
 refine zz ?_
 exact hG1 (zG [0]) (J1 aM hr)
theorem wY {N x k r} (hr:jX N x k=some r):
  Vm.Fn Tryz.prog 176 [] [(eI .u32 x),(eI .i64 k)] (eI .u32 r) []:=by
 refine zf Tryz.func176 Tryz.ntmps176 ?_
 unfold jX at hr
 obtain⟨b8,h_1,hr⟩:=aA hr
 obtain⟨x15,h_2,hr⟩:=aA hr
 refine zz ?_
 obtain rfl:=sj hr
 exact aX Tryz.results176 []
theorem k7 {N x vn r} (hr:dU N x vn=some r):
  Vm.Fn Tryz.prog 142 [] [(eI .u32 x),(eI .i64 vn)] (eI .u32 r) []:=by
 refine zf Tryz.func142 Tryz.ntmps142 ?_
 unfold dU at hr
 obtain⟨x8,h_1,hr⟩:=aA hr
 refine zz ?_
 refine xw (aEZ rfl (aNA ..))<|xp (wY h_1) ?_
 refine zz ?_
 obtain rfl:=sj hr
 exact aX Tryz.results142 []
theorem aJ8 {N block r} (hr:qQ N block=some r):
  Vm.Fn Tryz.prog 141 [] [(.agg (block.map (eI .u8)))] (.agg (r.map (eI .u32))) []:=by
 refine zf Tryz.func141 Tryz.ntmps141 ?_
 unfold qQ at hr
 refine zz ?_
 refine aY1 fun K1 hK1 hG1=> ?_
 have J1: ∀l1,rW N l1=some r→K1 (aD 85 [(2,(.ptr 0 0)),(3,(.ptr 1 0))]) [some ⟨188,(aYX 64 0).map (eI .u32)⟩,some ⟨188,l1.map (eI .u32)⟩]:=by
  intro l1 hr
  unfold rW at hr
  refine hK1 ?_
  refine aY1 fun K2 hK2 hG2=> ?_
  have J2: ∀b5,rM N b5=some r→K2 (aD 85 [(2,(.ptr 0 0)),(3,(.ptr 1 0))]) [some ⟨188,(aYX 64 0).map (eI .u32)⟩,some ⟨188,b5.map (eI .u32)⟩]:=by
   intro b5 hr
   unfold rM at hr
   refine hK2 ?_
   obtain⟨q,h_1,hr⟩:=aA hr
   refine zz ?_
   obtain rfl:=sj hr
   exact gL Tryz.results141 aY (zG [])
  obtain⟨jT,hL3,hr⟩:=aA hr
  refine zz ?_
  refine aYY<|aY3 (fun m s h=> ∃vi cN,jJ N m vi cN=some jT∧Ghost 0 s h (aD 85 [(2,(.ptr 0 0)),(3,(.ptr 1 0)),(6,(eI .i64 vi))]) [some ⟨188,(aYX 64 0).map (eI .u32)⟩,some ⟨188,cN.map (eI .u32)⟩]) ⟨16,l1,hL3,(zG [0,1])⟩ ?_
  rintro m3 s h ⟨vi,cN,hr3,hg⟩
  refine aY2 hg ?_
  clear hg hL3
  rw[jJ]at hr3
  refine aY0<|zz ?_
  refine zk hr3 ?_ ?_<;>intro h2 hr3
  ·refine zz ?_
   refine aY0<|aYY<|aY0 ?_
   obtain⟨x37,h_3,hr3⟩:=aA hr3
   obtain⟨x39,h_4,hr3⟩:=aA hr3
   obtain⟨x44,h_6,hr3⟩:=aA hr3
   obtain⟨x50,h_8,hr3⟩:=aA hr3
   refine aY6 mixed [142] [] [[0,1,2,3,4,5,6,7,8,9,10,11,12,13,14,15,16,17]]<|zz ?_
   refine xu (k7 h_4) ?_
   refine zz ?_
   refine xu (k7 h_6) ?_
   refine zz ?_
   refine aY0 ?_
   obtain⟨x54,h_9,hr3⟩:=aA hr3
   obtain⟨x56,h_10,hr3⟩:=aA hr3
   obtain⟨x61,h_12,hr3⟩:=aA hr3
   obtain⟨x67,h_14,hr3⟩:=aA hr3
   refine aY6 mixed [142] [] [[0,1,2,3,4,5,6,7,8,9,10,11,12,13,14,15,16,17]]<|zz ?_
   refine xu (k7 h_10) ?_
   refine zz ?_
   refine xu (k7 h_12) ?_
   obtain⟨x72,h_15,hr3⟩:=aA hr3
   obtain⟨x78,h_16,hr3⟩:=aA hr3
   obtain⟨x83,h_17,hr3⟩:=aA hr3
   refine zz ?_
   refine aY6 mixed [] [] [[0,1,2,3,4,5,6,7,8,9,10,11,12,13,14,15]]<|zz ?_
   exact⟨aYW.wrap (vi+1),cN.set (aY5 vi) (aYZ.wrap ((aYZ.wrap ((aYZ.wrap (x72+(bits .xor .u32 (bits .xor .u32 x39 x44) x50)))+x78))+(bits .xor .u32 (bits .xor .u32 x56 x61) x67))),hr3,(zG [0,1])⟩
  refine zz ?_
  obtain rfl:=sj hr3
  refine zz ?_
  exact hG2 (zG [0,1]) (J2 cN hr)
 obtain⟨res4,hL4,hr⟩:=aA hr
 refine zz ?_
 refine aYY<|aY3 (fun m s h=> ∃x9 l2,iB N block m x9 l2=some res4∧Ghost 0 s h (aD 85 [(1,(.ptr 0 0)),(2,(.ptr 1 0)),(3,(.ptr 2 0)),(9,(eI .i64 x9))]) [some ⟨162,block.map (eI .u8)⟩,some ⟨188,(aYX 64 0).map (eI .u32)⟩,some ⟨188,l2.map (eI .u32)⟩]) ⟨0,aYX 64 0,hL4,(zG [0,1,2])⟩ ?_
 rintro m4 s h ⟨x9,l2,hr4,hg⟩
 refine aY2 hg ?_
 clear hg hL4
 rw[iB]at hr4
 refine zz ?_
 refine aY0 ?_
 refine zk hr4 ?_ ?_<;>intro h18 hr4
 ·refine zz ?_
  refine aY1 fun K5 hK5 hG5=> ?_
  have J5: ∀dJ,wL N block x9 (iB N block m4) dJ=some res4→K5 (aD 85 [(1,(.ptr 0 0)),(2,(.ptr 1 0)),(3,(.ptr 2 0)),(9,(eI .i64 x9))]) [some ⟨162,block.map (eI .u8)⟩,some ⟨188,(aYX 64 0).map (eI .u32)⟩,some ⟨188,dJ.map (eI .u32)⟩]:=by
   intro dJ hr4
   unfold wL at hr4
   refine hK5<|zz ?_
   exact⟨aYW.wrap (x9+1),dJ,hr4,(zG [0,1,2])⟩
  refine aYY ?_
  obtain⟨res6,hL6,hr4⟩:=aA hr4
  refine zz ?_
  refine aYY<|aY3 (fun m s h=> ∃cH yC,eX N block x9 m cH yC=some res6∧Ghost 0 s h (aD 85 [(1,(.ptr 0 0)),(2,(.ptr 1 0)),(3,(.ptr 2 0)),(4,(eI .i64 x9)),(9,(eI .i64 x9)),(12,(eI .i64 cH))]) [some ⟨162,block.map (eI .u8)⟩,some ⟨188,(aYX 64 0).map (eI .u32)⟩,some ⟨188,yC.map (eI .u32)⟩]) ⟨0,l2,hL6,(zG [0,1,2])⟩ ?_
  rintro m6 s h ⟨cH,yC,hr6,hg⟩
  refine aY2 hg ?_
  clear hg hL6
  rw[eX]at hr6
  refine zz ?_
  refine aY0 ?_
  refine zk hr6 ?_ ?_<;>intro h19 hr6
  ·refine zz ?_
   refine aY0<|aYY ?_
   obtain⟨x17,h_20,hr6⟩:=aA hr6
   obtain⟨x19,h_21,hr6⟩:=aA hr6
   obtain⟨dL,h_22,hr6⟩:=aA hr6
   refine zz ?_
   refine aY6 mixed [] [] [[0,1,2,3,4,5,6,7,8,9,10,11,12,13,14]]<|zz ?_
   exact⟨aYW.wrap (cH+1),yC.set (aY5 x9) (bits .or .u32 x19 (aYZ.wrap dL)),hr6,(zG [0,1,2])⟩
  refine zz ?_
  obtain rfl:=sj hr6
  refine zz ?_
  exact hG5 (zG [0,1,2]) (J5 yC hr4)
 refine zz ?_
 obtain rfl:=sj hr4
 refine zz ?_
 exact hG1 (zG [1,2]) (J1 l2 hr)
theorem aJU {N cP block r} (hr:lG N cP block=some r):
  Vm.Fn Tryz.prog 106 [] [(.agg (cP.map (eI .u32))),(.agg (block.map (eI .u8)))] (.agg (r.map (eI .u32))) []:=by
 refine zf Tryz.func106 Tryz.ntmps106 ?_
 unfold lG at hr
 obtain⟨q,h_1,hr⟩:=aA hr
 obtain⟨x18,h_2,hr⟩:=aA hr
 obtain⟨q_1,h_3,hr⟩:=aA hr
 refine zz ?_
 refine xp (aJ8 h_2) ?_
 refine zz ?_
 refine aY0 ?_
 obtain⟨x19,h_4,hr⟩:=aA hr
 obtain⟨cW,h_5,hr⟩:=aA hr
 obtain⟨eQ,h_6,hr⟩:=aA hr
 obtain⟨x25,h_7,hr⟩:=aA hr
 refine aY6 mixed [] [] [[0,1,2,3,4,5,6,7,8,9,10,11]]<|zz ?_
 refine aY0 ?_
 obtain⟨x27,h_8,hr⟩:=aA hr
 obtain⟨x29,h_9,hr⟩:=aA hr
 obtain⟨cO,h_10,hr⟩:=aA hr
 obtain⟨nY,h_11,hr⟩:=aA hr
 refine aY6 mixed [] [] [[0,1,2,3,4,5,6,7,8,9,10,11]]<|zz ?_
 refine aY1 fun K1 hK1 hG1=> ?_
 have J1: ∀va b c d ve f g vh,rO N cP va b c d ve f g vh=some r→K1 (aD 131 [(2,(.ptr 0 0)),(4,(.ptr 1 0)),(6,(eI .u32 va)),(7,(eI .u32 b)),(8,(eI .u32 c)),(9,(eI .u32 d)),(10,(eI .u32 ve)),(11,(eI .u32 f)),(12,(eI .u32 g)),(13,(eI .u32 vh))]) [some ⟨160,cP.map (eI .u32)⟩,some ⟨160,(aYX 8 0).map (eI .u32)⟩]:=by
  intro va b c d ve f g vh hr
  unfold rO at hr
  refine hK1 ?_
  obtain⟨x98,h_12,hr⟩:=aA hr
  obtain⟨aF0,h_13,hr⟩:=aA hr
  obtain⟨aTg,h_14,hr⟩:=aA hr
  obtain⟨aSK,h_15,hr⟩:=aA hr
  obtain⟨aIu,h_16,hr⟩:=aA hr
  obtain⟨aDn,h_17,hr⟩:=aA hr
  obtain⟨aSs,h_18,hr⟩:=aA hr
  obtain⟨aIG,h_19,hr⟩:=aA hr
  refine zz ?_
  refine xw (v:=(.agg ([aYZ.wrap (x98+va),aYZ.wrap (aF0+b),aYZ.wrap (aTg+c),aYZ.wrap (aSK+d),aYZ.wrap (aIu+ve),aYZ.wrap (aDn+f),aYZ.wrap (aSs+g),aYZ.wrap (aIG+vh)].map (eI .u32)))) (bV rfl (oT aFR lH rfl)) ?_
  refine zz ?_
  obtain rfl:=sj hr
  exact gL Tryz.results106 aY (zG [])
 obtain⟨bB,hL2,hr⟩:=aA hr
 refine zz ?_
 refine aYY<|aY3 (fun m s h=> ∃va_1 b_1 c_1 d_1 ve_1 f_1 g_1 vh_1 x35,jL N cP x18 m va_1 b_1 c_1 d_1 ve_1 f_1 g_1 vh_1 x35=some bB∧Ghost 0 s h (aD 131 [(2,(.ptr 0 0)),(4,(.ptr 1 0)),(5,(.ptr 2 0)),(6,(eI .u32 va_1)),(7,(eI .u32 b_1)),(8,(eI .u32 c_1)),(9,(eI .u32 d_1)),(10,(eI .u32 ve_1)),(11,(eI .u32 f_1)),(12,(eI .u32 g_1)),(13,(eI .u32 vh_1)),(35,(eI .i64 x35))]) [some ⟨160,cP.map (eI .u32)⟩,some ⟨160,(aYX 8 0).map (eI .u32)⟩,some ⟨188,x18.map (eI .u32)⟩]) ⟨x19,cW,eQ,x25,x27,x29,cO,nY,0,hL2,(zG [0,2,3])⟩ ?_
 rintro m2 s h ⟨va_1,b_1,c_1,d_1,ve_1,f_1,g_1,vh_1,x35,hr2,hg⟩
 refine aY2 hg ?_
 clear hg hL2
 rw[jL]at hr2
 refine zz ?_
 refine aY0 ?_
 refine zk hr2 ?_ ?_<;>intro h20 hr2
 ·refine zz ?_
  refine aY0<|aYY ?_
  refine zz ?_
  refine aY0 ?_
  obtain⟨x40,h_21,hr2⟩:=aA hr2
  obtain⟨x42,h_23,hr2⟩:=aA hr2
  obtain⟨x45,h_25,hr2⟩:=aA hr2
  obtain⟨x58,h_27,hr2⟩:=aA hr2
  obtain⟨x62,h_28,hr2⟩:=aA hr2
  refine aY6 mixed [142] [] [[0,1,2,3,4,5,6,7,8,9,10,11,12,13,14,15,16,17,18,19,20,21,22,23,24,25,26,27]]<|zz ?_
  refine xu (k7 h_21) ?_
  refine zz ?_
  refine xu (k7 h_23) ?_
  refine zz ?_
  refine xu (k7 h_25) ?_
  refine zz ?_
  refine xw (v:=(eI .u32 (bits .xor .u32 (aY7 .u32) ve_1))) (aEZ rfl (aDQ rfl _)) ?_
  refine zz ?_
  refine xw (v:=(.eptr [(.agg (aEV.map (eI .u32)))] 0 (aY5 x35))) (aGc rfl rfl (iaG aMH lH rfl h_27))<|xw (v:=(eI .u32 x58)) (aS rfl (ldG (E:=(eI .u32)) (y:=x58) lH rfl (n5 h_27))) ?_
  obtain⟨x66,h_29,hr2⟩:=aA hr2
  obtain⟨x68,h_30,hr2⟩:=aA hr2
  obtain⟨x71,h_31,hr2⟩:=aA hr2
  refine zz ?_
  refine xp (k7 h_29) ?_
  refine zz ?_
  refine xp (k7 h_30) ?_
  refine zz ?_
  refine xp (k7 h_31) ?_
  refine zz ?_
  exact⟨aYZ.wrap ((aYZ.wrap ((aYZ.wrap ((aYZ.wrap ((aYZ.wrap (vh_1+(bits .xor .u32 (bits .xor .u32 x40 x42) x45)))+(bits .xor .u32 (bits .and .u32 ve_1 f_1) (bits .and .u32 (bits .xor .u32 (aY7 .u32) ve_1) g_1))))+x58))+x62))+(aYZ.wrap ((bits .xor .u32 (bits .xor .u32 x66 x68) x71)+(bits .xor .u32 (bits .xor .u32 (bits .and .u32 va_1 b_1) (bits .and .u32 va_1 c_1)) (bits .and .u32 b_1 c_1))))),va_1,b_1,c_1,aYZ.wrap (d_1+(aYZ.wrap ((aYZ.wrap ((aYZ.wrap ((aYZ.wrap (vh_1+(bits .xor .u32 (bits .xor .u32 x40 x42) x45)))+(bits .xor .u32 (bits .and .u32 ve_1 f_1) (bits .and .u32 (bits .xor .u32 (aY7 .u32) ve_1) g_1))))+x58))+x62))),ve_1,f_1,g_1,aYW.wrap (x35+1),hr2,(zG [0,1,2])⟩
 refine zz ?_
 obtain rfl:=sj hr2
 refine zz ?_
 exact hG1 (zG [0,1]) (J1 va_1 b_1 c_1 d_1 ve_1 f_1 g_1 vh_1 hr)
theorem aKh {N b r} (hr:aDR N b=some r):
  Vm.Fn Tryz.prog 66 [] [(.row none 1 (b.map (eI .u8)))] (.agg (r.map (eI .u8))) []:=by
 refine zf Tryz.func66 Tryz.ntmps66 ?_
 unfold aDR at hr
 obtain⟨cH,h_1,hr⟩:=aA hr
 obtain⟨bZ,h_2,hr⟩:=aA hr
 refine zz ?_
 refine zc (aQu h_1) [] ?_
 refine aZc (zv 1) ?_
 refine zz ?_
 refine gV (aQG h_2) [] [2] ?_
 refine zz ?_
 refine xw (v:=(.agg (zX.map (eI .u32)))) (aS rfl (aWY (E:=(eI .u32)) (l:=zX) aFR rfl rfl)) ?_
 refine zz ?_
 refine aY1 fun K1 hK1 hG1=> ?_
 have J1: ∀l1,aDG N l1=some r→K1 (aD 48 [(2,(.ptr 0 0)),(4,(.ptr 1 0))]) [some ⟨24,(aYX 32 0).map (eI .u8)⟩,some ⟨160,l1.map (eI .u32)⟩]:=by
  intro l1 hr
  unfold aDG at hr
  refine hK1<|zz ?_
  refine aY1 fun K2 hK2 hG2=> ?_
  have J2: ∀b5,aDE N b5=some r→K2 (aD 48 [(2,(.ptr 0 0)),(6,(.ptr 1 0))]) [some ⟨24,(aYX 32 0).map (eI .u8)⟩,some ⟨24,b5.map (eI .u8)⟩]:=by
   intro b5 hr
   unfold aDE at hr
   refine hK2 ?_
   obtain⟨q,h_3,hr⟩:=aA hr
   refine zz ?_
   obtain rfl:=sj hr
   exact gL Tryz.results66 aY (zG [])
  obtain⟨jT,hL3,hr⟩:=aA hr
  refine zz ?_
  refine aYY<|aY3 (fun m s h=> ∃cO l2,zE N l1 m cO l2=some jT∧Ghost 0 s h (aD 48 [(2,(.ptr 0 0)),(4,(.ptr 1 0)),(6,(.ptr 2 0)),(31,(eI .i64 cO))]) [some ⟨24,(aYX 32 0).map (eI .u8)⟩,some ⟨160,l1.map (eI .u32)⟩,some ⟨24,l2.map (eI .u8)⟩]) ⟨0,aYX 32 0,hL3,(zG [0,1,2])⟩ ?_
  rintro m3 s h ⟨cO,l2,hr3,hg⟩
  refine aY2 hg ?_
  clear hg hL3
  rw[zE]at hr3
  refine zz ?_
  refine aY0 ?_
  refine zk hr3 ?_ ?_<;>intro h4 hr3
  ·refine zz ?_
   refine aY0<|aYY ?_
   obtain⟨x37,h_5,hr3⟩:=aA hr3
   obtain⟨x43,h_6,hr3⟩:=aA hr3
   obtain⟨x45,h_7,hr3⟩:=aA hr3
   refine zz ?_
   exact⟨aYW.wrap (cO+1),l2.set (aY5 cO) (aZa.wrap x43),hr3,(zG [0,1,2])⟩
  refine zz ?_
  obtain rfl:=sj hr3
  refine zz ?_
  exact hG2 (zG [0,2]) (J2 l2 hr)
 refine zz ?_
 refine aY2 (zv 3) ?_
 obtain⟨res4,hL4,hr⟩:=aA hr
 refine aYY<|aY3 (fun m s h=> ∃x19 cN,zJ N bZ m x19 cN=some res4∧Ghost 0 s h (aD 48 [(2,(.ptr 0 0)),(3,(.row none 1 (bZ.map (eI .u8)))),(4,(.ptr 1 0)),(18,(eI .i64 (aYW.wrap (aY9 (bZ.length:Int) 64)))),(19,(eI .i64 x19))]) [some ⟨24,(aYX 32 0).map (eI .u8)⟩,some ⟨160,cN.map (eI .u32)⟩]) ⟨0,zX,hL4,(zG [0,4])⟩ ?_
 rintro m4 s h ⟨x19,cN,hr4,hg⟩
 refine aY2 hg ?_
 clear hg hL4
 rw[zJ]at hr4
 refine zz ?_
 refine aY0 ?_
 refine zk hr4 ?_ ?_<;>intro h8 hr4
 ·refine zz ?_
  refine aY0<|aYY ?_
  obtain⟨q_1,h_9,hr4⟩:=aA hr4
  obtain⟨x26,h_10,hr4⟩:=aA hr4
  obtain⟨x27,h_11,hr4⟩:=aA hr4
  obtain⟨x29,h_12,hr4⟩:=aA hr4
  obtain⟨q_2,h_14,hr4⟩:=aA hr4
  refine zz ?_
  refine aY6 mixed [106] [] [[0,1,2,3,4,5,6,7,8]]<|zz ?_
  refine xw (v:=(.eptr [.agg (x27.map (eI .u8))] 0 0)) (aXK rfl (apR (E:=(eI .u8)) aMU (fun _=>rfl) zl h_11))<|xw (v:=(.agg (x27.map (eI .u8)))) (aS rfl (aWY (E:=(eI .u8)) (l:=x27) aMU rfl (cV h_11)))<|xu (aJU h_12) ?_
  refine zz ?_
  exact⟨aYW.wrap (x19+1),x29,hr4,(zG [0,1])⟩
 refine zz ?_
 obtain rfl:=sj hr4
 refine zz ?_
 exact hG1 (zG [0,1]) (J1 cN hr)
theorem aGH {N b r} (hr:zP N b=some r):
  Vm.Fn Tryz.prog 39 [] [(.row none 1 (b.map (eI .u8)))] (.agg (r.map (eI .u8))) []:=by
 refine zf Tryz.func39 Tryz.ntmps39 ?_
 unfold zP at hr
 obtain⟨x5,h_1,hr⟩:=aA hr
 obtain⟨q,h_2,hr⟩:=aA hr
 refine zz ?_
 refine xp (aKh h_1) ?_
 obtain⟨x7,h_3,hr⟩:=aA hr
 obtain⟨q_1,h_4,hr⟩:=aA hr
 refine zz ?_
 refine gV (aKh h_3) [] [1] ?_
 refine zz ?_
 obtain rfl:=sj hr
 exact gL Tryz.results39 aY (zG [])
theorem aMx {N vh r} (hr:aBC N vh=some r):
  Vm.Fn Tryz.prog 23 [] [(qM vh)] (.agg (r.map (eI .u8))) []:=by
 refine zf Tryz.func23 Tryz.ntmps23 ?_
 unfold aBC at hr
 obtain⟨x4,h_1,hr⟩:=aA hr
 obtain⟨x5,h_2,hr⟩:=aA hr
 obtain⟨q,h_3,hr⟩:=aA hr
 refine zz ?_
 refine zc (aFi h_1) [] ?_
 refine gV (aGH h_2) [] [2] ?_
 refine zz ?_
 obtain rfl:=sj hr
 exact gL Tryz.results23 aY (zG [])
theorem aJB {N p r} (hr:xQ N p=some r):
  Vm.Fn Tryz.prog 7 [] [(cY p)] (.tup [(dO r.1),(eI .i64 r.2)]) []:=by
 refine zf Tryz.func7 Tryz.ntmps7 ?_
 unfold xQ at hr
 refine zz ?_
 refine aY0 ?_
 obtain⟨x5,h_1,hr⟩:=aA hr
 refine zz ?_
 refine xp (s7 h_1) ?_
 refine zz ?_
 refine zk hr ?_ ?_<;>intro h2 hr
 ·refine zz ?_
  refine xw (v:=(.agg ((eI .i64 0)::(aK (eI .u8) (aYX 32 0) [(.row (some true) 1 [])])))) (bV rfl (iZ uV aB8 rfl)) ?_
  refine zz ?_
  obtain rfl:=sj hr
  exact kS Tryz.results7 aY aY (gF [])
 obtain⟨bQ,h_3,hr⟩:=aA hr
 obtain⟨q,h_4,hr⟩:=aA hr
 refine zz ?_
 refine xp (aMx h_3)<|xw (v:=(.agg ((eI .i64 0)::(aK (eI .u8) bQ [(.row (some true) 1 [])])))) (bV rfl (aE0 (ps':=[(1,(.agg (aK (eI .u8) bQ [])))]) (by simp only[gO (l:=bQ) (bP h_4)]<;>rfl) (iZ uV aB8 (by kernel_rfl)))) ?_
 refine zz ?_
 obtain rfl:=sj hr
 exact kS Tryz.results7 aY aY (gF [])
theorem iQ {N va r} (hr:pH N va=some r):
  Vm.Fn Tryz.prog 41 [] [(.agg (va.map (eI .u64)))] (eB r) []:=by
 refine zf Tryz.func41 Tryz.ntmps41 ?_
 unfold pH at hr
 obtain⟨q,h_1,hr⟩:=aA hr
 refine zz ?_
 refine xw (v:=(.agg ([0,0,0,0].map (eI .u64)))) (bV rfl (oT sN rD rfl)) ?_
 refine zz ?_
 obtain rfl:=sj hr
 exact aX Tryz.results41 []
theorem sY {N vn r} (hr:gZ N vn=some r):
  Vm.Fn Tryz.prog 69 [] [(eI .u64 vn)] (.agg (r.map (eI .u64))) []:=by
 refine zf Tryz.func69 Tryz.ntmps69 ?_
 unfold gZ at hr
 refine zz ?_
 refine xw (v:=(.agg ([vn,0,0,0].map (eI .u64)))) (bV rfl (oT sN rD rfl)) ?_
 refine zz ?_
 obtain rfl:=sj hr
 exact gL Tryz.results69 aY (zG [])
theorem aB7 {N va vi r} (hr:r7 N va vi=some r):
  Vm.Fn Tryz.prog 109 [] [(.agg (va.map (eI .u64))),(eI .i64 vi)] (eB r) []:=by
 refine zf Tryz.func109 Tryz.ntmps109 ?_
 unfold r7 at hr
 obtain⟨x7,h_1,hr⟩:=aA hr
 obtain⟨b8,h_2,hr⟩:=aA hr
 refine zz ?_
 obtain rfl:=sj hr
 exact aX Tryz.results109 []
theorem aA6 {N va vn r} (hr:mC N va vn=some r):
  Vm.Fn Tryz.prog 70 [] [(.agg (va.map (eI .u64))),(eI .i64 vn)] (.agg (r.map (eI .u64))) []:=by
 refine zf Tryz.func70 Tryz.ntmps70 ?_
 unfold mC at hr
 refine zz ?_
 refine aY0<|zz ?_
 refine zk hr ?_ ?_<;>intro h1 hr
 ·obtain⟨q,h_2,hr⟩:=aA hr
  refine zz ?_
  obtain rfl:=sj hr
  exact gL Tryz.results70 aY (zG [])
 refine zz ?_
 refine aY0<|zz ?_
 refine zk hr ?_ ?_<;>intro h3 hr
 ·refine zz ?_
  refine xw (v:=(.agg ([0,0,0,0].map (eI .u64)))) (bV rfl (oT sN rD rfl)) ?_
  refine zz ?_
  obtain rfl:=sj hr
  exact gL Tryz.results70 aY (zG [])
 refine zz ?_
 refine aY1 fun K1 hK1 hG1=> ?_
 have J1: ∀l1,aBG N l1=some r→K1 (aD 34 [(4,(.ptr 0 0)),(5,(.ptr 1 0))]) [some ⟨29,(aYX 4 0).map (eI .u64)⟩,some ⟨29,l1.map (eI .u64)⟩]:=by
  intro l1 hr
  unfold aBG at hr
  refine hK1 ?_
  obtain⟨q_1,h_4,hr⟩:=aA hr
  refine zz ?_
  obtain rfl:=sj hr
  exact gL Tryz.results70 aY (zG [])
 obtain⟨bB,hL2,hr⟩:=aA hr
 refine zz ?_
 refine aYY<|aY3 (fun m s h=> ∃vi l2,nV N va vn m vi l2=some bB∧Ghost 0 s h (aD 34 [(1,(eI .i64 vn)),(2,(.ptr 0 0)),(4,(.ptr 1 0)),(5,(.ptr 2 0)),(6,(eI .i64 vi))]) [some ⟨29,va.map (eI .u64)⟩,some ⟨29,(aYX 4 0).map (eI .u64)⟩,some ⟨29,l2.map (eI .u64)⟩]) ⟨0,aYX 4 0,hL2,(zG [0,1,2])⟩ ?_
 rintro m2 s h ⟨vi,l2,hr2,hg⟩
 refine aY2 hg ?_
 clear hg hL2
 rw[nV]at hr2
 refine aY0<|zz ?_
 refine zk hr2 ?_ ?_<;>intro h5 hr2
 ·refine zz ?_
  refine aY1 fun K3 hK3 hG3=> ?_
  have J3: ∀dJ,tG N va vn vi (nV N va vn m2) dJ=some bB→K3 (aD 34 [(1,(eI .i64 vn)),(2,(.ptr 0 0)),(4,(.ptr 1 0)),(5,(.ptr 2 0)),(6,(eI .i64 vi))]) [some ⟨29,va.map (eI .u64)⟩,some ⟨29,(aYX 4 0).map (eI .u64)⟩,some ⟨29,dJ.map (eI .u64)⟩]:=by
   intro dJ hr2
   unfold tG at hr2
   refine hK3<|zz ?_
   exact⟨aYW.wrap (vi+1),dJ,hr2,(zG [0,1,2])⟩
  refine aYY ?_
  obtain⟨q_2,h_6,hr2⟩:=aA hr2
  obtain⟨eQ,h_7,hr2⟩:=aA hr2
  refine zz ?_
  refine xp (aB7 h_7) ?_
  refine zz ?_
  refine zk hr2 ?_ ?_<;>intro h8 hr2
  ·obtain⟨x26,h_9,hr2⟩:=aA hr2
   obtain⟨fA,h_10,hr2⟩:=aA hr2
   refine aY6 mixed [] [] [[0,1,2,3,4,5,6,7,8,9]]<|zz ?_
   exact hG3 (zG [0,1,2]) (J3 (l2.set (aY5 (aYW.wrap (aY9 vi 64))) (bits .or .u64 x26 fA)) hr2)
  refine zz ?_
  exact hG3 (zG [0,1,2]) (J3 l2 hr2)
 refine zz ?_
 obtain rfl:=sj hr2
 refine zz ?_
 exact hG1 (zG [1,2]) (J1 l2 hr)
theorem aGZ {N va r} (hr:aC0 N va=some r):
  Vm.Fn Tryz.prog 71 [] [(.agg (va.map (eI .u64)))] (eI .i64 r) []:=by
 refine zf Tryz.func71 Tryz.ntmps71 ?_
 unfold aC0 at hr
 refine zz ?_
 refine aY1 fun K1 hK1 hG1=> ?_
 have J1:aBY N=some r→K1 (aD 13 []) []:=by
  intro hr
  unfold aBY at hr
  refine hK1<|zz ?_
  obtain rfl:=sj hr
  exact aX Tryz.results71 []
 obtain⟨bB,hL2,hr⟩:=aA hr
 refine zz ?_
 refine aYY<|aY3 (fun m s h=> ∃vi,t6 N va m vi=some bB∧Ghost 0 s h (aD 13 [(1,(.ptr 0 0)),(3,(eI .i64 vi))]) [some ⟨29,va.map (eI .u64)⟩]) ⟨255,hL2,(zG [0])⟩ ?_
 rintro m2 s h ⟨vi,hr2,hg⟩
 refine aY2 hg ?_
 clear hg hL2
 rw[t6]at hr2
 refine aY0<|zz ?_
 refine zk hr2 ?_ ?_<;>intro h1 hr2
 ·refine zz ?_
  refine aY0<|aYY ?_
  obtain⟨q,h_2,hr2⟩:=aA hr2
  obtain⟨bQ,h_3,hr2⟩:=aA hr2
  refine zz ?_
  refine xp (aB7 h_3) ?_
  refine zz ?_
  refine zk hr2 ?_ ?_<;>intro h4 hr2
  ·refine zz ?_
   obtain rfl:=sj hr2
   obtain rfl:=sj hr
   exact aX Tryz.results71 []
  refine zz ?_
  exact⟨aYW.wrap (vi-1),hr2,(zG [0])⟩
 refine zz ?_
 obtain rfl:=sj hr2
 refine zz ?_
 exact hG1 (zG []) (J1 hr)
theorem xY {N:Nat}{x y c:Int}{r:Int×Int}(hr:dX N x y c=some r):Vm.Fn Tryz.prog 143 [] [(eI .u64 x),(eI .u64 y),(eI .u64 c)] (.tup [(eI .u64 r.1),(eI .u64 r.2)]) []:=
 aSZ Tryz.func143 (by kernel_rfl) (by kernel_rfl) (by kernel_rfl) (by kernel_rfl) hr
theorem aG7 {N va b r} (hr:xP N va b=some r):
  Vm.Fn Tryz.prog 110 [] [(.agg (va.map (eI .u64))),(.agg (b.map (eI .u64)))] (.tup [(.agg (r.1.map (eI .u64))),(eB r.2)]) []:=by
 refine zf Tryz.func110 Tryz.ntmps110 ?_
 unfold xP at hr
 refine zz ?_
 refine aY1 fun K1 hK1 hG1=> ?_
 have J1: ∀sZ l1,aCa N sZ l1=some r→K1 (aD 29 [(4,(.ptr 0 0)),(6,(.ptr 1 0)),(7,(eI .u64 sZ))]) [some ⟨29,(aYX 4 0).map (eI .u64)⟩,some ⟨29,l1.map (eI .u64)⟩]:=by
  intro sZ l1 hr
  unfold aCa at hr
  refine hK1 ?_
  obtain⟨q,h_1,hr⟩:=aA hr
  refine zz ?_
  obtain rfl:=sj hr
  exact kS Tryz.results110 aY aY (gF [])
 obtain⟨bB,hL2,hr⟩:=aA hr
 refine zz ?_
 refine aYY<|aY3 (fun m s h=> ∃carry_1 x9 l3,tT N va b m carry_1 x9 l3=some bB∧Ghost 0 s h (aD 29 [(2,(.ptr 0 0)),(3,(.ptr 1 0)),(4,(.ptr 2 0)),(6,(.ptr 3 0)),(7,(eI .u64 carry_1)),(9,(eI .i64 x9))]) [some ⟨29,va.map (eI .u64)⟩,some ⟨29,b.map (eI .u64)⟩,some ⟨29,(aYX 4 0).map (eI .u64)⟩,some ⟨29,l3.map (eI .u64)⟩]) ⟨0,0,aYX 4 0,hL2,(zG [0,1,2,3])⟩ ?_
 rintro m2 s h ⟨carry_1,x9,l3,hr2,hg⟩
 refine aY2 hg ?_
 clear hg hL2
 rw[tT]at hr2
 refine zz ?_
 refine aY0 ?_
 refine zk hr2 ?_ ?_<;>intro h2 hr2
 ·refine zz ?_
  refine aY0<|aYY ?_
  obtain⟨x15,h_3,hr2⟩:=aA hr2
  obtain⟨x18,h_4,hr2⟩:=aA hr2
  obtain⟨cW,h_5,hr2⟩:=aA hr2
  obtain⟨dL,h_7,hr2⟩:=aA hr2
  refine zz ?_
  refine aY6 mixed [143] [] [[0,1,2,3,4,5,6,7,8,9,10,11,12,13,14]]<|zz ?_
  refine xu (xY h_5) ?_
  refine zz ?_
  exact⟨cW.2,aYW.wrap (x9+1),l3.set (aY5 x9) cW.1,hr2,(zG [0,1,2,3])⟩
 refine zz ?_
 obtain rfl:=sj hr2
 refine zz ?_
 exact hG1 (zG [2,3]) (J1 carry_1 l3 hr)
theorem aHI {N va vn r} (hr:xK N va vn=some r):
  Vm.Fn Tryz.prog 72 [] [(.agg (va.map (eI .u64))),(eI .i64 vn)] (.agg (r.map (eI .u64))) []:=by
 refine zf Tryz.func72 Tryz.ntmps72 ?_
 unfold xK at hr
 refine zz ?_
 refine aY0<|zz ?_
 refine zk hr ?_ ?_<;>intro h1 hr
 ·refine zz ?_
  refine xw (v:=(.agg ([0,0,0,0].map (eI .u64)))) (bV rfl (oT sN rD rfl)) ?_
  refine zz ?_
  obtain rfl:=sj hr
  exact gL Tryz.results72 aY (zG [])
 refine zz ?_
 refine aY1 fun K1 hK1 hG1=> ?_
 have J1: ∀l0,aBX N l0=some r→K1 (aD 19 [(2,(.ptr 0 0)),(4,(.ptr 1 0))]) [some ⟨29,l0.map (eI .u64)⟩,some ⟨29,(aYX 4 0).map (eI .u64)⟩]:=by
  intro l0 hr
  unfold aBX at hr
  refine hK1 ?_
  obtain⟨q,h_2,hr⟩:=aA hr
  refine zz ?_
  obtain rfl:=sj hr
  exact gL Tryz.results72 aY (zG [])
 obtain⟨bB,hL2,hr⟩:=aA hr
 refine aYY<|aY3 (fun m s h=> ∃iV aM,qK N m iV aM=some bB∧Ghost 0 s h (aD 19 [(1,(eI .i64 iV)),(2,(.ptr 0 0)),(4,(.ptr 1 0))]) [some ⟨29,aM.map (eI .u64)⟩,some ⟨29,(aYX 4 0).map (eI .u64)⟩]) ⟨vn,va,hL2,(zG [0,1])⟩ ?_
 rintro m2 s h ⟨iV,aM,hr2,hg⟩
 refine aY2 hg ?_
 clear hg hL2
 rw[qK]at hr2
 refine aY0<|zz ?_
 refine zk hr2 ?_ ?_<;>intro h3 hr2
 ·refine zz ?_
  refine aY0<|aYY ?_
  obtain⟨q_1,h_4,hr2⟩:=aA hr2
  obtain⟨x15,h_5,hr2⟩:=aA hr2
  obtain⟨q_2,h_6,hr2⟩:=aA hr2
  refine zz ?_
  refine xp (aG7 h_5) ?_
  refine zz ?_
  exact⟨aYW.wrap (iV-1),x15.1,hr2,(zG [0,1])⟩
 refine zz ?_
 obtain rfl:=sj hr2
 refine zz ?_
 exact hG1 (zG [0,1]) (J1 aM hr)
theorem aBL {N kZ r} (hr:qC N kZ=some r):
  Vm.Fn Tryz.prog 42 [] [(eI .u32 kZ)] (.tup [(.agg (r.1.map (eI .u64))),(eI .i64 r.2)]) []:=by
 refine zf Tryz.func42 Tryz.ntmps42 ?_
 unfold qC at hr
 obtain⟨x8,h_1,hr⟩:=aA hr
 obtain⟨cB,h_2,hr⟩:=aA hr
 obtain⟨q,h_3,hr⟩:=aA hr
 refine zz ?_
 refine xp (sY h_2) ?_
 refine zz ?_
 refine aY0<|zz ?_
 refine zk hr ?_ ?_<;>intro h4 hr
 ·refine zz ?_
  refine xw (v:=(.agg ([0,0,0,0].map (eI .u64)))) (bV rfl (oT sN rD rfl)) ?_
  refine zz ?_
  obtain rfl:=sj hr
  exact kS Tryz.results42 aY aY (gF [])
 refine zz ?_
 refine aY1 fun K1 hK1 hG1=> ?_
 have J1: ∀l1,oJ N l1=some r→K1 (aD 48 [(2,(.ptr 0 0)),(6,(.ptr 1 0))]) [some ⟨29,(aYX 4 0).map (eI .u64)⟩,some ⟨29,l1.map (eI .u64)⟩]:=by
  intro l1 hr
  unfold oJ at hr
  refine hK1<|aY0 ?_
  obtain⟨q_1,h_5,hr⟩:=aA hr
  obtain⟨x45,h_6,hr⟩:=aA hr
  refine zz ?_
  refine xp (iQ h_6) ?_
  refine zz ?_
  refine zk hr ?_ ?_<;>intro h7 hr
  ·refine zz ?_
   refine xw (v:=(.agg ([0,0,0,0].map (eI .u64)))) (bV rfl (oT sN rD rfl)) ?_
   refine zz ?_
   obtain rfl:=sj hr
   exact kS Tryz.results42 aY aY (gF [])
  refine zz ?_
  obtain rfl:=sj hr
  exact kS Tryz.results42 aY aY (gF [])
 refine zz ?_
 refine zk hr ?_ ?_<;>intro h8 hr
 ·obtain⟨x25,h_9,hr⟩:=aA hr
  obtain⟨q_2,h_10,hr⟩:=aA hr
  refine zz ?_
  refine xp (aA6 h_9) ?_
  refine zz ?_
  exact hG1 (zG [0,2]) (J1 x25 hr)
 refine aY0 ?_
 refine aY1 fun K2 hK2 hG2=> ?_
 have J2: ∀x37,oL N x8 cB x37=some r→K2 (aD 48 [(2,(.ptr 0 0)),(4,(eI .i64 (aYW.wrap x8))),(5,(.ptr 1 0)),(6,(.ptr 2 0)),(37,(eB x37))]) [some ⟨29,(aYX 4 0).map (eI .u64)⟩,some ⟨29,cB.map (eI .u64)⟩,some ⟨29,cB.map (eI .u64)⟩]:=by
  intro x37 hr
  unfold oL at hr
  refine hK2 ?_
  refine zk hr ?_ ?_<;>intro h11 hr
  ·refine zz ?_
   refine xw (v:=(.agg ([0,0,0,0].map (eI .u64)))) (bV rfl (oT sN rD rfl)) ?_
   refine zz ?_
   obtain rfl:=sj hr
   exact kS Tryz.results42 aY aY (gF [])
  obtain⟨x43,h_12,hr⟩:=aA hr
  obtain⟨q_3,h_13,hr⟩:=aA hr
  refine zz ?_
  refine xp (aHI h_12) ?_
  refine zz ?_
  exact hG1 (zG [0,2]) (J1 x43 hr)
 obtain⟨x27,h_14,hr⟩:=aA hr
 rcases aYV (!x27)with h15|h15
 ·replace hr:=bY hr h15
  obtain⟨cO,h_16,hr⟩:=aA hr
  refine xr<|zz ?_
  refine xp (iQ h_14) ?_
  refine zz ?_
  refine xCg (v:=(eI .i64 cO)) (h':=[some ⟨29,(aYX 4 0).map (eI .u64)⟩,some ⟨29,cB.map (eI .u64)⟩,some ⟨29,cB.map (eI .u64)⟩]) rfl rfl h15 rfl (Vm.Fn.pure (aGZ h_16) zR rfl) ?_
  refine zz ?_
  exact hG2 (zG [0,1,2]) (J2 (decide (256<(aYW.wrap (cO+(aYW.wrap (8*(aYW.wrap ((aYW.wrap x8)-3)))))))) hr)
 replace hr:=bX hr h15
 refine xr<|zz ?_
 refine xp (iQ h_14) ?_
 refine zz ?_
 exact hG2 (zG [0,1,2]) (J2 false hr)
theorem tJ {N va b r} (hr:iJ N va b=some r):
  Vm.Fn Tryz.prog 43 [] [(.agg (va.map (eI .u64))),(.agg (b.map (eI .u64)))] (eI .i64 r) []:=by
 refine zf Tryz.func43 Tryz.ntmps43 ?_
 unfold iJ at hr
 refine zz ?_
 refine aY1 fun K1 hK1 hG1=> ?_
 have J1:aD1 N=some r→K1 (aD 24 []) []:=by
  intro hr
  unfold aD1 at hr
  refine hK1<|zz ?_
  obtain rfl:=sj hr
  exact aX Tryz.results43 []
 obtain⟨bB,hL2,hr⟩:=aA hr
 refine zz ?_
 refine aYY<|aY3 (fun m s h=> ∃vi,uE N va b m vi=some bB∧Ghost 0 s h (aD 24 [(2,(.ptr 0 0)),(3,(.ptr 1 0)),(5,(eI .i64 vi))]) [some ⟨29,va.map (eI .u64)⟩,some ⟨29,b.map (eI .u64)⟩]) ⟨3,hL2,(zG [0,1])⟩ ?_
 rintro m2 s h ⟨vi,hr2,hg⟩
 refine aY2 hg ?_
 clear hg hL2
 rw[uE]at hr2
 refine aY0<|zz ?_
 refine zk hr2 ?_ ?_<;>intro h1 hr2
 ·refine zz ?_
  refine aY0<|aYY<|aY0<|aY0 ?_
  obtain⟨b8,h_2,hr2⟩:=aA hr2
  obtain⟨bZ,h_3,hr2⟩:=aA hr2
  refine aY6 mixed [] [] [[0,1,2,3,4,5,6]]<|zz ?_
  refine zk hr2 ?_ ?_<;>intro h4 hr2
  ·refine zz ?_
   obtain rfl:=sj hr2
   obtain rfl:=sj hr
   exact aX Tryz.results43 []
  refine zz ?_
  refine aY0<|aY6 mixed [] [] [[0,1,2,3,4,5,6]]<|zz ?_
  refine zk hr2 ?_ ?_<;>intro h5 hr2
  ·refine zz ?_
   obtain rfl:=sj hr2
   obtain rfl:=sj hr
   exact aX Tryz.results43 []
  refine zz ?_
  exact⟨aYW.wrap (vi-1),hr2,(zG [0,1])⟩
 refine zz ?_
 obtain rfl:=sj hr2
 refine zz ?_
 exact hG1 (zG []) (J1 hr)
theorem dS {N p r} (hr:iT N p=some r):
  Vm.Fn Tryz.prog 24 [] [(cY p)] (eB r) []:=by
 refine zf Tryz.func24 Tryz.ntmps24 ?_
 unfold iT at hr
 refine zz ?_
 refine aY0 ?_
 refine aY1 fun K1 hK1 hG1=> ?_
 have J1: ∀x29,kX N p x29=some r→K1 (aD 107 [(1,(.ptr 0 0)),(29,(eB x29))]) [some ⟨32,aT p⟩]:=by
  intro x29 hr
  unfold kX at hr
  refine hK1 ?_
  refine zk hr ?_ ?_<;>intro h1 hr
  ·refine zz ?_
   obtain rfl:=sj hr
   exact aX Tryz.results24 []
  refine zz ?_
  refine aY0 ?_
  refine aY1 fun K2 hK2 hG2=> ?_
  have J2: ∀x57,f9 N p x57=some r→K2 (aD 107 [(1,(.ptr 0 0)),(57,(eB x57))]) [some ⟨32,aT p⟩]:=by
   intro x57 hr
   unfold f9 at hr
   refine hK2 ?_
   refine zk hr ?_ ?_<;>intro h2 hr
   ·refine zz ?_
    obtain rfl:=sj hr
    exact aX Tryz.results24 []
   refine zz ?_
   refine aY1 fun K3 hK3 hG3=> ?_
   have J3:zA N p=some r→K3 (aD 107 [(1,(.ptr 0 0))]) [some ⟨32,aT p⟩]:=by
    intro hr
    unfold zA at hr
    refine hK3 ?_
    obtain⟨x95,h_3,hr⟩:=aA hr
    obtain⟨q,h_4,hr⟩:=aA hr
    refine zz ?_
    refine xp (aBL h_3) ?_
    refine zz ?_
    refine aY1 fun K4 hK4 hG4=> ?_
    have J4: ∀x2,uA N x2=some r→K4 (aD 107 [(2,(eB x2))]) []:=by
     intro x2 hr
     unfold uA at hr
     refine hK4<|zz ?_
     obtain rfl:=sj hr
     exact aX Tryz.results24 []
    rcases aYV (x95.2 == 0)with h5|h5
    ·replace hr:=bY hr h5
     obtain⟨q_1,h_6,hr⟩:=aA hr
     obtain⟨yJ,h_7,hr⟩:=aA hr
     refine xr<|zz ?_
     refine xCg (v:=(eI .i64 yJ)) (h':=[some ⟨32,aT p⟩,some ⟨29,x95.1.map (eI .u64)⟩]) rfl rfl h5 rfl (Vm.Fn.pure (tJ h_7) zR rfl) ?_
     refine zz ?_
     exact hG4 (zG []) (J4 (decide (yJ≤0)) hr)
    replace hr:=bX hr h5
    refine xr<|zz ?_
    exact hG4 (zG []) (J4 false hr)
   obtain⟨res5,hL5,hr⟩:=aA hr
   refine zz ?_
   refine aYY<|aY3 (fun m s h=> ∃x61,fJ N p m x61=some res5∧Ghost 0 s h (aD 107 [(1,(.ptr 0 0)),(59,(.row none 33 (p.Checkpoints.map cR))),(60,(eI .i64 (p.Checkpoints.length:Int))),(61,(eI .i64 x61))]) [some ⟨32,aT p⟩]) ⟨0,hL5,(zG [0])⟩ ?_
   rintro m5 s h ⟨x61,hr5,hg⟩
   refine aY2 hg ?_
   clear hg hL5
   rw[fJ]at hr5
   refine zz ?_
   refine aY0 ?_
   refine zk hr5 ?_ ?_<;>intro h8 hr5
   ·refine zz ?_
    refine aY0<|aYY ?_
    obtain⟨x64,h_9,hr5⟩:=aA hr5
    refine zz ?_
    refine aY1 fun K6 hK6 hG6=> ?_
    have J6: ∀x89,mR N p x61 (fJ N p m5) x89=some res5→K6 (aD 107 [(1,(.ptr 0 0)),(59,(.row none 33 (p.Checkpoints.map cR))),(60,(eI .i64 (p.Checkpoints.length:Int))),(61,(eI .i64 x61)),(89,(eB x89))]) [some ⟨32,aT p⟩]:=by
     intro x89 hr5
     unfold mR at hr5
     refine hK6 ?_
     refine zk hr5 ?_ ?_<;>intro h10 hr5
     ·refine zz ?_
      obtain rfl:=sj hr5
      obtain rfl:=sj hr
      exact aX Tryz.results24 []
     refine zz ?_
     exact⟨aYW.wrap (x61+1),hr5,(zG [0])⟩
    rcases aYV (decide (x64.Height<1))with h11|h11
    ·replace hr5:=bY hr5 h11
     refine aY6 mixed [] [] [[0,1,2,3,4,5,6,7,8,9,10,11,12,13,14,15,16,17,18,19,20,21,22,23]]<|zz ?_
     refine xX rfl<|xX rfl<|xX rfl ?_
     refine zz ?_
     refine xX rfl ?_
     refine zz ?_
     exact hG6 (zG [0]) (J6 true hr5)
    replace hr5:=bX hr5 h11
    rcases aYV (decide (16777216<x64.Height))with h12|h12
    ·replace hr5:=bY hr5 h12
     refine aY6 mixed [] [] [[0,1,2,3,4,5,6,7,8,9,10,11,12,13,14,15,16,17,18,19,20,21,22,23]]<|zz ?_
     exact hG6 (zG [0]) (J6 true hr5)
    replace hr5:=bX hr5 h12
    rcases aYV (decide (0<x61))with h13|h13
    ·replace hr5:=bY hr5 h13
     obtain⟨x82,h_14,hr5⟩:=aA hr5
     refine aY6 mixed [] [] [[0,1,2,3,4,5,6,7,8,9,10,11,12,13,14,15,16,17,18,19,20,21,22,23]]<|zz ?_
     exact hG6 (zG [0]) (J6 (decide (x64.Height≤x82.Height)) hr5)
    replace hr5:=bX hr5 h13
    refine aY6 mixed [] [] [[0,1,2,3,4,5,6,7,8,9,10,11,12,13,14,15,16,17,18,19,20,21,22,23]]<|zz ?_
    exact hG6 (zG [0]) (J6 false hr5)
   refine zz ?_
   obtain rfl:=sj hr5
   refine zz ?_
   exact hG3 (zG [0]) (J3 hr)
  rcases aYV (decide (p.Subsidy<0))with h15|h15
  ·replace hr:=bY hr h15
   refine xr<|zz ?_
   refine xX rfl<|xX rfl<|xX rfl ?_
   refine zz ?_
   refine xX rfl<|xX rfl<|xX rfl ?_
   refine zz ?_
   refine xX rfl<|xX rfl<|xX rfl ?_
   refine zz ?_
   refine xX rfl<|xX rfl<|xX rfl ?_
   refine zz ?_
   exact hG2 (zG [0]) (J2 true hr)
  replace hr:=bX hr h15
  rcases aYV (decide (2100000000000000<p.Subsidy))with h16|h16
  ·replace hr:=bY hr h16
   refine xr<|zz ?_
   refine xX rfl<|xX rfl<|xX rfl ?_
   refine zz ?_
   refine xX rfl<|xX rfl<|xX rfl ?_
   refine zz ?_
   refine xX rfl<|xX rfl<|xX rfl ?_
   refine zz ?_
   exact hG2 (zG [0]) (J2 true hr)
  replace hr:=bX hr h16
  rcases aYV (decide (p.Halving<1))with h17|h17
  ·replace hr:=bY hr h17
   refine xr<|zz ?_
   refine xX rfl<|xX rfl<|xX rfl ?_
   refine zz ?_
   refine xX rfl<|xX rfl<|xX rfl ?_
   refine zz ?_
   exact hG2 (zG [0]) (J2 true hr)
  replace hr:=bX hr h17
  rcases aYV (decide (16777216<p.Halving))with h18|h18
  ·replace hr:=bY hr h18
   refine xr<|zz ?_
   refine xX rfl<|xX rfl<|xX rfl ?_
   refine zz ?_
   exact hG2 (zG [0]) (J2 true hr)
  replace hr:=bX hr h18
  rcases aYV (decide (p.Maturity<0))with h19|h19
  ·replace hr:=bY hr h19
   refine xr<|zz ?_
   exact hG2 (zG [0]) (J2 true hr)
  replace hr:=bX hr h19
  refine xr<|zz ?_
  exact hG2 (zG [0]) (J2 (decide (16777216<p.Maturity)) hr)
 obtain⟨q_2,h_20,hr⟩:=aA hr
 obtain⟨x9,h_21,hr⟩:=aA hr
 rcases aYV x9 with h22|h22
 ·replace hr:=bY hr h22
  refine xr<|zz ?_
  refine xp (iQ h_21) ?_
  refine zz ?_
  refine xX rfl<|xX rfl<|xX rfl ?_
  refine zz ?_
  refine xX rfl<|xX rfl<|xX rfl ?_
  refine zz ?_
  refine xX rfl<|xX rfl<|xX rfl ?_
  refine zz ?_
  exact hG1 (zG [0]) (J1 true hr)
 replace hr:=bX hr h22
 rcases aYV (decide (p.Window<1))with h23|h23
 ·replace hr:=bY hr h23
  refine xr<|zz ?_
  refine xp (iQ h_21) ?_
  refine zz ?_
  refine xX rfl<|xX rfl<|xX rfl ?_
  refine zz ?_
  refine xX rfl<|xX rfl<|xX rfl ?_
  refine zz ?_
  exact hG1 (zG [0]) (J1 true hr)
 replace hr:=bX hr h23
 rcases aYV (decide (4096<p.Window))with h24|h24
 ·replace hr:=bY hr h24
  refine xr<|zz ?_
  refine xp (iQ h_21) ?_
  refine zz ?_
  refine xX rfl<|xX rfl<|xX rfl ?_
  refine zz ?_
  exact hG1 (zG [0]) (J1 true hr)
 replace hr:=bX hr h24
 rcases aYV (decide (p.Spacing<1))with h25|h25
 ·replace hr:=bY hr h25
  refine xr<|zz ?_
  refine xp (iQ h_21) ?_
  refine zz ?_
  exact hG1 (zG [0]) (J1 true hr)
 replace hr:=bX hr h25
 refine xr<|zz ?_
 refine xp (iQ h_21) ?_
 refine zz ?_
 exact hG1 (zG [0]) (J1 (decide (1048576<p.Spacing)) hr)
theorem oB {N v vn r} (hr:jS N v vn=some r):
  Vm.Fn Tryz.prog 115 [] [(eI .u64 v),(eI .i64 vn)] (.sl 0 0 r.length 1 false) [some ⟨5,r.map (eI .u8)⟩]:=by
 refine zf Tryz.func115 Tryz.ntmps115 ?_
 unfold jS at hr
 obtain⟨x8,h_1,hr⟩:=aA hr
 refine zz ?_
 refine xw (v:=(.sl 0 0 x8.length 1 false)) (h':=[some ⟨5,x8.map (eI .u8)⟩]) (aKY rfl rfl (mkS (E:=(eI .u8)) (y:=0) z4 sP ⟨zl,rfl,rfl⟩ rfl rfl rfl h_1 rfl rfl)) ?_
 refine zz ?_
 refine aY1 fun K1 hK1 hG1=> ?_
 have J1: ∀l0,wM N l0=some r→K1 (aD 24 [(5,(.sl 0 0 l0.length 1 false))]) [some ⟨5,l0.map (eI .u8)⟩]:=by
  intro l0 hr
  unfold wM at hr
  refine hK1<|zz ?_
  obtain rfl:=sj hr
  exact aX Tryz.results115 [0]
 obtain⟨bB,hL2,hr⟩:=aA hr
 refine zz ?_
 refine aYY<|aY3 (fun m s h=> ∃b8 aM,lJ N v x8 m b8 aM=some bB∧Ghost 0 s h (aD 24 [(0,(eI .u64 v)),(5,(.sl 0 0 aM.length 1 false)),(10,(eI .i64 (x8.length:Int))),(11,(eI .i64 b8))]) [some ⟨5,aM.map (eI .u8)⟩]) ⟨0,x8,hL2,(zG [0])⟩ ?_
 rintro m2 s h ⟨b8,aM,hr2,hg⟩
 refine aY2 hg ?_
 clear hg hL2
 rw[lJ]at hr2
 refine zz ?_
 refine aY0 ?_
 refine zk hr2 ?_ ?_<;>intro h2 hr2
 ·refine zz ?_
  refine aY0<|aYY ?_
  obtain⟨x19,h_3,hr2⟩:=aA hr2
  obtain⟨cW,h_4,hr2⟩:=aA hr2
  refine zz ?_
  exact⟨aYW.wrap (b8+1),aM.set (aY5 b8) (aZa.wrap x19),hr2,(gF [0])⟩
 refine zz ?_
 obtain rfl:=sj hr2
 refine zz ?_
 exact hG1 (zG [0]) (J1 aM hr)
theorem eW {N va b r} (hr:eP N va b=some r):
  Vm.Fn Tryz.prog 114 [] [(.row none 1 (va.map (eI .u8))),(.row none 1 (b.map (eI .u8)))] (.sl 0 0 r.length 1 false) [some ⟨5,r.map (eI .u8)⟩]:=by
 refine zf Tryz.func114 Tryz.ntmps114 ?_
 unfold eP at hr
 obtain⟨b8,h_1,hr⟩:=aA hr
 refine zz ?_
 refine xw (v:=(.sl 0 0 0 1 false)) (h':=[some ⟨5,b8.map (eI .u8)⟩]) (aKY rfl rfl (mkC (E:=(eI .u8)) (y:=0) z4 sP ⟨zl,rfl,rfl⟩ rfl rfl rfl h_1 rfl rfl)) ?_
 obtain⟨bZ,h_2,hr⟩:=aA hr
 obtain⟨x16,h_3,hr⟩:=aA hr
 refine zz ?_
 refine xw (v:=(.sl 1 0 bZ.length 1 false)) (h':=[none,some ⟨5,bZ.map (eI .u8)⟩]) (uX rfl rfl (aV7 (E:=(eI .u8)) (Nat.zero_le _) z4 sP ⟨rfl,rfl,zl⟩ rfl (aK3 (fun _=>rfl)) h_2 rfl rfl)) ?_
 refine zz ?_
 obtain rfl:=sj hr
 exact aX Tryz.results114 [2]
theorem eU {N b vn r} (hr:dY N b vn=some r):
  Vm.Fn Tryz.prog 74 [] [(.row none 1 (b.map (eI .u8))),(eI .u32 vn)] (.sl 0 0 r.length 1 false) [some ⟨5,r.map (eI .u8)⟩]:=by
 refine zf Tryz.func74 Tryz.ntmps74 ?_
 unfold dY at hr
 obtain⟨x8,h_1,hr⟩:=aA hr
 obtain⟨x9,h_2,hr⟩:=aA hr
 refine zz ?_
 refine zc (oB h_1) [] ?_
 refine gV (eW h_2) [] [0] ?_
 refine zz ?_
 obtain rfl:=sj hr
 exact aX Tryz.results74 [1]
theorem jM {N b vh r} (hr:eZ N b vh=some r):
  Vm.Fn Tryz.prog 75 [] [(.row none 1 (b.map (eI .u8))),(.agg (vh.map (eI .u8)))] (.sl 0 0 r.length 1 false) [some ⟨5,r.map (eI .u8)⟩]:=by
 refine zf Tryz.func75 Tryz.ntmps75 ?_
 unfold eZ at hr
 obtain⟨q,h_1,hr⟩:=aA hr
 obtain⟨x7,h_2,hr⟩:=aA hr
 refine zz ?_
 refine gV (eW h_2) [] [0] ?_
 refine zz ?_
 obtain rfl:=sj hr
 exact aX Tryz.results75 [1]
theorem aAW {N vh r} (hr:kP N vh=some r):
  Vm.Fn Tryz.prog 45 [] [(qM vh)] (.sl 0 0 r.length 1 false) [some ⟨5,r.map (eI .u8)⟩]:=by
 refine zf Tryz.func45 Tryz.ntmps45 ?_
 unfold kP at hr
 obtain⟨x8,h_1,hr⟩:=aA hr
 refine zz ?_
 refine zc (eU h_1) [] ?_
 refine zz ?_
 refine aY0 ?_
 obtain⟨q,h_2,hr⟩:=aA hr
 obtain⟨cH,h_3,hr⟩:=aA hr
 obtain⟨q_1,h_5,hr⟩:=aA hr
 obtain⟨x15,h_6,hr⟩:=aA hr
 refine aY6 mixed [] [75] [[0,1,2,3,4,5,6,7]]<|zz ?_
 refine zgL (jM h_3) [] [1] ?_
 refine zz ?_
 refine zgL (jM h_6) [] [2] ?_
 refine zz ?_
 refine aY1 fun K1 hK1 hG1=> ?_
 have J1: ∀l0,t0 N l0=some r→K1 (aD 33 [(3,(.sl 0 0 l0.length 1 false))]) [some ⟨5,l0.map (eI .u8)⟩]:=by
  intro l0 hr
  unfold t0 at hr
  refine hK1<|zz ?_
  obtain rfl:=sj hr
  exact aX Tryz.results45 [0]
 obtain⟨bB,hL2,hr⟩:=aA hr
 refine zz ?_
 refine aYY<|aY3 (fun m s h=> ∃dL aM,iE N vh m dL aM=some bB∧Ghost 0 s h (aD 33 [(3,(.sl 0 0 aM.length 1 false)),(22,(.sl 1 0 ([vh.Time,vh.Bits,vh.Nonce].length) 1 false)),(23,(eI .i64 (3:Int))),(24,(eI .i64 dL))]) [some ⟨5,aM.map (eI .u8)⟩,some ⟨22,[vh.Time,vh.Bits,vh.Nonce].map (eI .u32)⟩]) ⟨0,x15,hL2,(gF [3,4])⟩ ?_
 rintro m2 s h ⟨dL,aM,hr2,hg⟩
 refine aY2 hg ?_
 clear hg hL2
 rw[iE]at hr2
 refine zz ?_
 refine aY0 ?_
 refine zk hr2 ?_ ?_<;>intro h8 hr2
 ·refine zz ?_
  refine aY0<|aYY ?_
  obtain⟨x26,h_9,hr2⟩:=aA hr2
  refine zz ?_
  refine xHp (h':=[some ⟨5,aM.map (eI .u8)⟩,some ⟨22,[vh.Time,vh.Bits,vh.Nonce].map (eI .u32)⟩]) rfl ?_
  obtain⟨fA,h_10,hr2⟩:=aA hr2
  refine zz ?_
  refine gV (eU h_10) [] [0] ?_
  refine zz ?_
  exact⟨aYW.wrap (dL+1),fA,hr2,(zG [2,1])⟩
 refine zz ?_
 obtain rfl:=sj hr2
 refine zz ?_
 exact hG1 (zG [0]) (J1 aM hr)
theorem aN3 {N vn r} (hr:aC4 N vn=some r):
  Vm.Fn Tryz.prog 111 [] [(eI .u64 vn)] (.sl 0 0 r.length 1 false) [some ⟨5,r.map (eI .u8)⟩]:=by
 refine zf Tryz.func111 Tryz.ntmps111 ?_
 unfold aC4 at hr
 refine zz ?_
 refine aY1 fun K1 hK1 hG1=> ?_
 have J1: ∀l0,aB9 N vn l0=some r→K1 (aD 31 [(0,(eI .u64 vn)),(3,(.sl 0 0 l0.length 1 false))]) [some ⟨5,l0.map (eI .u8)⟩]:=by
  intro l0 hr
  unfold aB9 at hr
  refine hK1 ?_
  refine aY1 fun K2 hK2 hG2=> ?_
  have J2: ∀aM,aEk N aM=some r→K2 (aD 31 [(3,(.sl 0 0 aM.length 1 false))]) [some ⟨5,aM.map (eI .u8)⟩]:=by
   intro aM hr
   unfold aEk at hr
   refine hK2<|zz ?_
   obtain rfl:=sj hr
   exact aX Tryz.results111 [0]
  obtain⟨jT,hL3,hr⟩:=aA hr
  refine zz ?_
  refine aYY<|aY3 (fun m s h=> ∃vi dW,qO N vn m vi dW=some jT∧Ghost 0 s h (aD 31 [(0,(eI .u64 vn)),(3,(.sl 0 0 dW.length 1 false)),(4,(eI .i64 vi))]) [some ⟨5,dW.map (eI .u8)⟩]) ⟨7,l0,hL3,(zG [0])⟩ ?_
  rintro m3 s h ⟨vi,dW,hr3,hg⟩
  refine aY2 hg ?_
  clear hg hL3
  rw[qO]at hr3
  refine aY0<|zz ?_
  refine zk hr3 ?_ ?_<;>intro h1 hr3
  ·refine zz ?_
   refine aY0<|aYY ?_
   obtain⟨x26,h_2,hr3⟩:=aA hr3
   obtain⟨x29,h_3,hr3⟩:=aA hr3
   refine zz ?_
   exact⟨aYW.wrap (vi-1),x29,hr3,(zG [2])⟩
  refine zz ?_
  obtain rfl:=sj hr3
  refine zz ?_
  exact hG2 (zG [0]) (J2 dW hr)
 obtain⟨res4,hL4,hr⟩:=aA hr
 refine aYY<|aY3 (fun m s h=> ∃nR,tW N vn m nR=some res4∧Ghost 0 s h (aD 31 [(0,(eI .u64 vn)),(3,(.sl 0 0 nR.length 1 false))]) [some ⟨5,nR.map (eI .u8)⟩]) ⟨[128],hL4,(gF [0])⟩ ?_
 rintro m4 s h ⟨nR,hr4,hg⟩
 refine aY2 hg ?_
 clear hg hL4
 rw[tW]at hr4
 refine aY0<|zz ?_
 refine zk hr4 ?_ ?_<;>intro h4 hr4
 ·refine zz ?_
  refine aYY ?_
  obtain⟨x16,h_5,hr4⟩:=aA hr4
  refine zz ?_
  exact⟨x16,hr4,(zG [2])⟩
 refine zz ?_
 obtain rfl:=sj hr4
 refine zz ?_
 exact hG1 (zG [0]) (J1 nR hr)
theorem aIm {N r} (hr:aAn N=some r):
  Vm.Fn Tryz.prog 112 [] [] (.agg (r.map (eI .u32))) []:=by
 refine zf Tryz.func112 Tryz.ntmps112 ?_
 unfold aAn at hr
 refine zz ?_
 refine xw (v:=(.agg ([1779033703,3144134277,1013904242,2773480762,1359893119,2600822924,528734635,1541459225].map (eI .u32)))) (bV rfl (oT aFR lH rfl)) ?_
 refine zz ?_
 obtain rfl:=sj hr
 exact gL Tryz.results112 aY (zG [])
theorem iR {N x vn r} (hr:i0 N x vn=some r):
  Vm.Fn Tryz.prog 146 [] [(eI .u32 x),(eI .i64 vn)] (eI .u32 r) []:=by
 refine zf Tryz.func146 Tryz.ntmps146 ?_
 unfold i0 at hr
 obtain⟨x8,h_1,hr⟩:=aA hr
 refine zz ?_
 refine xw (aEZ rfl (aNA ..))<|xp (wY h_1) ?_
 refine zz ?_
 obtain rfl:=sj hr
 exact aX Tryz.results146 []
theorem aIa {N block r} (hr:t5 N block=some r):
  Vm.Fn Tryz.prog 144 [] [(.agg (block.map (eI .u8)))] (.agg (r.map (eI .u32))) []:=by
 refine zf Tryz.func144 Tryz.ntmps144 ?_
 unfold t5 at hr
 refine zz ?_
 refine aY1 fun K1 hK1 hG1=> ?_
 have J1: ∀l1,tA N l1=some r→K1 (aD 97 [(2,(.ptr 0 0)),(3,(.ptr 1 0))]) [some ⟨188,(aYX 64 0).map (eI .u32)⟩,some ⟨188,l1.map (eI .u32)⟩]:=by
  intro l1 hr
  unfold tA at hr
  refine hK1 ?_
  refine aY1 fun K2 hK2 hG2=> ?_
  have J2: ∀b5,sW N b5=some r→K2 (aD 97 [(2,(.ptr 0 0)),(3,(.ptr 1 0))]) [some ⟨188,(aYX 64 0).map (eI .u32)⟩,some ⟨188,b5.map (eI .u32)⟩]:=by
   intro b5 hr
   unfold sW at hr
   refine hK2 ?_
   obtain⟨q,h_1,hr⟩:=aA hr
   refine zz ?_
   obtain rfl:=sj hr
   exact gL Tryz.results144 aY (zG [])
  obtain⟨jT,hL3,hr⟩:=aA hr
  refine zz ?_
  refine aYY<|aY3 (fun m s h=> ∃vi cN,lX N m vi cN=some jT∧Ghost 0 s h (aD 97 [(2,(.ptr 0 0)),(3,(.ptr 1 0)),(5,(eI .i64 vi))]) [some ⟨188,(aYX 64 0).map (eI .u32)⟩,some ⟨188,cN.map (eI .u32)⟩]) ⟨16,l1,hL3,(zG [0,1])⟩ ?_
  rintro m3 s h ⟨vi,cN,hr3,hg⟩
  refine aY2 hg ?_
  clear hg hL3
  rw[lX]at hr3
  refine aY0<|zz ?_
  refine zk hr3 ?_ ?_<;>intro h2 hr3
  ·refine zz ?_
   refine aY0<|aYY<|aY0 ?_
   obtain⟨x49,h_3,hr3⟩:=aA hr3
   obtain⟨x51,h_4,hr3⟩:=aA hr3
   obtain⟨x56,h_6,hr3⟩:=aA hr3
   obtain⟨x62,h_8,hr3⟩:=aA hr3
   refine aY6 mixed [146] [] [[0,1,2,3,4,5,6,7,8,9,10,11,12,13,14,15,16,17]]<|zz ?_
   refine xu (iR h_4) ?_
   refine zz ?_
   refine xu (iR h_6) ?_
   refine zz ?_
   refine aY0 ?_
   obtain⟨x66,h_9,hr3⟩:=aA hr3
   obtain⟨x68,h_10,hr3⟩:=aA hr3
   obtain⟨x73,h_12,hr3⟩:=aA hr3
   obtain⟨x79,h_14,hr3⟩:=aA hr3
   refine aY6 mixed [146] [] [[0,1,2,3,4,5,6,7,8,9,10,11,12,13,14,15,16,17]]<|zz ?_
   refine xu (iR h_10) ?_
   refine zz ?_
   refine xu (iR h_12) ?_
   obtain⟨x84,h_15,hr3⟩:=aA hr3
   obtain⟨x90,h_16,hr3⟩:=aA hr3
   obtain⟨x95,h_17,hr3⟩:=aA hr3
   refine zz ?_
   refine aY6 mixed [] [] [[0,1,2,3,4,5,6,7,8,9,10,11,12,13,14,15]]<|zz ?_
   exact⟨aYW.wrap (vi+1),cN.set (aY5 vi) (aYZ.wrap ((aYZ.wrap ((aYZ.wrap (x84+(bits .xor .u32 (bits .xor .u32 x51 x56) x62)))+x90))+(bits .xor .u32 (bits .xor .u32 x68 x73) x79))),hr3,(zG [0,1])⟩
  refine zz ?_
  obtain rfl:=sj hr3
  refine zz ?_
  exact hG2 (zG [0,1]) (J2 cN hr)
 obtain⟨res4,hL4,hr⟩:=aA hr
 refine zz ?_
 refine aYY<|aY3 (fun m s h=> ∃fS l2,g9 N block m fS l2=some res4∧Ghost 0 s h (aD 97 [(1,(.ptr 0 0)),(2,(.ptr 1 0)),(3,(.ptr 2 0)),(4,(eI .i64 fS))]) [some ⟨162,block.map (eI .u8)⟩,some ⟨188,(aYX 64 0).map (eI .u32)⟩,some ⟨188,l2.map (eI .u32)⟩]) ⟨0,aYX 64 0,hL4,(zG [0,1,2])⟩ ?_
 rintro m4 s h ⟨fS,l2,hr4,hg⟩
 refine aY2 hg ?_
 clear hg hL4
 rw[g9]at hr4
 refine aY0<|zz ?_
 refine zk hr4 ?_ ?_<;>intro h18 hr4
 ·refine zz ?_
  refine aY0<|aYY ?_
  obtain⟨x15,h_19,hr4⟩:=aA hr4
  obtain⟨x18,h_20,hr4⟩:=aA hr4
  obtain⟨bW,h_21,hr4⟩:=aA hr4
  obtain⟨x25,h_22,hr4⟩:=aA hr4
  obtain⟨fA,h_23,hr4⟩:=aA hr4
  obtain⟨nY,h_24,hr4⟩:=aA hr4
  obtain⟨x38,h_25,hr4⟩:=aA hr4
  obtain⟨x42,h_26,hr4⟩:=aA hr4
  refine aY6 mixed [] [] [[0,1,2,3,4,5,6,7,8,9,10,11,12,13,14,15,16,17,18,19,20,21,22,23,24,25,26,27,28,29,30,31]]<|zz ?_
  exact⟨aYW.wrap (fS+1),l2.set (aY5 fS) (bits .or .u32 (bits .or .u32 (bits .or .u32 x18 x25) nY) (aYZ.wrap x38)),hr4,(zG [0,1,2])⟩
 refine zz ?_
 obtain rfl:=sj hr4
 refine zz ?_
 exact hG1 (zG [1,2]) (J1 l2 hr)
theorem aHD {N r} (hr:wF N=some r):
  Vm.Fn Tryz.prog 145 [] [] (.agg (r.map (eI .u32))) []:=by
 refine zf Tryz.func145 Tryz.ntmps145 ?_
 unfold wF at hr
 refine zz ?_
 refine xw (v:=(.agg ([1116352408,1899447441,3049323471,3921009573,961987163,1508970993,2453635748,2870763221,3624381080,310598401,607225278,1426881987,1925078388,2162078206,2614888103,3248222580,3835390401,4022224774,264347078,604807628,770255983,1249150122,1555081692,1996064986,2554220882,2821834349,2952996808,3210313671,3336571891,3584528711,113926993,338241895,666307205,773529912,1294757372,1396182291,1695183700,1986661051,2177026350,2456956037,2730485921,2820302411,3259730800,3345764771,3516065817,3600352804,4094571909,275423344,430227734,506948616,659060556,883997877,958139571,1322822218,1537002063,1747873779,1955562222,2024104815,2227730452,2361852424,2428436474,2756734187,3204031479,3329325298].map (eI .u32)))) (bV rfl (oT aMH lH rfl)) ?_
 refine zz ?_
 obtain rfl:=sj hr
 exact gL Tryz.results145 aY (zG [])
theorem aH7 {N cP block r} (hr:qB N cP block=some r):
  Vm.Fn Tryz.prog 113 [] [(.agg (cP.map (eI .u32))),(.agg (block.map (eI .u8)))] (.agg (r.map (eI .u32))) []:=by
 refine zf Tryz.func113 Tryz.ntmps113 ?_
 unfold qB at hr
 obtain⟨q,h_1,hr⟩:=aA hr
 obtain⟨x19,h_2,hr⟩:=aA hr
 obtain⟨b6,h_3,hr⟩:=aA hr
 obtain⟨q_1,h_4,hr⟩:=aA hr
 obtain⟨q_2,h_5,hr⟩:=aA hr
 refine zz ?_
 refine xp (aIa h_2)<|xp (aHD h_3) ?_
 refine zz ?_
 refine aY0 ?_
 obtain⟨cW,h_6,hr⟩:=aA hr
 obtain⟨eQ,h_7,hr⟩:=aA hr
 obtain⟨x25,h_8,hr⟩:=aA hr
 obtain⟨x27,h_9,hr⟩:=aA hr
 obtain⟨x29,h_10,hr⟩:=aA hr
 obtain⟨cO,h_11,hr⟩:=aA hr
 obtain⟨nY,h_12,hr⟩:=aA hr
 obtain⟨x35,h_13,hr⟩:=aA hr
 refine aY6 mixed [] [] [[0,1,2,3,4,5,6,7,8,9,10,11,12,13,14,15,16,17,18,19,20,21,22,23]]<|zz ?_
 refine aY1 fun K1 hK1 hG1=> ?_
 have J1: ∀va b c d ve f g vh,tC N cP va b c d ve f g vh=some r→K1 (aD 133 [(2,(.ptr 0 0)),(4,(.ptr 1 0)),(7,(eI .u32 va)),(8,(eI .u32 b)),(9,(eI .u32 c)),(10,(eI .u32 d)),(11,(eI .u32 ve)),(12,(eI .u32 f)),(13,(eI .u32 g)),(14,(eI .u32 vh))]) [some ⟨160,cP.map (eI .u32)⟩,some ⟨160,(aYX 8 0).map (eI .u32)⟩]:=by
  intro va b c d ve f g vh hr
  unfold tC at hr
  refine hK1 ?_
  obtain⟨aTs,h_14,hr⟩:=aA hr
  obtain⟨yJ,h_15,hr⟩:=aA hr
  obtain⟨aTu,h_16,hr⟩:=aA hr
  obtain⟨aSz,h_17,hr⟩:=aA hr
  obtain⟨aSm,h_18,hr⟩:=aA hr
  obtain⟨aSX,h_19,hr⟩:=aA hr
  obtain⟨aK0,h_20,hr⟩:=aA hr
  obtain⟨aSF,h_21,hr⟩:=aA hr
  refine zz ?_
  refine xw (v:=(.agg ([aYZ.wrap (aTs+va),aYZ.wrap (yJ+b),aYZ.wrap (aTu+c),aYZ.wrap (aSz+d),aYZ.wrap (aSm+ve),aYZ.wrap (aSX+f),aYZ.wrap (aK0+g),aYZ.wrap (aSF+vh)].map (eI .u32)))) (bV rfl (oT aFR lH rfl)) ?_
  refine zz ?_
  obtain rfl:=sj hr
  exact gL Tryz.results113 aY (zG [])
 obtain⟨bB,hL2,hr⟩:=aA hr
 refine zz ?_
 refine aYY<|aY3 (fun m s h=> ∃va_1 b_1 c_1 d_1 ve_1 f_1 g_1 vh_1 vi,lY N cP x19 b6 m va_1 b_1 c_1 d_1 ve_1 f_1 g_1 vh_1 vi=some bB∧Ghost 0 s h (aD 133 [(2,(.ptr 0 0)),(4,(.ptr 1 0)),(5,(.ptr 2 0)),(6,(.ptr 3 0)),(7,(eI .u32 va_1)),(8,(eI .u32 b_1)),(9,(eI .u32 c_1)),(10,(eI .u32 d_1)),(11,(eI .u32 ve_1)),(12,(eI .u32 f_1)),(13,(eI .u32 g_1)),(14,(eI .u32 vh_1)),(15,(eI .i64 vi))]) [some ⟨160,cP.map (eI .u32)⟩,some ⟨160,(aYX 8 0).map (eI .u32)⟩,some ⟨188,x19.map (eI .u32)⟩,some ⟨188,b6.map (eI .u32)⟩]) ⟨cW,eQ,x25,x27,x29,cO,nY,x35,0,hL2,(zG [0,2,3,4])⟩ ?_
 rintro m2 s h ⟨va_1,b_1,c_1,d_1,ve_1,f_1,g_1,vh_1,vi,hr2,hg⟩
 refine aY2 hg ?_
 clear hg hL2
 rw[lY]at hr2
 refine aY0<|zz ?_
 refine zk hr2 ?_ ?_<;>intro h22 hr2
 ·refine zz ?_
  refine aY0<|aYY<|aY0 ?_
  obtain⟨x43,h_23,hr2⟩:=aA hr2
  obtain⟨x45,h_25,hr2⟩:=aA hr2
  obtain⟨x48,h_27,hr2⟩:=aA hr2
  obtain⟨x61,h_29,hr2⟩:=aA hr2
  obtain⟨x65,h_30,hr2⟩:=aA hr2
  refine aY6 mixed [146] [] [[0,1,2,3,4,5,6,7,8,9,10,11,12,13,14,15,16,17,18,19,20,21,22,23,24,25,26,27]]<|zz ?_
  refine xu (iR h_23) ?_
  refine zz ?_
  refine xu (iR h_25) ?_
  refine zz ?_
  refine xu (iR h_27) ?_
  refine zz ?_
  refine xw (v:=(eI .u32 (bits .xor .u32 (aY7 .u32) ve_1))) (aEZ rfl (aDQ rfl _)) ?_
  obtain⟨x69,h_31,hr2⟩:=aA hr2
  obtain⟨x71,h_32,hr2⟩:=aA hr2
  obtain⟨x74,h_33,hr2⟩:=aA hr2
  refine zz ?_
  refine xp (iR h_31) ?_
  refine zz ?_
  refine xp (iR h_32) ?_
  refine zz ?_
  refine xp (iR h_33) ?_
  refine zz ?_
  exact⟨aYZ.wrap ((aYZ.wrap ((aYZ.wrap ((aYZ.wrap ((aYZ.wrap (vh_1+(bits .xor .u32 (bits .xor .u32 x43 x45) x48)))+(bits .xor .u32 (bits .and .u32 ve_1 f_1) (bits .and .u32 (bits .xor .u32 (aY7 .u32) ve_1) g_1))))+x61))+x65))+(aYZ.wrap ((bits .xor .u32 (bits .xor .u32 x69 x71) x74)+(bits .xor .u32 (bits .xor .u32 (bits .and .u32 va_1 b_1) (bits .and .u32 va_1 c_1)) (bits .and .u32 b_1 c_1))))),va_1,b_1,c_1,aYZ.wrap (d_1+(aYZ.wrap ((aYZ.wrap ((aYZ.wrap ((aYZ.wrap (vh_1+(bits .xor .u32 (bits .xor .u32 x43 x45) x48)))+(bits .xor .u32 (bits .and .u32 ve_1 f_1) (bits .and .u32 (bits .xor .u32 (aY7 .u32) ve_1) g_1))))+x61))+x65))),ve_1,f_1,g_1,aYW.wrap (vi+1),hr2,(zG [0,1,2,3])⟩
 refine zz ?_
 obtain rfl:=sj hr2
 refine zz ?_
 exact hG1 (zG [0,1]) (J1 va_1 b_1 c_1 d_1 ve_1 f_1 g_1 vh_1 hr)
theorem lT {N b r} (hr:kQ N b=some r):
  Vm.Fn Tryz.prog 73 [] [(.row none 1 (b.map (eI .u8)))] (.agg (r.map (eI .u8))) []:=by
 refine zf Tryz.func73 Tryz.ntmps73 ?_
 unfold kQ at hr
 obtain⟨b8,h_1,hr⟩:=aA hr
 obtain⟨x15,h_2,hr⟩:=aA hr
 obtain⟨x16,h_3,hr⟩:=aA hr
 refine zz ?_
 refine zc (aN3 h_2) [] ?_
 obtain⟨x17,h_4,hr⟩:=aA hr
 obtain⟨q,h_5,hr⟩:=aA hr
 refine zz ?_
 refine xp (aIm h_4) ?_
 refine zz ?_
 refine aY1 fun K1 hK1 hG1=> ?_
 have J1: ∀l1,aBl N l1=some r→K1 (aD 66 [(2,(.ptr 0 0)),(4,(.ptr 1 0))]) [some ⟨24,(aYX 32 0).map (eI .u8)⟩,some ⟨160,l1.map (eI .u32)⟩]:=by
  intro l1 hr
  unfold aBl at hr
  refine hK1<|zz ?_
  refine aY1 fun K2 hK2 hG2=> ?_
  have J2: ∀b5,aBD N b5=some r→K2 (aD 66 [(2,(.ptr 0 0)),(7,(.ptr 1 0))]) [some ⟨24,(aYX 32 0).map (eI .u8)⟩,some ⟨24,b5.map (eI .u8)⟩]:=by
   intro b5 hr
   unfold aBD at hr
   refine hK2 ?_
   obtain⟨q_1,h_6,hr⟩:=aA hr
   refine zz ?_
   obtain rfl:=sj hr
   exact gL Tryz.results73 aY (zG [])
  obtain⟨q_2,h_7,hr⟩:=aA hr
  obtain⟨jT,hL3,hr⟩:=aA hr
  refine zz ?_
  refine aYY<|aY3 (fun m s h=> ∃fB cN,tQ N l1 m fB cN=some jT∧Ghost 0 s h (aD 66 [(2,(.ptr 0 0)),(7,(.ptr 1 0)),(33,(.agg (l1.map (eI .u32)))),(34,(eI .i64 fB))]) [some ⟨24,(aYX 32 0).map (eI .u8)⟩,some ⟨24,cN.map (eI .u8)⟩]) ⟨0,aYX 32 0,hL3,(zG [0,2])⟩ ?_
  rintro m3 s h ⟨fB,cN,hr3,hg⟩
  refine aY2 hg ?_
  clear hg hL3
  rw[tQ]at hr3
  refine zz ?_
  refine aY0 ?_
  refine zk hr3 ?_ ?_<;>intro h8 hr3
  ·refine zz ?_
   refine aY0<|aYY ?_
   obtain⟨x37,h_9,hr3⟩:=aA hr3
   refine zz ?_
   refine xw (v:=(eI .u32 x37)) (aV9 rfl rfl (ixA (E:=(eI .u32)) aFR lH rfl rfl h_9)) ?_
   obtain⟨x50,h_10,hr3⟩:=aA hr3
   obtain⟨x53,h_11,hr3⟩:=aA hr3
   obtain⟨x56,h_12,hr3⟩:=aA hr3
   obtain⟨x60,h_13,hr3⟩:=aA hr3
   obtain⟨x61,h_14,hr3⟩:=aA hr3
   obtain⟨x62,h_15,hr3⟩:=aA hr3
   obtain⟨x63,h_16,hr3⟩:=aA hr3
   refine zz ?_
   exact⟨aYW.wrap (fB+1),(((cN.set (aY5 (aYW.wrap (4*fB))) (aZa.wrap x50)).set (aY5 (aYW.wrap ((aYW.wrap (4*fB))+1))) (aZa.wrap x53)).set (aY5 (aYW.wrap ((aYW.wrap (4*fB))+2))) (aZa.wrap x56)).set (aY5 (aYW.wrap ((aYW.wrap (4*fB))+3))) (aZa.wrap x37),hr3,(zG [0,1])⟩
  refine zz ?_
  obtain rfl:=sj hr3
  refine zz ?_
  exact hG2 (zG [0,1]) (J2 cN hr)
 refine zz ?_
 refine aY2 (zv 4) ?_
 obtain⟨res4,hL4,hr⟩:=aA hr
 refine aYY<|aY3 (fun m s h=> ∃vi l1_3,tL N x16 m vi l1_3=some res4∧Ghost 0 s h (aD 66 [(2,(.ptr 0 0)),(3,(.row none 1 (x16.map (eI .u8)))),(4,(.ptr 1 0)),(5,(eI .i64 vi))]) [some ⟨24,(aYX 32 0).map (eI .u8)⟩,some ⟨160,l1_3.map (eI .u32)⟩]) ⟨0,x17,hL4,(zG [0,5])⟩ ?_
 rintro m4 s h ⟨vi,l1_3,hr4,hg⟩
 refine aY2 hg ?_
 clear hg hL4
 rw[tL]at hr4
 refine aY0<|zz ?_
 refine zk hr4 ?_ ?_<;>intro h17 hr4
 ·refine zz ?_
  refine aY0<|aYY ?_
  refine zz ?_
  refine aY0 ?_
  obtain⟨x28,h_18,hr4⟩:=aA hr4
  refine aY6 mixed [] [] [[0,1,2,3,4]]<|zz ?_
  refine xw (v:=(eI .i64 ((min x28.length (aYX 64 0).length:Nat):Int))) (h':=[some ⟨24,(aYX 32 0).map (eI .u8)⟩,some ⟨160,l1_3.map (eI .u32)⟩,some ⟨162,(cpy (aYX 64 0) x28).map (eI .u8)⟩]) (aNZ rfl rfl (aTb (E:=(eI .u8)) (l:=aYX 64 0) rfl z4 sP rfl rfl (aK3 (fun _=>rfl)) rfl)) ?_
  obtain⟨q_3,h_19,hr4⟩:=aA hr4
  obtain⟨q_4,h_20,hr4⟩:=aA hr4
  obtain⟨g6,h_21,hr4⟩:=aA hr4
  obtain⟨q_5,h_22,hr4⟩:=aA hr4
  refine zz ?_
  refine xp (aH7 h_21) ?_
  refine zz ?_
  exact⟨aYW.wrap (vi+64),g6,hr4,(zG [0,1])⟩
 refine zz ?_
 obtain rfl:=sj hr4
 refine zz ?_
 exact hG1 (zG [0,1]) (J1 l1_3 hr)
theorem aBa {N b r} (hr:qR N b=some r):
  Vm.Fn Tryz.prog 44 [] [(.row none 1 (b.map (eI .u8)))] (.agg (r.map (eI .u8))) []:=by
 refine zf Tryz.func44 Tryz.ntmps44 ?_
 unfold qR at hr
 obtain⟨x5,h_1,hr⟩:=aA hr
 obtain⟨q,h_2,hr⟩:=aA hr
 refine zz ?_
 refine xp (lT h_1) ?_
 obtain⟨x7,h_3,hr⟩:=aA hr
 obtain⟨q_1,h_4,hr⟩:=aA hr
 refine zz ?_
 refine gV (lT h_3) [] [1] ?_
 refine zz ?_
 obtain rfl:=sj hr
 exact gL Tryz.results44 aY (zG [])
theorem vE {N vh r} (hr:nJ N vh=some r):
  Vm.Fn Tryz.prog 25 [] [(qM vh)] (.agg (r.map (eI .u8))) []:=by
 refine zf Tryz.func25 Tryz.ntmps25 ?_
 unfold nJ at hr
 obtain⟨x4,h_1,hr⟩:=aA hr
 obtain⟨x5,h_2,hr⟩:=aA hr
 obtain⟨q,h_3,hr⟩:=aA hr
 refine zz ?_
 refine zc (aAW h_1) [] ?_
 refine gV (aBa h_2) [] [2] ?_
 refine zz ?_
 obtain rfl:=sj hr
 exact gL Tryz.results25 aY (zG [])
theorem aFh {N p r} (hr:sH N p=some r):
  Vm.Fn Tryz.prog 8 [] [(cY p)] (.tup [(dO r.1),(eI .i64 r.2)]) []:=by
 refine zf Tryz.func8 Tryz.ntmps8 ?_
 unfold sH at hr
 refine zz ?_
 refine aY0 ?_
 obtain⟨x5,h_1,hr⟩:=aA hr
 refine zz ?_
 refine xp (dS h_1) ?_
 refine zz ?_
 refine zk hr ?_ ?_<;>intro h2 hr
 ·refine zz ?_
  refine xw (v:=(.agg ((eI .i64 0)::(aK (eI .u8) (aYX 32 0) [(.row (some true) 1 [])])))) (bV rfl (iZ uV aB8 rfl)) ?_
  refine zz ?_
  obtain rfl:=sj hr
  exact kS Tryz.results8 aY aY (gF [])
 obtain⟨bQ,h_3,hr⟩:=aA hr
 obtain⟨q,h_4,hr⟩:=aA hr
 refine zz ?_
 refine xp (vE h_3)<|xw (v:=(.agg ((eI .i64 0)::(aK (eI .u8) bQ [(.row (some true) 1 [])])))) (bV rfl (aE0 (ps':=[(1,(.agg (aK (eI .u8) bQ [])))]) (by simp only[gO (l:=bQ) (bP h_4)]<;>rfl) (iZ uV aB8 (by kernel_rfl)))) ?_
 refine zz ?_
 obtain rfl:=sj hr
 exact kS Tryz.results8 aY aY (gF [])
theorem aGJ {N va b r} (hr:zC N va b=some r):
  Vm.Fn Tryz.prog 116 [] [(.row none 1 (va.map (eI .u8))),(.row none 1 (b.map (eI .u8)))] (eB r) []:=by
 refine zf Tryz.func116 Tryz.ntmps116 ?_
 unfold zC at hr
 refine zz ?_
 refine xw (v:=(eS (zS va))) (aNO rfl (aTz z4 ti9 sP (aK3 (fun _=>rfl)))) ?_
 refine zz ?_
 refine xw (v:=(eS (zS b))) (aNO rfl (aTz z4 ti9 sP (aK3 (fun _=>rfl))))<|xw (jF rfl rfl (aS7 ..)) ?_
 refine zz ?_
 obtain rfl:=sj hr
 exact aX Tryz.results116 []
theorem aAI {N va b r} (hr:aDt N va b=some r):
  Vm.Fn Tryz.prog 76 [] [(eR va),(eR b)] (eB r) []:=by
 refine zf Tryz.func76 Tryz.ntmps76 ?_
 unfold aDt at hr
 refine zz ?_
 refine aY1 fun K1 hK1 hG1=> ?_
 have J1: ∀x4,uW N x4=some r→K1 (aD 17 [(4,(eB x4))]) []:=by
  intro x4 hr
  unfold uW at hr
  refine hK1<|zz ?_
  obtain rfl:=sj hr
  exact aX Tryz.results76 []
 rcases aYV (va.Value == b.Value)with h1|h1
 ·replace hr:=bY hr h1
  obtain⟨x15,h_2,hr⟩:=aA hr
  refine xr<|zz ?_
  refine xCg (v:=(eB x15)) (h':=[some ⟨57,dM va⟩,some ⟨57,dM b⟩]) rfl rfl h1 rfl (Vm.Fn.pure (aGJ h_2) rfl rfl) ?_
  refine zz ?_
  exact hG1 (zG []) (J1 x15 hr)
 replace hr:=bX hr h1
 refine xr<|zz ?_
 exact hG1 (zG []) (J1 false hr)
theorem aH5 {N va b r} (hr:aCi N va b=some r):
  Vm.Fn Tryz.prog 46 [] [(aR va),(aR b)] (eB r) []:=by
 refine zf Tryz.func46 Tryz.ntmps46 ?_
 unfold aCi at hr
 refine zz ?_
 refine aY1 fun K1 hK1 hG1=> ?_
 have J1: ∀x4,lU N x4=some r→K1 (aD 31 [(4,(eB x4))]) []:=by
  intro x4 hr
  unfold lU at hr
  refine hK1<|zz ?_
  obtain rfl:=sj hr
  exact aX Tryz.results46 []
 rcases aYV (sX va.Out.Tx b.Out.Tx ((va.Out.Index == b.Out.Index)&&true))with h1|h1
 ·replace hr:=bY hr h1
  obtain⟨x15,h_2,hr⟩:=aA hr
  rcases aYV x15 with h3|h3
  ·replace hr:=bY hr h3
   rcases aYV (va.Height == b.Height)with h4|h4
   ·replace hr:=bY hr h4
    refine xr<|zz ?_
    refine xw (jF rfl rfl (yO (d:=9) rB rfl aE2 zl aEX rfl rfl rfl rfl rfl)) ?_
    refine zz ?_
    refine xCg (v:=(eB x15)) (h':=[some ⟨59,aQ va⟩,some ⟨59,aQ b⟩]) rfl rfl h1 rfl (Vm.Fn.pure (aAI h_2) rfl rfl) ?_
    refine zz ?_
    refine xSg rfl rfl h4 (jF rfl rfl (aSi _ _ ti4 ..)) ?_
    refine zz ?_
    exact hG1 (zG []) (J1 (va.Coinbase == b.Coinbase) hr)
   replace hr:=bX hr h4
   refine xr<|zz ?_
   refine xw (jF rfl rfl (yO (d:=9) rB rfl aE2 zl aEX rfl rfl rfl rfl rfl)) ?_
   refine zz ?_
   refine xCg (v:=(eB x15)) (h':=[some ⟨59,aQ va⟩,some ⟨59,aQ b⟩]) rfl rfl h1 rfl (Vm.Fn.pure (aAI h_2) rfl rfl) ?_
   refine zz ?_
   exact hG1 (zG []) (J1 false hr)
  replace hr:=bX hr h3
  refine xr<|zz ?_
  refine xw (jF rfl rfl (yO (d:=9) rB rfl aE2 zl aEX rfl rfl rfl rfl rfl)) ?_
  refine zz ?_
  refine xCg (v:=(eB x15)) (h':=[some ⟨59,aQ va⟩,some ⟨59,aQ b⟩]) rfl rfl h1 rfl (Vm.Fn.pure (aAI h_2) rfl rfl) ?_
  refine zz ?_
  refine xX rfl<|xX rfl<|xX rfl<|xX rfl<|xX rfl ?_
  refine zz ?_
  exact hG1 (zG []) (J1 false hr)
 replace hr:=bX hr h1
 refine xr<|zz ?_
 refine xw (jF rfl rfl (yO (d:=9) rB rfl aE2 zl aEX rfl rfl rfl rfl rfl)) ?_
 refine zz ?_
 refine xX rfl<|xX rfl<|xX rfl<|xX rfl<|xX rfl ?_
 refine zz ?_
 refine xX rfl<|xX rfl<|xX rfl<|xX rfl<|xX rfl ?_
 refine zz ?_
 exact hG1 (zG []) (J1 false hr)
theorem aHm {N va b r} (hr:aA9 N va b=some r):
  Vm.Fn Tryz.prog 26 [] [(.row none 37 (va.map aR)),(.row none 37 (b.map aR))] (eB r) []:=by
 refine zf Tryz.func26 Tryz.ntmps26 ?_
 unfold aA9 at hr
 refine zz ?_
 refine aY0<|zz ?_
 refine zk hr ?_ ?_<;>intro h1 hr
 ·refine zz ?_
  obtain rfl:=sj hr
  exact aX Tryz.results26 []
 refine zz ?_
 refine aY1 fun K1 hK1 hG1=> ?_
 have J1:yG N=some r→K1 (aD 27 []) []:=by
  intro hr
  unfold yG at hr
  refine hK1<|zz ?_
  obtain rfl:=sj hr
  exact aX Tryz.results26 []
 obtain⟨bB,hL2,hr⟩:=aA hr
 refine zz ?_
 refine aYY<|aY3 (fun m s h=> ∃cB,sD N va b m cB=some bB∧Ghost 0 s h (aD 27 [(0,(.row none 37 (va.map aR))),(1,(.row none 37 (b.map aR))),(12,(eI .i64 (va.length:Int))),(13,(eI .i64 cB))]) []) ⟨0,hL2,(zG [])⟩ ?_
 rintro m2 s h ⟨cB,hr2,hg⟩
 refine aY2 hg ?_
 clear hg hL2
 rw[sD]at hr2
 refine zz ?_
 refine aY0 ?_
 refine zk hr2 ?_ ?_<;>intro h2 hr2
 ·refine zz ?_
  refine aY0<|aYY ?_
  refine zz ?_
  refine aY0 ?_
  obtain⟨x18,h_3,hr2⟩:=aA hr2
  obtain⟨bW,h_4,hr2⟩:=aA hr2
  obtain⟨dL,h_5,hr2⟩:=aA hr2
  refine aY6 mixed [46] [] [[0,1,2,3,4,5,6,7,8,9]]<|zz ?_
  refine xu (aH5 h_5) ?_
  refine zz ?_
  refine zk hr2 ?_ ?_<;>intro h7 hr2
  ·refine zz ?_
   obtain rfl:=sj hr2
   obtain rfl:=sj hr
   exact aX Tryz.results26 []
  refine zz ?_
  exact⟨aYW.wrap (cB+1),hr2,(zG [])⟩
 refine zz ?_
 obtain rfl:=sj hr2
 refine zz ?_
 exact hG1 (zG []) (J1 hr)
theorem aAt {N va b r} (hr:aBV N va b=some r):
  Vm.Fn Tryz.prog 9 [] [(dO va),(dO b)] (eB r) []:=by
 refine zf Tryz.func9 Tryz.ntmps9 ?_
 unfold aBV at hr
 refine zz ?_
 refine aY1 fun K1 hK1 hG1=> ?_
 have J1: ∀x4,vA N x4=some r→K1 (aD 24 [(4,(eB x4))]) []:=by
  intro x4 hr
  unfold vA at hr
  refine hK1<|zz ?_
  obtain rfl:=sj hr
  exact aX Tryz.results9 []
 rcases aYV (va.Height == b.Height)with h1|h1
 ·replace hr:=bY hr h1
  obtain⟨q,h_2,hr⟩:=aA hr
  obtain⟨q_1,h_3,hr⟩:=aA hr
  rcases aYV (va.Tip == b.Tip)with h4|h4
  ·replace hr:=bY hr h4
   obtain⟨bW,h_5,hr⟩:=aA hr
   refine xr<|zz ?_
   refine xCg (v:=(eB bW)) (h':=[some ⟨35,aN va⟩,some ⟨35,aN b⟩]) rfl rfl h4 rfl (Vm.Fn.pure (aHm h_5) rfl rfl) ?_
   refine zz ?_
   exact hG1 (zG []) (J1 bW hr)
  replace hr:=bX hr h4
  refine xr<|zz ?_
  exact hG1 (zG []) (J1 false hr)
 replace hr:=bX hr h1
 refine xr<|zz ?_
 refine xX rfl<|xX rfl<|xX rfl<|xX rfl<|xX rfl ?_
 refine zz ?_
 exact hG1 (zG []) (J1 false hr)
theorem aHF {N:Nat}{a b:List Int}{r:Int}(hr:aA7 N a b=some r):Vm.Fn Tryz.prog 77 [] [(.row none 1 (a.map (eI .u8))),(.row none 1 (b.map (eI .u8)))] (eI .i64 r) []:=by
 obtain rfl:=Option.some.inj hr
 exact aVo Tryz.func77 (by kernel_rfl) (by kernel_rfl) (by kernel_rfl) (by kernel_rfl) a b
theorem aIx {N va b r} (hr:aAC N va b=some r):
  Vm.Fn Tryz.prog 48 [] [(.row none 1 (va.map (eI .u8))),(.row none 1 (b.map (eI .u8)))] (eI .i64 r) []:=by
 refine zf Tryz.func48 Tryz.ntmps48 ?_
 unfold aAC at hr
 obtain⟨x7,h_1,hr⟩:=aA hr
 refine zz ?_
 refine xp (aHF h_1) ?_
 refine zz ?_
 obtain rfl:=sj hr
 exact aX Tryz.results48 []
theorem aCe {N x r} (hr:qT N x=some r):
  Vm.Fn Tryz.prog 78 [] [(eI .u32 x)] (eB r) []:=by
 refine zf Tryz.func78 Tryz.ntmps78 ?_
 unfold qT at hr
 refine zz ?_
 obtain rfl:=sj hr
 exact aX Tryz.results78 []
theorem aFs {N x y r} (hr:sC N x y=some r):
  Vm.Fn Tryz.prog 49 [] [(eI .u32 x),(eI .u32 y)] (eI .i64 r) []:=by
 refine zf Tryz.func49 Tryz.ntmps49 ?_
 unfold sC at hr
 obtain⟨x8,h_1,hr⟩:=aA hr
 refine zz ?_
 refine xp (aCe h_1) ?_
 obtain⟨bQ,h_2,hr⟩:=aA hr
 refine zz ?_
 refine xp (aCe h_2) ?_
 refine zz ?_
 refine aY0<|zz ?_
 refine zk hr ?_ ?_<;>intro h3 hr
 ·refine aY0<|zz ?_
  refine zk hr ?_ ?_<;>intro h4 hr
  ·refine zz ?_
   obtain rfl:=sj hr
   exact aX Tryz.results49 []
  refine zz ?_
  obtain rfl:=sj hr
  exact aX Tryz.results49 []
 refine zz ?_
 refine aY0<|zz ?_
 refine zk hr ?_ ?_<;>intro h5 hr
 ·refine zz ?_
  obtain rfl:=sj hr
  exact aX Tryz.results49 []
 refine zz ?_
 refine aY0<|zz ?_
 refine zk hr ?_ ?_<;>intro h6 hr
 ·refine zz ?_
  obtain rfl:=sj hr
  exact aX Tryz.results49 []
 refine zz ?_
 refine aY0<|zz ?_
 refine zk hr ?_ ?_<;>intro h7 hr
 ·refine zz ?_
  obtain rfl:=sj hr
  exact aX Tryz.results49 []
 refine zz ?_
 obtain rfl:=sj hr
 exact aX Tryz.results49 []
theorem aMd {N aDi r} (hr:aBI N aDi=some r):
  Vm.Fn Tryz.prog 47 [] [(.row none 1 (aDi.map (eI .i64)))] (eI .i64 r) []:=by
 refine zf Tryz.func47 Tryz.ntmps47 ?_
 unfold aBI at hr
 refine zz ?_
 refine aY1 fun K1 hK1 hG1=> ?_
 have J1:aAw N=some r→K1 (aD 18 [(3,(eI .i64 0))]) []:=by
  intro hr
  unfold aAw at hr
  refine hK1<|zz ?_
  obtain rfl:=sj hr
  exact aX Tryz.results47 []
 obtain⟨bB,hL2,hr⟩:=aA hr
 refine zz ?_
 refine aYY<|aY3 (fun m s h=> ∃x8,o4 N aDi m x8=some bB∧Ghost 0 s h (aD 18 [(3,(eI .i64 0)),(6,(.row none 1 (aDi.map (eI .i64)))),(7,(eI .i64 (aDi.length:Int))),(8,(eI .i64 x8))]) []) ⟨0,hL2,(zG [])⟩ ?_
 rintro m2 s h ⟨x8,hr2,hg⟩
 refine aY2 hg ?_
 clear hg hL2
 rw[o4]at hr2
 refine zz ?_
 refine aY0 ?_
 refine zk hr2 ?_ ?_<;>intro h1 hr2
 ·refine zz ?_
  refine aY0<|aYY ?_
  obtain⟨bQ,h_2,hr2⟩:=aA hr2
  refine zz ?_
  refine zk hr2 ?_ ?_<;>intro h3 hr2
  ·refine zz ?_
   obtain rfl:=sj hr2
   obtain rfl:=sj hr
   exact aX Tryz.results47 []
  refine zz ?_
  exact⟨aYW.wrap (x8+1),hr2,(zG [])⟩
 refine zz ?_
 obtain rfl:=sj hr2
 refine zz ?_
 exact hG1 (zG []) (J1 hr)
theorem aGw {N va b r} (hr:zT N va b=some r):
  Vm.Fn Tryz.prog 27 [] [(cG va),(cG b)] (eI .i64 r) []:=by
 refine zf Tryz.func27 Tryz.ntmps27 ?_
 unfold zT at hr
 refine zz ?_
 refine aY0<|aY2 (o6 [0,1])<|aY2 (o6 [0,0]) ?_
 obtain⟨q,h_1,hr⟩:=aA hr
 obtain⟨q_1,h_2,hr⟩:=aA hr
 obtain⟨x9,h_3,hr⟩:=aA hr
 obtain⟨bZ,h_5,hr⟩:=aA hr
 obtain⟨x16,h_7,hr⟩:=aA hr
 refine aY6 mixed [48,49] [47] [[0,1,2,3,4,5,6,7,8,9,10,11,12]]<|zz ?_
 refine xw (v:=(.row none 1 (va.Tx.map (eI .u8)))) (vO rfl rfl rfl (aRI (E:=(eI .u8)) (l:=va.Tx) lD sP rfl rfl (bP h_1))) ?_
 refine zz ?_
 refine xw (v:=(.row none 1 (b.Tx.map (eI .u8)))) (vO rfl rfl rfl (aRI (E:=(eI .u8)) (l:=b.Tx) lD sP rfl rfl (bP h_2))) ?_
 refine xu (aIx h_3) ?_
 refine zz ?_
 refine xw (v:=(eI .u32 va.Index)) (aS rfl (aKN (sV lH rfl rfl))) ?_
 refine zz ?_
 refine xw (v:=(eI .u32 b.Index)) (aS rfl (aKN (sV lH rfl rfl)))<|xu (aFs h_5) ?_
 refine zz ?_
 refine zgL (aMd h_7) [] [2] ?_
 refine zz ?_
 obtain rfl:=sj hr
 exact aX Tryz.results27 []
theorem aJf {N l r} (hr:aBJ N l=some r):
  Vm.Fn Tryz.prog 28 [] [(.row none 37 (l.map aR))] (.tup [(eI .i64 r.1),(eB r.2)]) []:=by
 refine zf Tryz.func28 Tryz.ntmps28 ?_
 unfold aBJ at hr
 refine zz ?_
 refine aY1 fun K1 hK1 hG1=> ?_
 have J1: ∀sum,aA4 N sum=some r→K1 (aD 30 [(4,(eI .i64 sum))]) []:=by
  intro sum hr
  unfold aA4 at hr
  refine hK1<|zz ?_
  obtain rfl:=sj hr
  exact oH Tryz.results28 []
 obtain⟨bB,hL2,hr⟩:=aA hr
 refine zz ?_
 refine aYY<|aY3 (fun m s h=> ∃eO bQ,jE N l m eO bQ=some bB∧Ghost 0 s h (aD 30 [(4,(eI .i64 eO)),(8,(.row none 37 (l.map aR))),(9,(eI .i64 (l.length:Int))),(10,(eI .i64 bQ))]) []) ⟨0,0,hL2,(zG [])⟩ ?_
 rintro m2 s h ⟨eO,bQ,hr2,hg⟩
 refine aY2 hg ?_
 clear hg hL2
 rw[jE]at hr2
 refine zz ?_
 refine aY0 ?_
 refine zk hr2 ?_ ?_<;>intro h1 hr2
 ·refine zz ?_
  refine aY0<|aYY ?_
  obtain⟨cH,h_2,hr2⟩:=aA hr2
  refine zz ?_
  refine aY0 ?_
  refine aY1 fun K3 hK3 hG3=> ?_
  have J3: ∀dL,sB N l eO bQ cH (jE N l m2) dL=some bB→K3 (aD 30 [(4,(eI .i64 eO)),(7,(eI .i64 cH.Output.Value)),(8,(.row none 37 (l.map aR))),(9,(eI .i64 (l.length:Int))),(10,(eI .i64 bQ)),(24,(eB dL))]) []:=by
   intro dL hr2
   unfold sB at hr2
   refine hK3 ?_
   refine zk hr2 ?_ ?_<;>intro h3 hr2
   ·refine zz ?_
    obtain rfl:=sj hr2
    obtain rfl:=sj hr
    exact oH Tryz.results28 []
   refine zz ?_
   exact⟨aYW.wrap (eO+cH.Output.Value),aYW.wrap (bQ+1),hr2,(zG [])⟩
  rcases aYV (decide (cH.Output.Value<0))with h4|h4
  ·replace hr2:=bY hr2 h4
   refine xr<|zz ?_
   exact hG3 (zG []) (J3 true hr2)
  replace hr2:=bX hr2 h4
  refine xr<|zz ?_
  exact hG3 (zG []) (J3 (decide ((aYW.wrap (2100000000000000-eO))<cH.Output.Value)) hr2)
 refine zz ?_
 obtain rfl:=sj hr2
 refine zz ?_
 exact hG1 (zG []) (J1 eO hr)
theorem oK {N l r} (hr:qN N l=some r):
  Vm.Fn Tryz.prog 10 [] [(dO l)] (eB r) []:=by
 refine zf Tryz.func10 Tryz.ntmps10 ?_
 unfold qN at hr
 refine zz ?_
 refine aY0 ?_
 refine aY1 fun K1 hK1 hG1=> ?_
 have J1: ∀b6,lO N l b6=some r→K1 (aD 69 [(1,(.ptr 0 0)),(20,(eB b6))]) [some ⟨35,aN l⟩]:=by
  intro b6 hr
  unfold lO at hr
  refine hK1 ?_
  refine zk hr ?_ ?_<;>intro h1 hr
  ·refine zz ?_
   obtain rfl:=sj hr
   exact aX Tryz.results10 []
  refine zz ?_
  refine aY1 fun K2 hK2 hG2=> ?_
  have J2:wI N l=some r→K2 (aD 69 [(1,(.ptr 0 0))]) [some ⟨35,aN l⟩]:=by
   intro hr
   unfold wI at hr
   refine hK2 ?_
   obtain⟨x65,h_2,hr⟩:=aA hr
   refine zz ?_
   refine xp (aJf h_2) ?_
   refine zz ?_
   obtain rfl:=sj hr
   exact aX Tryz.results10 []
  obtain⟨jT,hL3,hr⟩:=aA hr
  refine zz ?_
  refine aYY<|aY3 (fun m s h=> ∃dL,fK N l m dL=some jT∧Ghost 0 s h (aD 69 [(1,(.ptr 0 0)),(22,(.row none 37 (l.Coins.map aR))),(23,(eI .i64 (l.Coins.length:Int))),(24,(eI .i64 dL))]) [some ⟨35,aN l⟩]) ⟨0,hL3,(zG [0])⟩ ?_
  rintro m3 s h ⟨dL,hr3,hg⟩
  refine aY2 hg ?_
  clear hg hL3
  rw[fK]at hr3
  refine zz ?_
  refine aY0 ?_
  refine zk hr3 ?_ ?_<;>intro h3 hr3
  ·refine zz ?_
   refine aY0<|aYY ?_
   obtain⟨x27,h_4,hr3⟩:=aA hr3
   refine zz ?_
   refine aY0 ?_
   refine aY1 fun K4 hK4 hG4=> ?_
   have J4: ∀x43,n7 N l dL x27 (fK N l m3) x43=some jT→K4 (aD 69 [(1,(.ptr 0 0)),(4,(.ptr 1 0)),(22,(.row none 37 (l.Coins.map aR))),(23,(eI .i64 (l.Coins.length:Int))),(24,(eI .i64 dL)),(43,(eB x43))]) [some ⟨35,aN l⟩,some ⟨59,aQ x27⟩]:=by
    intro x43 hr3
    unfold n7 at hr3
    refine hK4 ?_
    refine zk hr3 ?_ ?_<;>intro h5 hr3
    ·refine zz ?_
     obtain rfl:=sj hr3
     obtain rfl:=sj hr
     exact aX Tryz.results10 []
    refine zz ?_
    refine aY1 fun K5 hK5 hG5=> ?_
    have J5: ∀x60,lR N l dL (fK N l m3) x60=some jT→K5 (aD 69 [(1,(.ptr 0 0)),(22,(.row none 37 (l.Coins.map aR))),(23,(eI .i64 (l.Coins.length:Int))),(24,(eI .i64 dL)),(60,(eB x60))]) [some ⟨35,aN l⟩]:=by
     intro x60 hr3
     unfold lR at hr3
     refine hK5 ?_
     refine zk hr3 ?_ ?_<;>intro h6 hr3
     ·refine zz ?_
      obtain rfl:=sj hr3
      obtain rfl:=sj hr
      exact aX Tryz.results10 []
     refine zz ?_
     exact⟨aYW.wrap (dL+1),hr3,(zG [0])⟩
    rcases aYV (decide (520<(x27.Output.Script.length:Int)))with h7|h7
    ·replace hr3:=bY hr3 h7
     refine xr<|zz ?_
     refine xX rfl<|xX rfl<|xX rfl<|xX rfl<|xX rfl ?_
     refine zz ?_
     exact hG5 (zG [0]) (J5 true hr3)
    replace hr3:=bX hr3 h7
    rcases aYV (decide (x27.Height<1))with h8|h8
    ·replace hr3:=bY hr3 h8
     refine xr<|zz ?_
     exact hG5 (zG [0]) (J5 true hr3)
    replace hr3:=bX hr3 h8
    refine xr<|zz ?_
    exact hG5 (zG [0]) (J5 (decide (l.Height<x27.Height)) hr3)
   rcases aYV (decide (0<dL))with h9|h9
   ·replace hr3:=bY hr3 h9
    obtain⟨x36,h_10,hr3⟩:=aA hr3
    obtain⟨x41,h_11,hr3⟩:=aA hr3
    refine aY6 mixed [27] [] [[0,1,2,3,4,5,6,7,8,9,10,11,12,13,14]]<|zz ?_
    refine xu (aGw h_11) ?_
    refine zz ?_
    exact hG4 (zG [0,1]) (J4 (decide (0≤x41)) hr3)
   replace hr3:=bX hr3 h9
   refine aY6 mixed [27] [] [[0,1,2,3,4,5,6,7,8,9,10,11,12,13,14]]<|zz ?_
   exact hG4 (zG [0,1]) (J4 false hr3)
  refine zz ?_
  obtain rfl:=sj hr3
  refine zz ?_
  exact hG2 (zG [0]) (J2 hr)
 rcases aYV (decide (l.Height<0))with h13|h13
 ·replace hr:=bY hr h13
  refine xr<|zz ?_
  refine xX rfl<|xX rfl<|xX rfl<|xX rfl ?_
  refine zz ?_
  exact hG1 (zG [0]) (J1 true hr)
 replace hr:=bX hr h13
 rcases aYV (decide (16777216<l.Height))with h14|h14
 ·replace hr:=bY hr h14
  refine xr<|zz ?_
  exact hG1 (zG [0]) (J1 true hr)
 replace hr:=bX hr h14
 refine xr<|zz ?_
 exact hG1 (zG [0]) (J1 (decide (100000<(l.Coins.length:Int))) hr)
theorem uL {N va b r} (hr:rJ N va b=some r):
  Vm.Fn Tryz.prog 29 [] [(cG va),(cG b)] (eI .i64 r) []:=by
 refine zf Tryz.func29 Tryz.ntmps29 ?_
 unfold rJ at hr
 refine zz ?_
 refine aY1 fun K1 hK1 hG1=> ?_
 have J1:uT N va b=some r→K1 (aD 40 [(2,(.eptr [(cG va)] 0 0)),(3,(.eptr [(cG b)] 0 0))]) []:=by
  intro hr
  unfold uT at hr
  refine hK1<|aY0<|aYY ?_
  refine zz ?_
  refine xw (v:=(eI .u32 va.Index)) (aS rfl (aKN (sV lH rfl rfl))) ?_
  refine zz ?_
  refine xw (v:=(eI .u32 b.Index)) (aS rfl (aKN (sV lH rfl rfl))) ?_
  refine zz ?_
  refine zk hr ?_ ?_<;>intro h1 hr
  ·refine zz ?_
   obtain rfl:=sj hr
   exact aX Tryz.results29 []
  refine zz ?_
  refine xw (v:=(eI .u32 va.Index)) (aS rfl (aKN (sV lH rfl rfl))) ?_
  refine zz ?_
  refine xw (v:=(eI .u32 b.Index)) (aS rfl (aKN (sV lH rfl rfl))) ?_
  refine zz ?_
  refine zk hr ?_ ?_<;>intro h2 hr
  ·refine zz ?_
   obtain rfl:=sj hr
   exact aX Tryz.results29 []
  refine zz ?_
  obtain rfl:=sj hr
  exact aX Tryz.results29 []
 refine zz ?_
 refine aY2 (o6 [0,1])<|aY2 (o6 [0,0]) ?_
 obtain⟨bB,hL2,hr⟩:=aA hr
 refine aYY<|aY3 (fun m s h=> ∃x6,mQ N va b m x6=some bB∧Ghost 0 s h (aD 40 [(2,(.eptr [(cG va)] 0 0)),(3,(.eptr [(cG b)] 0 0)),(6,(eI .i64 x6))]) []) ⟨0,hL2,(zG [])⟩ ?_
 rintro m2 s h ⟨x6,hr2,hg⟩
 refine aY2 hg ?_
 clear hg hL2
 rw[mQ]at hr2
 refine zz ?_
 refine aY0 ?_
 refine zk hr2 ?_ ?_<;>intro h3 hr2
 ·refine zz ?_
  refine aY0<|aYY ?_
  refine zz ?_
  refine aY0<|aY0 ?_
  obtain⟨b8,h_4,hr2⟩:=aA hr2
  obtain⟨x15,h_5,hr2⟩:=aA hr2
  refine aY6 mixed [] [] [[0,1,2,3,4,5,6,7,8]]<|zz ?_
  refine xw (v:=(.eptr [(cG va)] 0 (0+aY5 x6))) (aGc rfl rfl (iaE lD sP rfl h_4))<|xw (v:=(eI .u8 b8)) (aS rfl (aJT (E:=(eI .u8)) (l:=va.Tx) (y:=b8) sP rfl h_4)) ?_
  refine zz ?_
  refine xw (v:=(.eptr [(cG b)] 0 (0+aY5 x6))) (aGc rfl rfl (iaE lD sP rfl h_5))<|xw (v:=(eI .u8 x15)) (aS rfl (aJT (E:=(eI .u8)) (l:=b.Tx) (y:=x15) sP rfl h_5)) ?_
  refine zz ?_
  refine zk hr2 ?_ ?_<;>intro h6 hr2
  ·refine zz ?_
   obtain rfl:=sj hr2
   obtain rfl:=sj hr
   exact aX Tryz.results29 []
  refine zz ?_
  refine aY0<|aY6 mixed [] [] [[0,1,2,3,4,5,6,7,8]]<|zz ?_
  refine xw (v:=(.eptr [(cG va)] 0 (0+aY5 x6))) (aGc rfl rfl (iaE lD sP rfl h_4))<|xw (v:=(eI .u8 b8)) (aS rfl (aJT (E:=(eI .u8)) (l:=va.Tx) (y:=b8) sP rfl h_4)) ?_
  refine zz ?_
  refine xw (v:=(.eptr [(cG b)] 0 (0+aY5 x6))) (aGc rfl rfl (iaE lD sP rfl h_5))<|xw (v:=(eI .u8 x15)) (aS rfl (aJT (E:=(eI .u8)) (l:=b.Tx) (y:=x15) sP rfl h_5)) ?_
  refine zz ?_
  refine zk hr2 ?_ ?_<;>intro h7 hr2
  ·refine zz ?_
   obtain rfl:=sj hr2
   obtain rfl:=sj hr
   exact aX Tryz.results29 []
  refine zz ?_
  exact⟨aYW.wrap (x6+1),hr2,(zG [])⟩
 refine zz ?_
 obtain rfl:=sj hr2
 refine zz ?_
 exact hG1 (zG []) (J1 hr)
theorem tN {N l r} (hr:sK N l=some r):
  Vm.Fn Tryz.prog 11 [] [(dO l)] (eB r) []:=by
 refine zf Tryz.func11 Tryz.ntmps11 ?_
 unfold sK at hr
 refine zz ?_
 refine aY0 ?_
 refine aY1 fun K1 hK1 hG1=> ?_
 have J1: ∀x19,nH N l x19=some r→K1 (aD 80 [(1,(.ptr 0 0)),(19,(eB x19))]) [some ⟨35,aN l⟩]:=by
  intro x19 hr
  unfold nH at hr
  refine hK1 ?_
  refine zk hr ?_ ?_<;>intro h1 hr
  ·refine zz ?_
   obtain rfl:=sj hr
   exact aX Tryz.results11 []
  refine zz ?_
  refine aY1 fun K2 hK2 hG2=> ?_
  have J2:aCg N=some r→K2 (aD 80 []) []:=by
   intro hr
   unfold aCg at hr
   refine hK2<|zz ?_
   obtain rfl:=sj hr
   exact aX Tryz.results11 []
  obtain⟨jT,hL3,hr⟩:=aA hr
  refine zz ?_
  refine aYY<|aY3 (fun m s h=> ∃sum eQ,eF N l m sum eQ=some jT∧Ghost 0 s h (aD 80 [(1,(.ptr 0 0)),(3,(eI .i64 sum)),(21,(.row none 37 (l.Coins.map aR))),(22,(eI .i64 (l.Coins.length:Int))),(23,(eI .i64 eQ))]) [some ⟨35,aN l⟩]) ⟨0,0,hL3,(zG [0])⟩ ?_
  rintro m3 s h ⟨sum,eQ,hr3,hg⟩
  refine aY2 hg ?_
  clear hg hL3
  rw[eF]at hr3
  refine zz ?_
  refine aY0 ?_
  refine zk hr3 ?_ ?_<;>intro h2 hr3
  ·refine zz ?_
   refine aY0<|aYY ?_
   obtain⟨x26,h_3,hr3⟩:=aA hr3
   refine zz ?_
   refine aY0 ?_
   refine aY1 fun K4 hK4 hG4=> ?_
   have J4: ∀x54,i5 N l sum eQ x26 (eF N l m3) x54=some jT→K4 (aD 80 [(1,(.ptr 0 0)),(3,(eI .i64 sum)),(5,(.ptr 1 0)),(21,(.row none 37 (l.Coins.map aR))),(22,(eI .i64 (l.Coins.length:Int))),(23,(eI .i64 eQ)),(54,(eB x54))]) [some ⟨35,aN l⟩,some ⟨59,aQ x26⟩]:=by
    intro x54 hr3
    unfold i5 at hr3
    refine hK4 ?_
    refine zk hr3 ?_ ?_<;>intro h4 hr3
    ·refine zz ?_
     obtain rfl:=sj hr3
     obtain rfl:=sj hr
     exact aX Tryz.results11 []
    refine zz ?_
    refine aY0 ?_
    refine aY1 fun K5 hK5 hG5=> ?_
    have J5: ∀x71,mP N l sum eQ x26 (eF N l m3) x71=some jT→K5 (aD 80 [(1,(.ptr 0 0)),(3,(eI .i64 sum)),(5,(.ptr 1 0)),(21,(.row none 37 (l.Coins.map aR))),(22,(eI .i64 (l.Coins.length:Int))),(23,(eI .i64 eQ)),(71,(eB x71))]) [some ⟨35,aN l⟩,some ⟨59,aQ x26⟩]:=by
     intro x71 hr3
     unfold mP at hr3
     refine hK5 ?_
     refine zk hr3 ?_ ?_<;>intro h5 hr3
     ·refine zz ?_
      obtain rfl:=sj hr3
      obtain rfl:=sj hr
      exact aX Tryz.results11 []
     refine zz ?_
     refine zk hr3 ?_ ?_<;>intro h6 hr3
     ·refine zz ?_
      obtain rfl:=sj hr3
      obtain rfl:=sj hr
      exact aX Tryz.results11 []
     refine zz ?_
     exact⟨aYW.wrap (sum+x26.Output.Value),aYW.wrap (eQ+1),hr3,(zG [0])⟩
    rcases aYV (decide (x26.Output.Value<0))with h7|h7
    ·replace hr3:=bY hr3 h7
     refine xr<|zz ?_
     refine xX rfl<|xX rfl<|xX rfl<|xX rfl<|xX rfl ?_
     refine zz ?_
     exact hG5 (zG [0,1]) (J5 true hr3)
    replace hr3:=bX hr3 h7
    rcases aYV (decide (2100000000000000<x26.Output.Value))with h8|h8
    ·replace hr3:=bY hr3 h8
     refine xr<|zz ?_
     exact hG5 (zG [0,1]) (J5 true hr3)
    replace hr3:=bX hr3 h8
    refine xr<|zz ?_
    exact hG5 (zG [0,1]) (J5 (decide (520<(x26.Output.Script.length:Int))) hr3)
   rcases aYV (decide (0<eQ))with h9|h9
   ·replace hr3:=bY hr3 h9
    obtain⟨x35,h_10,hr3⟩:=aA hr3
    obtain⟨x40,h_11,hr3⟩:=aA hr3
    rcases aYV (decide (0≤x40))with h13|h13
    ·replace hr3:=bY hr3 h13
     refine aY6 mixed [29] [] [[0,1,2,3,4,5,6,7,8,9,10,11,12,13,14,15,16,17,18,19,20,21,22,23,24,25,26]]<|zz ?_
     refine xu (uL h_11) ?_
     refine zz ?_
     refine xX rfl<|xX rfl<|xX rfl<|xX rfl<|xX rfl ?_
     refine zz ?_
     exact hG4 (zG [0,1]) (J4 true hr3)
    replace hr3:=bX hr3 h13
    rcases aYV (decide (x26.Height<1))with h14|h14
    ·replace hr3:=bY hr3 h14
     refine aY6 mixed [29] [] [[0,1,2,3,4,5,6,7,8,9,10,11,12,13,14,15,16,17,18,19,20,21,22,23,24,25,26]]<|zz ?_
     refine xu (uL h_11) ?_
     refine zz ?_
     exact hG4 (zG [0,1]) (J4 true hr3)
    replace hr3:=bX hr3 h14
    refine aY6 mixed [29] [] [[0,1,2,3,4,5,6,7,8,9,10,11,12,13,14,15,16,17,18,19,20,21,22,23,24,25,26]]<|zz ?_
    refine xu (uL h_11) ?_
    refine zz ?_
    exact hG4 (zG [0,1]) (J4 (decide (l.Height<x26.Height)) hr3)
   replace hr3:=bX hr3 h9
   rcases aYV (decide (x26.Height<1))with h15|h15
   ·replace hr3:=bY hr3 h15
    refine aY6 mixed [29] [] [[0,1,2,3,4,5,6,7,8,9,10,11,12,13,14,15,16,17,18,19,20,21,22,23,24,25,26]]<|zz ?_
    refine xSg (v:=(.ptr 1 35)) rfl rfl rfl (aOn rfl fP) ?_
    refine xSg (v:=(eI .i64 x26.Height)) rfl rfl rfl (aS rfl (ldP rfl (sV ti3 rfl rfl))) ?_
    refine xSg (v:=(eB (decide (x26.Height<1)))) rfl rfl rfl (jF rfl rfl (aLa ..)) ?_
    refine zz ?_
    exact hG4 (zG [0,1]) (J4 true hr3)
   replace hr3:=bX hr3 h15
   refine aY6 mixed [29] [] [[0,1,2,3,4,5,6,7,8,9,10,11,12,13,14,15,16,17,18,19,20,21,22,23,24,25,26]]<|zz ?_
   refine xSg (v:=(.ptr 1 35)) rfl rfl rfl (aOn rfl fP) ?_
   refine xSg (v:=(eI .i64 x26.Height)) rfl rfl rfl (aS rfl (ldP rfl (sV ti3 rfl rfl))) ?_
   refine xSg (v:=(eB (decide (x26.Height<1)))) rfl rfl rfl (jF rfl rfl (aLa ..)) ?_
   refine zz ?_
   exact hG4 (zG [0,1]) (J4 (decide (l.Height<x26.Height)) hr3)
  refine zz ?_
  obtain rfl:=sj hr3
  refine zz ?_
  exact hG2 (zG []) (J2 hr)
 rcases aYV (decide (l.Height<0))with h16|h16
 ·replace hr:=bY hr h16
  refine xr<|zz ?_
  refine xX rfl<|xX rfl<|xX rfl<|xX rfl ?_
  refine zz ?_
  exact hG1 (zG [0]) (J1 true hr)
 replace hr:=bX hr h16
 rcases aYV (decide (16777216<l.Height))with h17|h17
 ·replace hr:=bY hr h17
  refine xr<|zz ?_
  exact hG1 (zG [0]) (J1 true hr)
 replace hr:=bX hr h17
 refine xr<|zz ?_
 exact hG1 (zG [0]) (J1 (decide (100000<(l.Coins.length:Int))) hr)
theorem zY {N p height r} (hr:qA N p height=some r):
  Vm.Fn Tryz.prog 12 [] [(cY p),(eI .i64 height)] (eI .i64 r) []:=by
 refine zf Tryz.func12 Tryz.ntmps12 ?_
 unfold qA at hr
 refine zz ?_
 refine aY0 ?_
 refine aY1 fun K1 hK1 hG1=> ?_
 have J1: ∀b8,o7 N p height b8=some r→K1 (aD 19 [(1,(eI .i64 height)),(2,(.ptr 0 0)),(11,(eB b8))]) [some ⟨32,aT p⟩]:=by
  intro b8 hr
  unfold o7 at hr
  refine hK1 ?_
  refine zk hr ?_ ?_<;>intro h1 hr
  ·refine zz ?_
   obtain rfl:=sj hr
   exact aX Tryz.results12 []
  refine zz ?_
  refine aY0 ?_
  obtain⟨x17,h_2,hr⟩:=aA hr
  obtain⟨x18,h_3,hr⟩:=aA hr
  refine aY6 mixed [] [] [[0,1,2,3,4,5,6,7]]<|zz ?_
  obtain rfl:=sj hr
  exact aX Tryz.results12 []
 obtain⟨x6,h_4,hr⟩:=aA hr
 rcases aYV (!x6)with h5|h5
 ·replace hr:=bY hr h5
  refine xr<|zz ?_
  refine xp (s7 h_4) ?_
  refine zz ?_
  exact hG1 (zG [0]) (J1 true hr)
 replace hr:=bX hr h5
 refine xr<|zz ?_
 refine xp (s7 h_4) ?_
 refine zz ?_
 exact hG1 (zG [0]) (J1 (decide (height<0)) hr)
theorem qX {N p height r} (hr:j9 N p height=some r):
  Vm.Fn Tryz.prog 13 [] [(cY p),(eI .i64 height)] (eI .i64 r) []:=by
 refine zf Tryz.func13 Tryz.ntmps13 ?_
 unfold j9 at hr
 refine zz ?_
 refine aY0 ?_
 refine aY1 fun K1 hK1 hG1=> ?_
 have J1: ∀cB,qH N p height cB=some r→K1 (aD 31 [(1,(eI .i64 height)),(2,(.ptr 0 0)),(13,(eB cB))]) [some ⟨32,aT p⟩]:=by
  intro cB hr
  unfold qH at hr
  refine hK1 ?_
  refine zk hr ?_ ?_<;>intro h1 hr
  ·refine zz ?_
   obtain rfl:=sj hr
   exact aX Tryz.results13 []
  refine zz ?_
  refine aY1 fun K2 hK2 hG2=> ?_
  have J2: ∀vs,aAN N vs=some r→K2 (aD 31 [(5,(eI .i64 vs))]) []:=by
   intro vs hr
   unfold aAN at hr
   refine hK2<|zz ?_
   obtain rfl:=sj hr
   exact aX Tryz.results13 []
  obtain⟨x19,h_2,hr⟩:=aA hr
  obtain⟨jT,hL3,hr⟩:=aA hr
  refine zz ?_
  refine aYY<|aY3 (fun m s h=> ∃eM vn,iO N m eM vn=some jT∧Ghost 0 s h (aD 31 [(5,(eI .i64 eM)),(6,(eI .i64 vn))]) []) ⟨p.Subsidy,x19,hL3,(zG [])⟩ ?_
  rintro m3 s h ⟨eM,vn,hr3,hg⟩
  refine aY2 hg ?_
  clear hg hL3
  rw[iO]at hr3
  refine aY0 ?_
  refine aY1 fun K4 hK4 hG4=> ?_
  have J4: ∀x25,qU N eM vn (iO N m3) x25=some jT→K4 (aD 31 [(5,(eI .i64 eM)),(6,(eI .i64 vn)),(25,(eB x25))]) []:=by
   intro x25 hr3
   unfold qU at hr3
   refine hK4 ?_
   refine zk hr3 ?_ ?_<;>intro h3 hr3
   ·refine zz ?_
    refine aY0<|aYY ?_
    refine zz ?_
    exact⟨aYW.wrap (aY9 eM 2),aYW.wrap (vn-1),hr3,(zG [])⟩
   refine zz ?_
   obtain rfl:=sj hr3
   refine zz ?_
   exact hG2 (zG []) (J2 eM hr)
  rcases aYV (decide (0<vn))with h4|h4
  ·replace hr3:=bY hr3 h4
   refine xr<|zz ?_
   exact hG4 (zG []) (J4 (decide (0<eM)) hr3)
  replace hr3:=bX hr3 h4
  refine xr<|zz ?_
  exact hG4 (zG []) (J4 false hr3)
 obtain⟨x8,h_5,hr⟩:=aA hr
 rcases aYV (!x8)with h6|h6
 ·replace hr:=bY hr h6
  refine xr<|zz ?_
  refine xp (dS h_5) ?_
  refine zz ?_
  exact hG1 (zG [0]) (J1 true hr)
 replace hr:=bX hr h6
 refine xr<|zz ?_
 refine xp (dS h_5) ?_
 refine zz ?_
 exact hG1 (zG [0]) (J1 (decide (height<0)) hr)
theorem aDA {N c o r} (hr:pR N c o=some r):
  Vm.Fn Tryz.prog 51 [] [(aR c),(cG o)] (eI .i64 r) []:=by
 refine zf Tryz.func51 Tryz.ntmps51 ?_
 unfold pR at hr
 obtain⟨x8,h_1,hr⟩:=aA hr
 refine zz ?_
 refine xp (aGw h_1) ?_
 refine zz ?_
 obtain rfl:=sj hr
 exact aX Tryz.results51 []
theorem mG {N x nW r} (hr:dD N x nW=some r):
  Vm.Fn Tryz.prog 50 [] [(.row none 37 (x.map aR)),(cG nW),(.sc (.func (.func 51) #[] #[]))] (.tup [(eI .i64 r.1),(eB r.2)]) []:=by
 refine zf Tryz.func50 Tryz.ntmps50 ?_
 unfold dD at hr
 refine zz ?_
 refine aY1 fun K1 hK1 hG1=> ?_
 have J1: ∀vi,cS N x nW vi=some r→K1 (aD 49 [(0,(.row none 37 (x.map aR))),(2,(.sc (.func (.func 51) #[] #[]))),(4,(.ptr 0 0)),(8,(eI .i64 (x.length:Int))),(9,(eI .i64 vi))]) [some ⟨37,cC nW⟩]:=by
  intro vi hr
  unfold cS at hr
  refine hK1 ?_
  refine aY1 fun K2 hK2 hG2=> ?_
  have J2: ∀x7,cF N vi x7=some r→K2 (aD 49 [(6,(eI .i64 vi)),(7,(eB x7))]) []:=by
   intro x7 hr
   unfold cF at hr
   refine hK2<|zz ?_
   obtain rfl:=sj hr
   exact oH Tryz.results50 []
  rcases aYV (decide (vi<(x.length:Int)))with h1|h1
  ·replace hr:=bY hr h1
   obtain⟨x43,h_2,hr⟩:=aA hr
   obtain⟨x46,h_3,hr⟩:=aA hr
   refine aY6 mixed [] [] [[0,1,2,3,4,5,6,7,8,9,10,11,12,13,14,15]]<|zz ?_
   refine xGt (v:=(eI .i64 x46)) (h':=[some ⟨37,cC nW⟩]) rfl rfl (Vm.Fn.pure (aDA h_3) rfl rfl) ?_
   refine zz ?_
   exact hG2 (zG []) (J2 (x46 == 0) hr)
  replace hr:=bX hr h1
  refine aY6 mixed [] [] [[0,1,2,3,4,5,6,7,8,9,10,11,12,13,14,15]]<|zz ?_
  exact hG2 (zG []) (J2 false hr)
 obtain⟨jT,hL3,hr⟩:=aA hr
 refine aYY<|aY3 (fun m s h=> ∃fS vj,bN N x nW m fS vj=some jT∧Ghost 0 s h (aD 49 [(0,(.row none 37 (x.map aR))),(2,(.sc (.func (.func 51) #[] #[]))),(4,(.ptr 0 0)),(8,(eI .i64 (x.length:Int))),(9,(eI .i64 fS)),(10,(eI .i64 vj))]) [some ⟨37,cC nW⟩]) ⟨0,(x.length:Int),hL3,(zG [0])⟩ ?_
 rintro m3 s h ⟨fS,vj,hr3,hg⟩
 refine aY2 hg ?_
 clear hg hL3
 rw[bN]at hr3
 refine aY0<|zz ?_
 refine zk hr3 ?_ ?_<;>intro h5 hr3
 ·refine zz ?_
  refine aYY ?_
  obtain⟨bW,h_6,hr3⟩:=aA hr3
  refine zz ?_
  refine aY0 ?_
  obtain⟨x27,h_7,hr3⟩:=aA hr3
  obtain⟨fA,h_8,hr3⟩:=aA hr3
  refine aY6 mixed [] [] [[0,1,2,3,4,5,6,7]]<|zz ?_
  refine xGt (v:=(eI .i64 fA)) (h':=[some ⟨37,cC nW⟩]) rfl rfl (Vm.Fn.pure (aDA h_8) rfl rfl) ?_
  refine zz ?_
  refine zk hr3 ?_ ?_<;>intro h10 hr3
  ·refine zz ?_
   exact⟨aYW.wrap ((aYW.wrap bW)+1),vj,hr3,(zG [0])⟩
  refine zz ?_
  exact⟨fS,aYW.wrap bW,hr3,(zG [0])⟩
 refine zz ?_
 obtain rfl:=sj hr3
 refine zz ?_
 exact hG1 (zG [0]) (J1 fS hr)
theorem aJo {N l o r} (hr:xJ N l o=some r):
  Vm.Fn Tryz.prog 30 [] [(dO l),(cG o)] (eI .i64 r) []:=by
 refine zf Tryz.func30 Tryz.ntmps30 ?_
 unfold xJ at hr
 obtain⟨b8,h_1,hr⟩:=aA hr
 refine zz ?_
 refine xp (mG h_1) ?_
 refine zz ?_
 refine aY0<|zz ?_
 refine zk hr ?_ ?_<;>intro h2 hr
 ·refine zz ?_
  obtain rfl:=sj hr
  exact aX Tryz.results30 []
 refine zz ?_
 obtain rfl:=sj hr
 exact aX Tryz.results30 []
theorem aFc {N l o r} (hr:vS N l o=some r):
  Vm.Fn Tryz.prog 14 [] [(dO l),(cG o)] (eI .i64 r) []:=by
 refine zf Tryz.func14 Tryz.ntmps14 ?_
 unfold vS at hr
 refine zz ?_
 refine aY0 ?_
 obtain⟨x6,h_1,hr⟩:=aA hr
 refine zz ?_
 refine xp (oK h_1) ?_
 refine zz ?_
 refine zk hr ?_ ?_<;>intro h2 hr
 ·refine zz ?_
  obtain rfl:=sj hr
  exact aX Tryz.results14 []
 obtain⟨bQ,h_3,hr⟩:=aA hr
 refine zz ?_
 refine xp (aJo h_3) ?_
 refine zz ?_
 obtain rfl:=sj hr
 exact aX Tryz.results14 []
theorem aAG {N l o r} (hr:rZ N l o=some r):
  Vm.Fn Tryz.prog 31 [] [(.row none 37 (l.map aR)),(cG o)] (eI .i64 r) []:=by
 refine zf Tryz.func31 Tryz.ntmps31 ?_
 unfold rZ at hr
 refine zz ?_
 refine aY1 fun K1 hK1 hG1=> ?_
 have J1:aAr N=some r→K1 (aD 20 []) []:=by
  intro hr
  unfold aAr at hr
  refine hK1<|zz ?_
  obtain rfl:=sj hr
  exact aX Tryz.results31 []
 obtain⟨bB,hL2,hr⟩:=aA hr
 refine zz ?_
 refine aYY<|aY3 (fun m s h=> ∃x8,rF N l o m x8=some bB∧Ghost 0 s h (aD 20 [(0,(.row none 37 (l.map aR))),(3,(.ptr 0 0)),(7,(eI .i64 (l.length:Int))),(8,(eI .i64 x8))]) [some ⟨37,cC o⟩]) ⟨0,hL2,(zG [0])⟩ ?_
 rintro m2 s h ⟨x8,hr2,hg⟩
 refine aY2 hg ?_
 clear hg hL2
 rw[rF]at hr2
 refine zz ?_
 refine aY0 ?_
 refine zk hr2 ?_ ?_<;>intro h1 hr2
 ·refine zz ?_
  refine aY0<|aYY ?_
  refine zz ?_
  refine aY0 ?_
  obtain⟨cB,h_2,hr2⟩:=aA hr2
  refine aY6 mixed [] [] [[0,1,2,3,4,5,6]]<|zz ?_
  refine xw (v:=(eB (sX cB.Out.Tx o.Tx ((cB.Out.Index == o.Index)&&true)))) (jF rfl rfl (yO (d:=9) rB rfl aE2 zl aEX rfl rfl rfl rfl rfl)) ?_
  refine zz ?_
  refine zk hr2 ?_ ?_<;>intro h3 hr2
  ·refine zz ?_
   obtain rfl:=sj hr2
   obtain rfl:=sj hr
   exact aX Tryz.results31 []
  refine zz ?_
  exact⟨aYW.wrap (x8+1),hr2,(zG [0])⟩
 refine zz ?_
 obtain rfl:=sj hr2
 refine zz ?_
 exact hG1 (zG []) (J1 hr)
theorem aMg {N l o r} (hr:aBb N l o=some r):
  Vm.Fn Tryz.prog 15 [] [(dO l),(cG o)] (eI .i64 r) []:=by
 refine zf Tryz.func15 Tryz.ntmps15 ?_
 unfold aBb at hr
 refine zz ?_
 refine aY0 ?_
 obtain⟨x6,h_1,hr⟩:=aA hr
 refine zz ?_
 refine xp (tN h_1) ?_
 refine zz ?_
 refine zk hr ?_ ?_<;>intro h2 hr
 ·refine zz ?_
  obtain rfl:=sj hr
  exact aX Tryz.results15 []
 obtain⟨b8,h_3,hr⟩:=aA hr
 refine zz ?_
 refine xp (aAG h_3) ?_
 refine zz ?_
 obtain rfl:=sj hr
 exact aX Tryz.results15 []
theorem aMZ {N l vn r} (hr:aEA N l vn=some r):
  Vm.Fn Tryz.prog 32 [] [(.row none 1 (l.map (eI .u8))),(eI .i64 vn)] (.row none 1 (r.map (eI .u8))) []:=by
 refine zf Tryz.func32 Tryz.ntmps32 ?_
 unfold aEA at hr
 obtain⟨bQ,h_1,hr⟩:=aA hr
 refine zz ?_
 refine xw (v:=(eI .i64 (if vn<(l.length:Int)then vn else(l.length:Int)))) (aML rfl aMF) ?_
 refine zz ?_
 obtain rfl:=sj hr
 exact aX Tryz.results32 []
theorem aOc {N va r} (hr:aEy N va=some r):
  Vm.Fn Tryz.prog 95 [] [(.agg (va.map (eI .u64)))] (.agg (r.map (eI .u64))) []:=by
 refine zf Tryz.func95 Tryz.ntmps95 ?_
 unfold aEy at hr
 obtain⟨x3,h_1,hr⟩:=aA hr
 obtain⟨x6,h_2,hr⟩:=aA hr
 obtain⟨x9,h_3,hr⟩:=aA hr
 obtain⟨cH,h_4,hr⟩:=aA hr
 refine zz ?_
 refine xw (aEZ rfl (aDQ rfl _)) ?_
 refine zz ?_
 refine xw (aEZ rfl (aDQ rfl _)) ?_
 refine zz ?_
 refine xw (aEZ rfl (aDQ rfl _)) ?_
 refine zz ?_
 refine xw (aEZ rfl (aDQ rfl _))<|xw (v:=(.agg ([bits .xor .u64 (aY7 .u64) x3,bits .xor .u64 (aY7 .u64) x6,bits .xor .u64 (aY7 .u64) x9,bits .xor .u64 (aY7 .u64) cH].map (eI .u64)))) (bV rfl (oT sN rD rfl)) ?_
 refine zz ?_
 obtain rfl:=sj hr
 exact gL Tryz.results95 aY (zG [])
theorem aKq {N v r} (hr:aAi N v=some r):
  Vm.Fn Tryz.prog 56 [] [(eI .u8 v)] (cY r) []:=by
 refine zf Tryz.func56 Tryz.ntmps56 ?_
 unfold aAi at hr
 obtain⟨x8,h_1,hr⟩:=aA hr
 obtain⟨x9,h_2,hr⟩:=aA hr
 obtain⟨q,h_3,hr⟩:=aA hr
 refine zz ?_
 refine xw (v:=(.agg ((eI .u32 1)::(aK (eI .u8) (aYX 32 0) (aK (eI .u8) (aYX 32 0) [(eI .u32 (aYZ.wrap (1000+(aYZ.wrap v)))),(eI .u32 545259519),(eI .u32 0)]))))) (bV rfl (iZ aCy aPS rfl))<|xw (v:=(.agg ([0,0,0,0].map (eI .u64)))) (bV rfl (oT sN rD rfl))<|xp (aOc h_1)<|xp (aA6 h_2) ?_
 refine zz ?_
 refine xw (v:=(.agg ((eI .u32 1)::(aK (eI .u8) (aYX 32 0) (aK (eI .u8) (aYX 32 0) ((eI .u32 (aYZ.wrap (1000+(aYZ.wrap v))))::((eI .u32 545259519)::((eI .u32 0)::(jQ (eI .u64) x9 [(eI .i64 (aYW.wrap (3+(aYW.wrap (aY4 v 5))))),(eI .u32 5),(eI .u32 600),(eI .u32 1),(.row (some true) 1 []),(eI .i64 1000),(eI .i64 (aYW.wrap (4+(aYW.wrap (aY4 v 3))))),(eI .i64 (aYW.wrap (aY4 v 3)))]))))))))) (bV rfl (aE0 (ps':=[(0,(.agg ((eI .u32 1)::(aK (eI .u8) (aYX 32 0) (aK (eI .u8) (aYX 32 0) [(eI .u32 (aYZ.wrap (1000+(aYZ.wrap v)))),(eI .u32 545259519),(eI .u32 0)]))))),(1,(.agg (jQ (eI .u64) x9 []))),(2,(eI .i64 (aYW.wrap (3+(aYW.wrap (aY4 v 5)))))),(3,(eI .u32 5)),(4,(eI .u32 600)),(5,(eI .u32 1)),(7,(eI .i64 1000)),(8,(eI .i64 (aYW.wrap (4+(aYW.wrap (aY4 v 3)))))),(9,(eI .i64 (aYW.wrap (aY4 v 3))))]) (by simp only[aPF (l:=x9) (bP h_3)]<;>rfl) (iZ aAO aSU (by kernel_rfl)))) ?_
 refine zz ?_
 obtain rfl:=sj hr
 exact gL Tryz.results56 aY (gF [])
theorem aKH {N p r} (hr:aCN N p=some r):
  Vm.Fn Tryz.prog 57 [] [(cY p)] (.tup [(iS r.1),(eI .i64 r.2)]) []:=by
 refine zf Tryz.func57 Tryz.ntmps57 ?_
 unfold aCN at hr
 refine zz ?_
 refine aY0 ?_
 obtain⟨x6,h_1,hr⟩:=aA hr
 refine zz ?_
 refine xp (dS h_1) ?_
 refine zz ?_
 refine zk hr ?_ ?_<;>intro h2 hr
 ·refine zz ?_
  refine xw (v:=(.agg ((eI .i64 0)::(aK (eI .u8) (aYX 32 0) [(eI .u32 0),(eI .u32 0),(.row (some true) 1 [])])))) (bV rfl (iZ bI aGn rfl)) ?_
  refine zz ?_
  obtain rfl:=sj hr
  exact kS Tryz.results57 aY aY (gF [])
 refine zz ?_
 refine aY0 ?_
 obtain⟨cH,h_3,hr⟩:=aA hr
 obtain⟨q,h_5,hr⟩:=aA hr
 refine aY6 mixed [25] [] [[0,1,2,3,4,5,6,7,8,9,10,11]]<|zz ?_
 refine xu (vE h_3) ?_
 refine zz ?_
 refine xw (v:=(.agg ((eI .i64 0)::(aK (eI .u8) cH [(eI .u32 p.Genesis.Bits),(eI .u32 p.Genesis.Time),(.sl 3 0 1 1 false)])))) (bV rfl (aE0 (ps':=[(1,(.agg (aK (eI .u8) cH []))),(2,(eI .u32 p.Genesis.Bits)),(3,(eI .u32 p.Genesis.Time)),(4,(.sl 3 0 1 1 false))]) (by simp only[gO (l:=cH) (bP h_5)]<;>rfl) (iZ bI aGn (by kernel_rfl)))) ?_
 refine zz ?_
 obtain rfl:=sj hr
 exact kS Tryz.results57 aY aY (aY8 (o6 [1,1,1,0]) (zG []))
theorem aMw {N v r} (hr:aBA N v=some r):
  Vm.Fn Tryz.prog 34 [] [(eI .u8 v)] (gM r) []:=by
 refine zf Tryz.func34 Tryz.ntmps34 ?_
 unfold aBA at hr
 obtain⟨x9,h_1,hr⟩:=aA hr
 refine zz ?_
 refine xp (aKq h_1) ?_
 obtain⟨cH,h_2,hr⟩:=aA hr
 refine zz ?_
 refine xp (aFh h_2) ?_
 obtain⟨x17,h_3,hr⟩:=aA hr
 refine zz ?_
 refine xp (aKH h_3) ?_
 refine zz ?_
 refine dQ aN 34 [cH.1] ?_
 refine zz ?_
 refine dQ aE 36 [x17.1]<|xw (v:=(.agg ((eI .u32 x9.Genesis.Version)::(aK (eI .u8) x9.Genesis.Prev (aK (eI .u8) x9.Genesis.Root ((eI .u32 x9.Genesis.Time)::((eI .u32 x9.Genesis.Bits)::((eI .u32 x9.Genesis.Nonce)::(jQ (eI .u64) x9.Limit [(eI .i64 x9.Window),(eI .u32 x9.Spacing),(eI .u32 x9.Future),(eI .u32 x9.Version),(.row none 33 (x9.Checkpoints.map cR)),(eI .i64 x9.Subsidy),(eI .i64 x9.Halving),(eI .i64 x9.Maturity),(.row (some true) 1 []),(.sl 4 0 1 34 true),(.sl 5 0 1 36 true),(.row (some true) 1 [])]))))))))) (bV rfl (iZ aGe aSY rfl)) ?_
 refine zz ?_
 obtain rfl:=sj hr
 exact gL Tryz.results34 aY (aY8 (o6 [1,1,1,1,0,1]) (aY8 (o6 [1,1,1,1,0,0]) (gF [])))
theorem aPc {N script r} (hr:aIV N script=some r):
  Vm.Fn Tryz.prog 147 [] [(.row none 1 (script.map (eI .u8)))] (.row none 1 (r.map (eL 1 (eI .u8)))) []:=by
 refine zf Tryz.func147 Tryz.ntmps147 ?_
 unfold aIV at hr
 refine zz ?_
 refine aY0<|zz ?_
 refine zk hr ?_ ?_<;>intro h1 hr
 ·refine zz ?_
  obtain rfl:=sj hr
  exact aX Tryz.results147 []
 obtain⟨x7,h_2,hr⟩:=aA hr
 refine zz ?_
 refine aZc (zv 0) ?_
 refine zz ?_
 obtain rfl:=sj hr
 exact gL Tryz.results147 aY (aY8 (zv 1) (zG []))
theorem aCA {N vj r} (hr:vL N vj=some r):
  Vm.Fn Tryz.prog 20 [] [(eI .u8 vj)] (.row none 1 (r.map (eI .u8))) []:=by
 refine zf Tryz.func20 Tryz.ntmps20 ?_
 unfold vL at hr
 refine zz ?_
 obtain rfl:=sj hr
 exact gL Tryz.results20 aY (aY8 (zv 0) (zG []))
theorem aMo {N c vs r} (hr:aBR N c vs=some r):
  Vm.Fn Tryz.prog 117 [] [(aR c),(eI .u8 vs)] (.tup [(.agg [(eI .u32 r.1),(.sl 0 0 r.2.1.length 35 true),(.sl 1 0 r.2.2.1.length 2 true),(eI .u32 r.2.2.2.1)]),(eI .i64 r.2.2.2.2)]) [some ⟨152,r.2.1.flatMap fN⟩,some ⟨57,r.2.2.1.flatMap dM⟩]:=by
 refine zf Tryz.func117 Tryz.ntmps117 ?_
 unfold aBR at hr
 refine zz ?_
 refine xw (v:=(eI .i64 (if c.Output.Value<(aYW.wrap (aY4 vs 3))then c.Output.Value else(aYW.wrap (aY4 vs 3))))) (aML rfl aMF) ?_
 refine zz ?_
 refine aY0 ?_
 obtain⟨x29,h_1,hr⟩:=aA hr
 refine AB.rd (cT [147]) (cT []) mixed<|aZb (m:=4) [0,1,2,3,4,5,6,7,8] ?_
 refine zz ?_
 refine xu (aPc h_1)<|xw (v:=(.agg (aK (eI .u8) c.Out.Tx [(eI .u32 c.Out.Index),(eI .u32 (aYZ.wrap vs)),(.row none 1 (x29.map (eL 1 (eI .u8))))]))) (bV rfl (iZ aEE aMT rfl)) ?_
 refine zz ?_
 refine DrawG.jn (m:=1) (L:=lst [0,1,2,3,4,5,6,7,8,9,10,11] 13) (s1:=aD 63 [(1,(eI .u8 vs)),(4,(.ptr 0 0)),(6,(eI .i64 (if c.Output.Value<(aYW.wrap (aY4 vs 3))then c.Output.Value else(aYW.wrap (aY4 vs 3))))),(7,(eI .i64 (aYW.wrap (c.Output.Value-(if c.Output.Value<(aYW.wrap (aY4 vs 3))then c.Output.Value else(aYW.wrap (aY4 vs 3))))))),(8,(.ptr 1 0)),(32,(.agg [(eI .u32 1),(.sl 2 0 1 35 true),(.row (some true) 1 []),(eI .u32 0)]))]) (h1:=[some ⟨117,[(eI .u32 0),(.row (some true) 1 []),(.row (some true) 1 []),(eI .u32 0)]⟩,some ⟨117,[(eI .u32 0),(.row (some true) 1 []),(.row (some true) 1 []),(eI .u32 0)]⟩,some ⟨152,[(bL.mk c.Out (aYZ.wrap vs) x29)].flatMap fN⟩]) ?_ (fun J=> ?_)
 ·refine aZb (m:=0) [12]<|zz ?_
  refine DrawG.nil (by decide +kernel) ?_
  refine zz ?_
  refine aY1 fun K1 hK1 hG1=> ?_
  have J1: ∀first l3,rG N c vs x29 first l3=some r→K1 (aD 63 [(1,(eI .u8 vs)),(4,(.ptr 0 0)),(6,(eI .i64 (if c.Output.Value<(aYW.wrap (aY4 vs 3))then c.Output.Value else(aYW.wrap (aY4 vs 3))))),(8,(.ptr 1 0)),(9,(eI .i64 first))]) [some ⟨117,[(eI .u32 0),(.row (some true) 1 []),(.row (some true) 1 []),(eI .u32 0)]⟩,some ⟨117,[(eI .u32 1),(.sl 2 0 ([(bL.mk c.Out (aYZ.wrap vs) x29)].length) 35 true),(.sl 3 0 l3.length 2 true),(eI .u32 0)]⟩,some ⟨152,[(bL.mk c.Out (aYZ.wrap vs) x29)].flatMap fN⟩,some ⟨57,l3.flatMap dM⟩]:=by
   intro first l3 hr
   unfold rG at hr
   refine hK1<|aY0 ?_
   obtain⟨x56,h_3,hr⟩:=aA hr
   obtain⟨x59,h_5,hr⟩:=aA hr
   refine aY6 mixed [20] [] [[0,1,2,3,4,5,6,7,8,9,10]]<|zz ?_
   refine xu (aCA h_3) ?_
   refine zz ?_
   refine dQ dM 2 [(bA.mk first x56)] ?_
   refine zz ?_
   obtain rfl:=sj hr
   exact kS Tryz.results117 aY aY (zG [2,5])
  refine zz ?_
  refine zk hr ?_ ?_<;>intro h6 hr
  ·obtain⟨x46,h_7,hr⟩:=aA hr
   obtain⟨x49,h_9,hr⟩:=aA hr
   refine zz ?_
   refine aY6 mixed [20] [] [[0,1,2,3,4,5,6,7,8,9,10,11,12]]<|zz ?_
   refine xu (aCA h_7) ?_
   refine zz ?_
   refine dQ dM 2 [(bA.mk (aYW.wrap ((aYW.wrap (c.Output.Value-(if c.Output.Value<(aYW.wrap (aY4 vs 3))then c.Output.Value else(aYW.wrap (aY4 vs 3)))))-(aYW.wrap (aY9 (aYW.wrap (c.Output.Value-(if c.Output.Value<(aYW.wrap (aY4 vs 3))then c.Output.Value else(aYW.wrap (aY4 vs 3))))) 3)))) x46)] ?_
   refine zz ?_
   exact hG1 (gF [0,1,2,5]) (J1 (aYW.wrap (aY9 (aYW.wrap (c.Output.Value-(if c.Output.Value<(aYW.wrap (aY4 vs 3))then c.Output.Value else(aYW.wrap (aY4 vs 3))))) 3)) x49 hr)
  refine zz ?_
  exact hG1 (aY8 (Ghost.virt (fr':=[(1,(eI .u8 vs)),(4,(.ptr 0 0)),(6,(eI .i64 (if c.Output.Value<(aYW.wrap (aY4 vs 3))then c.Output.Value else(aYW.wrap (aY4 vs 3))))),(8,(.ptr 1 0)),(9,(eI .i64 (aYW.wrap (c.Output.Value-(if c.Output.Value<(aYW.wrap (aY4 vs 3))then c.Output.Value else(aYW.wrap (aY4 vs 3)))))))]) (h1:=[some ⟨117,[(eI .u32 0),(.row (some true) 1 []),(.row (some true) 1 []),(eI .u32 0)]⟩,some ⟨117,[(eI .u32 1),(.sl 2 0 1 35 true),(.sl 3 0 0 2 true),(eI .u32 0)]⟩,some ⟨152,[(bL.mk c.Out (aYZ.wrap vs) x29)].flatMap fN⟩]) 57 (FLe.same rfl (FLe.same rfl (FLe.same rfl (FLe.same rfl (FLe.same rfl FLe.nil))))) (HLv.live (V.les_refl _ _) rfl (HLv.live (V.les_cons (V.le_refl _ _) (V.les_cons (V.le_refl _ _) (V.les_cons (V.le_virt rfl) (V.les_cons (V.le_refl _ _) V.les_nil)))) rfl (HLv.live (V.les_refl _ _) (xZ (fun _=>rfl) _) HLv.nil)))) (gF [0,1,2,3])) (J1 (aYW.wrap (c.Output.Value-(if c.Output.Value<(aYW.wrap (aY4 vs 3))then c.Output.Value else(aYW.wrap (aY4 vs 3))))) [] hr)
 refine DrawG.fk (n:=3) [9,11] ⟨?_, ?_,trivial⟩
 ·refine dQ fN 35 [(bL.mk c.Out (aYZ.wrap vs) x29)] ?_
  refine zz ?_
  refine aZb (m:=1) [10,11]<|zz ?_
  refine aZd J ?_
  exact(zG [1,3,2])
 refine zz ?_
 refine aZb (m:=1) [9,10]<|dQ fN 35 [(bL.mk c.Out (aYZ.wrap vs) x29)] ?_
 refine zz ?_
 refine aZd J ?_
 exact(zG [1,2,3])
theorem mF {N b vn r} (hr:gQ N b vn=some r):
  Vm.Fn Tryz.prog 177 [] [(.row none 1 (b.map (eI .u8))),(eI .u64 vn)] (.sl 0 0 r.length 1 false) [some ⟨5,r.map (eI .u8)⟩]:=by
 refine zf Tryz.func177 Tryz.ntmps177 ?_
 unfold gQ at hr
 refine zz ?_
 refine aY0<|aYY ?_
 refine zz ?_
 refine zk hr ?_ ?_<;>intro h1 hr
 ·obtain⟨bQ,h_2,hr⟩:=aA hr
  obtain⟨b8,h_3,hr⟩:=aA hr
  refine zz ?_
  refine zc (oB h_2) [] ?_
  refine gV (eW h_3) [] [0] ?_
  refine zz ?_
  obtain rfl:=sj hr
  exact aX Tryz.results177 [1]
 refine zz ?_
 refine zk hr ?_ ?_<;>intro h4 hr
 ·obtain⟨x18,h_5,hr⟩:=aA hr
  obtain⟨x19,h_6,hr⟩:=aA hr
  obtain⟨b6,h_7,hr⟩:=aA hr
  refine zz ?_
  refine zc (oB h_5) [] ?_
  refine gV (eW h_6) [] [0,1] ?_
  refine gV (eW h_7) [] [2] ?_
  refine zz ?_
  obtain rfl:=sj hr
  exact aX Tryz.results177 [3]
 refine zz ?_
 refine zk hr ?_ ?_<;>intro h8 hr
 ·obtain⟨x27,h_9,hr⟩:=aA hr
  obtain⟨x28,h_10,hr⟩:=aA hr
  obtain⟨x29,h_11,hr⟩:=aA hr
  refine zz ?_
  refine zc (oB h_9) [] ?_
  refine gV (eW h_10) [] [0,1] ?_
  refine gV (eW h_11) [] [2] ?_
  refine zz ?_
  obtain rfl:=sj hr
  exact aX Tryz.results177 [3]
 obtain⟨nY,h_12,hr⟩:=aA hr
 obtain⟨fB,h_13,hr⟩:=aA hr
 obtain⟨x35,h_14,hr⟩:=aA hr
 refine zz ?_
 refine zc (oB h_12) [] ?_
 refine gV (eW h_13) [] [0,1] ?_
 refine gV (eW h_14) [] [2] ?_
 refine zz ?_
 obtain rfl:=sj hr
 exact aX Tryz.results177 [3]
theorem aFy {N o r} (hr:vW N o=some r):
  Vm.Fn Tryz.prog 178 [] [(cG o)] (.sl 0 0 r.length 1 false) [some ⟨5,r.map (eI .u8)⟩]:=by
 refine zf Tryz.func178 Tryz.ntmps178 ?_
 unfold vW at hr
 refine zz ?_
 refine aY0 ?_
 obtain⟨q,h_1,hr⟩:=aA hr
 obtain⟨x5,h_2,hr⟩:=aA hr
 obtain⟨x8,h_4,hr⟩:=aA hr
 refine aY6 mixed [] [74,75] [[0,1,2,3,4,5,6]]<|zz ?_
 refine zg (jM h_2) [] ?_
 refine zz ?_
 refine zgL (eU h_4) [] [1] ?_
 refine zz ?_
 obtain rfl:=sj hr
 exact aX Tryz.results178 [2]
theorem aGS {N b vn r} (hr:rS N b vn=some r):
  Vm.Fn Tryz.prog 210 [] [(.row none 1 (b.map (eI .u8))),(eI .u64 vn)] (.sl 0 0 r.length 1 false) [some ⟨5,r.map (eI .u8)⟩]:=by
 refine zf Tryz.func210 Tryz.ntmps210 ?_
 unfold rS at hr
 obtain⟨x7,h_1,hr⟩:=aA hr
 obtain⟨x8,h_2,hr⟩:=aA hr
 refine zz ?_
 refine zc (oB h_1) [] ?_
 refine gV (eW h_2) [] [0] ?_
 refine zz ?_
 obtain rfl:=sj hr
 exact aX Tryz.results210 [1]
theorem aBO {N b vs r} (hr:lW N b vs=some r):
  Vm.Fn Tryz.prog 180 [] [(.row none 1 (b.map (eI .u8))),(.row none 1 (vs.map (eI .u8)))] (.sl 0 0 r.length 1 false) [some ⟨5,r.map (eI .u8)⟩]:=by
 refine zf Tryz.func180 Tryz.ntmps180 ?_
 unfold lW at hr
 obtain⟨x9,h_1,hr⟩:=aA hr
 obtain⟨b8,h_2,hr⟩:=aA hr
 refine zz ?_
 refine zc (mF h_1) [] ?_
 refine zz ?_
 refine gV (eW h_2) [] [0] ?_
 refine zz ?_
 obtain rfl:=sj hr
 exact aX Tryz.results180 [1]
theorem aD2 {N o r} (hr:yD N o=some r):
  Vm.Fn Tryz.prog 179 [] [(eR o)] (.sl 0 0 r.length 1 false) [some ⟨5,r.map (eI .u8)⟩]:=by
 refine zf Tryz.func179 Tryz.ntmps179 ?_
 unfold yD at hr
 refine zz ?_
 refine aY0 ?_
 obtain⟨x6,h_1,hr⟩:=aA hr
 obtain⟨x9,h_3,hr⟩:=aA hr
 refine aY6 mixed [] [180,210] [[0,1,2,3,4,5,6,7]]<|zz ?_
 refine zg (aGS h_1) [] ?_
 refine zz ?_
 refine zgL (aBO h_3) [] [1] ?_
 refine zz ?_
 obtain rfl:=sj hr
 exact aX Tryz.results179 [2]
theorem wX {N t cE r} (hr:jN N t cE=some r):
  Vm.Fn Tryz.prog 149 [] [(cK t),(eB cE)] (.sl 0 0 r.length 1 false) [some ⟨5,r.map (eI .u8)⟩]:=by
 refine zf Tryz.func149 Tryz.ntmps149 ?_
 unfold jN at hr
 obtain⟨x16,h_1,hr⟩:=aA hr
 refine zz ?_
 refine zc (eU h_1) [] ?_
 obtain⟨bW,h_2,hr⟩:=aA hr
 refine zz ?_
 refine gV (mF h_2) [] [1] ?_
 refine zz ?_
 refine aY1 fun K1 hK1 hG1=> ?_
 have J1: ∀l1,rV N t cE l1=some r→K1 (aD 89 [(1,(eB cE)),(2,(.ptr 0 0)),(5,(.sl 1 0 l1.length 1 false))]) [some ⟨117,aZ t⟩,some ⟨5,l1.map (eI .u8)⟩]:=by
  intro l1 hr
  unfold rV at hr
  refine hK1 ?_
  obtain⟨x44,h_3,hr⟩:=aA hr
  refine zz ?_
  refine gV (mF h_3) [] [1] ?_
  refine zz ?_
  refine aY1 fun K2 hK2 hG2=> ?_
  have J2: ∀b5,rU N t cE b5=some r→K2 (aD 89 [(1,(eB cE)),(2,(.ptr 0 0)),(5,(.sl 1 0 b5.length 1 false))]) [some ⟨117,aZ t⟩,some ⟨5,b5.map (eI .u8)⟩]:=by
   intro b5 hr
   unfold rU at hr
   refine hK2 ?_
   obtain⟨x60,h_4,hr⟩:=aA hr
   refine zz ?_
   refine gV (eU h_4) [] [1] ?_
   refine zz ?_
   refine aY1 fun K3 hK3 hG3=> ?_
   have J3: ∀l0,wD N l0=some r→K3 (aD 89 [(5,(.sl 0 0 l0.length 1 false))]) [some ⟨5,l0.map (eI .u8)⟩]:=by
    intro l0 hr
    unfold wD at hr
    refine hK3<|zz ?_
    obtain rfl:=sj hr
    exact aX Tryz.results149 [0]
   obtain⟨res4,hL4,hr⟩:=aA hr
   refine zz ?_
   refine aYY<|aY3 (fun m s h=> ∃x64 aM,d8 N t cE m x64 aM=some res4∧Ghost 0 s h (aD 89 [(1,(eB cE)),(5,(.sl 0 0 aM.length 1 false)),(62,(.row none 35 (t.Inputs.map dH))),(63,(eI .i64 (t.Inputs.length:Int))),(64,(eI .i64 x64))]) [some ⟨5,aM.map (eI .u8)⟩]) ⟨0,x60,hL4,(zG [2])⟩ ?_
   rintro m4 s h ⟨x64,aM,hr4,hg⟩
   refine aY2 hg ?_
   clear hg hL4
   rw[d8]at hr4
   refine zz ?_
   refine aY0 ?_
   refine zk hr4 ?_ ?_<;>intro h5 hr4
   ·refine zz ?_
    refine aY1 fun K5 hK5 hG5=> ?_
    have J5: ∀dW,w8 N t cE x64 (d8 N t cE m4) dW=some res4→K5 (aD 89 [(1,(eB cE)),(5,(.sl 0 0 dW.length 1 false)),(62,(.row none 35 (t.Inputs.map dH))),(63,(eI .i64 (t.Inputs.length:Int))),(64,(eI .i64 x64))]) [some ⟨5,dW.map (eI .u8)⟩]:=by
     intro dW hr4
     unfold w8 at hr4
     refine hK5<|zz ?_
     exact⟨aYW.wrap (x64+1),dW,hr4,(zG [0])⟩
    refine aYY ?_
    obtain⟨x66,h_6,hr4⟩:=aA hr4
    refine zz ?_
    refine aY0<|zz ?_
    refine zk hr4 ?_ ?_<;>intro h7 hr4
    ·refine zz ?_
     obtain rfl:=sj hr4
     refine zz ?_
     exact hG3 (zG [0]) (J3 aM hr)
    obtain⟨x75,h_8,hr4⟩:=aA hr4
    refine zz ?_
    refine gV (mF h_8) [] [0] ?_
    obtain⟨res6,hL6,hr4⟩:=aA hr4
    refine zz ?_
    refine aYY<|aY3 (fun m s h=> ∃x79 nR,jI N t cE x64 x66 m x79 nR=some res6∧Ghost 0 s h (aD 89 [(1,(eB cE)),(5,(.sl 0 0 nR.length 1 false)),(62,(.row none 35 (t.Inputs.map dH))),(63,(eI .i64 (t.Inputs.length:Int))),(64,(eI .i64 x64)),(77,(.row none 1 (x66.Witness.map (eL 1 (eI .u8))))),(78,(eI .i64 (x66.Witness.length:Int))),(79,(eI .i64 x79))]) [some ⟨5,nR.map (eI .u8)⟩]) ⟨0,x75,hL6,(zG [2])⟩ ?_
    rintro m6 s h ⟨x79,nR,hr6,hg⟩
    refine aY2 hg ?_
    clear hg hL6
    rw[jI]at hr6
    refine zz ?_
    refine aY0 ?_
    refine zk hr6 ?_ ?_<;>intro h9 hr6
    ·refine zz ?_
     refine aY0<|aYY ?_
     obtain⟨x81,h_10,hr6⟩:=aA hr6
     obtain⟨x85,h_11,hr6⟩:=aA hr6
     refine zz ?_
     refine gV (aBO h_11) [] [0] ?_
     refine zz ?_
     exact⟨aYW.wrap (x79+1),x85,hr6,(zG [1])⟩
    refine zz ?_
    obtain rfl:=sj hr6
    refine zz ?_
    exact hG5 (zG [0]) (J5 nR hr4)
   refine zz ?_
   obtain rfl:=sj hr4
   refine zz ?_
   exact hG3 (zG [0]) (J3 aM hr)
  obtain⟨res7,hL7,hr⟩:=aA hr
  refine zz ?_
  refine aYY<|aY3 (fun m s h=> ∃x48 cN,jH N t cE m x48 cN=some res7∧Ghost 0 s h (aD 89 [(1,(eB cE)),(2,(.ptr 0 0)),(5,(.sl 1 0 cN.length 1 false)),(46,(.row none 2 (t.Outputs.map eR))),(47,(eI .i64 (t.Outputs.length:Int))),(48,(eI .i64 x48))]) [some ⟨117,aZ t⟩,some ⟨5,cN.map (eI .u8)⟩]) ⟨0,x44,hL7,(zG [0,2])⟩ ?_
  rintro m7 s h ⟨x48,cN,hr7,hg⟩
  refine aY2 hg ?_
  clear hg hL7
  rw[jH]at hr7
  refine zz ?_
  refine aY0 ?_
  refine zk hr7 ?_ ?_<;>intro h12 hr7
  ·refine zz ?_
   refine aY0<|aYY ?_
   obtain⟨x50,h_13,hr7⟩:=aA hr7
   obtain⟨x54,h_14,hr7⟩:=aA hr7
   obtain⟨x55,h_15,hr7⟩:=aA hr7
   refine zz ?_
   refine zc (aD2 h_14) [] ?_
   refine zz ?_
   exact⟨aYW.wrap (x48+1),x55,hr7,(zG [0,4])⟩
  refine zz ?_
  obtain rfl:=sj hr7
  refine zz ?_
  exact hG2 (zG [0,1]) (J2 cN hr)
 obtain⟨res8,hL8,hr⟩:=aA hr
 refine zz ?_
 refine aYY<|aY3 (fun m s h=> ∃x26 l1_3,jK N t cE m x26 l1_3=some res8∧Ghost 0 s h (aD 89 [(1,(eB cE)),(2,(.ptr 0 0)),(5,(.sl 1 0 l1_3.length 1 false)),(24,(.row none 35 (t.Inputs.map dH))),(25,(eI .i64 (t.Inputs.length:Int))),(26,(eI .i64 x26))]) [some ⟨117,aZ t⟩,some ⟨5,l1_3.map (eI .u8)⟩]) ⟨0,bW,hL8,(zG [0,2])⟩ ?_
 rintro m8 s h ⟨x26,l1_3,hr8,hg⟩
 refine aY2 hg ?_
 clear hg hL8
 rw[jK]at hr8
 refine zz ?_
 refine aY0 ?_
 refine zk hr8 ?_ ?_<;>intro h16 hr8
 ·refine zz ?_
  refine aY0<|aYY ?_
  obtain⟨x28,h_17,hr8⟩:=aA hr8
  obtain⟨nY,h_18,hr8⟩:=aA hr8
  obtain⟨fB,h_20,hr8⟩:=aA hr8
  obtain⟨x37,h_21,hr8⟩:=aA hr8
  refine zz ?_
  refine AB.rd (cT []) (cT [74,178]) mixed<|aZb (m:=4) [0,1,2,3,5] ?_
  refine zz ?_
  refine zg (aFy h_18) [] ?_
  refine zz ?_
  refine DrawG.jn (m:=2) (L:=lst [0,1,2,3,4,5,6] 9) (s1:=aD 89 [(1,(eB cE)),(2,(.ptr 0 0)),(5,(.sl 1 0 l1_3.length 1 false)),(24,(.row none 35 (t.Inputs.map dH))),(25,(eI .i64 (t.Inputs.length:Int))),(26,(eI .i64 x26)),(34,(.sl 2 0 fB.length 1 false)),(36,(eI .u32 x28.Sequence))]) (h1:=[some ⟨117,aZ t⟩,none,some ⟨5,fB.map (eI .u8)⟩]) ?_ (fun J=> ?_)
  ·refine aZb (m:=0) [7,8]<|zgL (eU h_21) [] [2] ?_
   refine zz ?_
   refine DrawG.nil (by decide +kernel) ?_
   refine zz ?_
   exact⟨aYW.wrap (x26+1),x37,hr8,(zG [0,3])⟩
  refine DrawG.fk (n:=3) [4,6] ⟨?_, ?_,trivial⟩
  ·refine zz ?_
   refine aZb (m:=2) [6]<|zz ?_
   refine aZd J ?_
   exact(zG [0,1,4])
  refine zz ?_
  refine aZb (m:=2) [4]<|zz ?_
  refine aZd J ?_
  exact(zG [0,1,4])
 refine zz ?_
 obtain rfl:=sj hr8
 refine zz ?_
 exact hG1 (zG [0,1]) (J1 l1_3 hr)
theorem lZ {N t r} (hr:k8 N t=some r):
  Vm.Fn Tryz.prog 148 [] [(cK t)] (eB r) []:=by
 refine zf Tryz.func148 Tryz.ntmps148 ?_
 unfold k8 at hr
 refine zz ?_
 refine aY0 ?_
 refine aY1 fun K1 hK1 hG1=> ?_
 have J1: ∀x18,u9 N t x18=some r→K1 (aD 63 [(1,(.ptr 0 0)),(18,(eB x18))]) [some ⟨117,aZ t⟩]:=by
  intro x18 hr
  unfold u9 at hr
  refine hK1 ?_
  refine zk hr ?_ ?_<;>intro h1 hr
  ·refine zz ?_
   obtain rfl:=sj hr
   exact aX Tryz.results148 []
  refine zz ?_
  refine aY1 fun K2 hK2 hG2=> ?_
  have J2:aAB N t=some r→K2 (aD 63 [(1,(.ptr 0 0))]) [some ⟨117,aZ t⟩]:=by
   intro hr
   unfold aAB at hr
   refine hK2 ?_
   refine aY1 fun K3 hK3 hG3=> ?_
   have J3:aAE N t=some r→K3 (aD 63 [(1,(.ptr 0 0))]) [some ⟨117,aZ t⟩]:=by
    intro hr
    unfold aAE at hr
    refine hK3 ?_
    obtain⟨x60,h_2,hr⟩:=aA hr
    refine zz ?_
    refine zc (wX h_2) [] ?_
    refine zz ?_
    obtain rfl:=sj hr
    exact aX Tryz.results148 []
   obtain⟨res4,hL4,hr⟩:=aA hr
   refine zz ?_
   refine aYY<|aY3 (fun m s h=> ∃x39,mA N t m x39=some res4∧Ghost 0 s h (aD 63 [(1,(.ptr 0 0)),(37,(.row none 35 (t.Inputs.map dH))),(38,(eI .i64 (t.Inputs.length:Int))),(39,(eI .i64 x39))]) [some ⟨117,aZ t⟩]) ⟨0,hL4,(zG [0])⟩ ?_
   rintro m4 s h ⟨x39,hr4,hg⟩
   refine aY2 hg ?_
   clear hg hL4
   rw[mA]at hr4
   refine zz ?_
   refine aY0 ?_
   refine zk hr4 ?_ ?_<;>intro h3 hr4
   ·refine zz ?_
    refine aY1 fun K5 hK5 hG5=> ?_
    have J5:aAp N t x39 (mA N t m4)=some res4→K5 (aD 63 [(1,(.ptr 0 0)),(37,(.row none 35 (t.Inputs.map dH))),(38,(eI .i64 (t.Inputs.length:Int))),(39,(eI .i64 x39))]) [some ⟨117,aZ t⟩]:=by
     intro hr4
     unfold aAp at hr4
     refine hK5<|zz ?_
     exact⟨aYW.wrap (x39+1),hr4,(zG [0])⟩
    refine aYY ?_
    obtain⟨x41,h_4,hr4⟩:=aA hr4
    refine zz ?_
    refine aY0<|zz ?_
    refine zk hr4 ?_ ?_<;>intro h5 hr4
    ·refine zz ?_
     obtain rfl:=sj hr4
     obtain rfl:=sj hr
     exact aX Tryz.results148 []
    obtain⟨res6,hL6,hr4⟩:=aA hr4
    refine zz ?_
    refine aYY<|aY3 (fun m s h=> ∃x50,mB N t x39 x41 m x50=some res6∧Ghost 0 s h (aD 63 [(1,(.ptr 0 0)),(37,(.row none 35 (t.Inputs.map dH))),(38,(eI .i64 (t.Inputs.length:Int))),(39,(eI .i64 x39)),(48,(.row none 1 (x41.Witness.map (eL 1 (eI .u8))))),(49,(eI .i64 (x41.Witness.length:Int))),(50,(eI .i64 x50))]) [some ⟨117,aZ t⟩]) ⟨0,hL6,(zG [0])⟩ ?_
    rintro m6 s h ⟨x50,hr6,hg⟩
    refine aY2 hg ?_
    clear hg hL6
    rw[mB]at hr6
    refine zz ?_
    refine aY0 ?_
    refine zk hr6 ?_ ?_<;>intro h6 hr6
    ·refine zz ?_
     refine aY0<|aYY ?_
     obtain⟨x52,h_7,hr6⟩:=aA hr6
     refine zz ?_
     refine zk hr6 ?_ ?_<;>intro h8 hr6
     ·refine zz ?_
      obtain rfl:=sj hr6
      obtain rfl:=sj hr4
      obtain rfl:=sj hr
      exact aX Tryz.results148 []
     refine zz ?_
     exact⟨aYW.wrap (x50+1),hr6,(zG [0])⟩
    refine zz ?_
    obtain rfl:=sj hr6
    refine zz ?_
    exact hG5 (zG [0]) (J5 hr4)
   refine zz ?_
   obtain rfl:=sj hr4
   refine zz ?_
   exact hG3 (zG [0]) (J3 hr)
  obtain⟨res7,hL7,hr⟩:=aA hr
  refine zz ?_
  refine aYY<|aY3 (fun m s h=> ∃bW,kB N t m bW=some res7∧Ghost 0 s h (aD 63 [(1,(.ptr 0 0)),(20,(.row none 2 (t.Outputs.map eR))),(21,(eI .i64 (t.Outputs.length:Int))),(22,(eI .i64 bW))]) [some ⟨117,aZ t⟩]) ⟨0,hL7,(zG [0])⟩ ?_
  rintro m7 s h ⟨bW,hr7,hg⟩
  refine aY2 hg ?_
  clear hg hL7
  rw[kB]at hr7
  refine zz ?_
  refine aY0 ?_
  refine zk hr7 ?_ ?_<;>intro h9 hr7
  ·refine zz ?_
   refine aY0<|aYY ?_
   obtain⟨dL,h_10,hr7⟩:=aA hr7
   refine zz ?_
   refine aY1 fun K8 hK8 hG8=> ?_
   have J8: ∀fB,vF N t bW (kB N t m7) fB=some res7→K8 (aD 63 [(1,(.ptr 0 0)),(20,(.row none 2 (t.Outputs.map eR))),(21,(eI .i64 (t.Outputs.length:Int))),(22,(eI .i64 bW)),(34,(eB fB))]) [some ⟨117,aZ t⟩]:=by
    intro fB hr7
    unfold vF at hr7
    refine hK8 ?_
    refine zk hr7 ?_ ?_<;>intro h11 hr7
    ·refine zz ?_
     obtain rfl:=sj hr7
     obtain rfl:=sj hr
     exact aX Tryz.results148 []
    refine zz ?_
    exact⟨aYW.wrap (bW+1),hr7,(zG [0])⟩
   rcases aYV (decide (dL.Value<0))with h12|h12
   ·replace hr7:=bY hr7 h12
    refine xr<|zz ?_
    exact hG8 (zG [0]) (J8 true hr7)
   replace hr7:=bX hr7 h12
   refine xr<|zz ?_
   exact hG8 (zG [0]) (J8 (decide (520<(dL.Script.length:Int))) hr7)
  refine zz ?_
  obtain rfl:=sj hr7
  refine zz ?_
  exact hG2 (zG [0]) (J2 hr)
 rcases aYV (decide (64<(t.Inputs.length:Int)))with h13|h13
 ·replace hr:=bY hr h13
  refine xr<|zz ?_
  exact hG1 (zG [0]) (J1 true hr)
 replace hr:=bX hr h13
 refine xr<|zz ?_
 exact hG1 (zG [0]) (J1 (decide (64<(t.Outputs.length:Int))) hr)
theorem aEJ {N t r} (hr:aAQ N t=some r):
  Vm.Fn Tryz.prog 118 [] [(cK t)] (.agg (r.map (eI .u8))) []:=by
 refine zf Tryz.func118 Tryz.ntmps118 ?_
 unfold aAQ at hr
 refine zz ?_
 refine aY0 ?_
 obtain⟨x4,h_1,hr⟩:=aA hr
 refine zz ?_
 refine xp (lZ h_1) ?_
 refine zz ?_
 refine zk hr ?_ ?_<;>intro h2 hr
 ·refine zz ?_
  refine xw (v:=(.agg ([0,0,0,0,0,0,0,0,0,0,0,0,0,0,0,0,0,0,0,0,0,0,0,0,0,0,0,0,0,0,0,0].map (eI .u8)))) (bV rfl (oT lD sP rfl)) ?_
  refine zz ?_
  obtain rfl:=sj hr
  exact gL Tryz.results118 aY (zG [])
 obtain⟨x8,h_3,hr⟩:=aA hr
 obtain⟨x9,h_4,hr⟩:=aA hr
 obtain⟨q,h_5,hr⟩:=aA hr
 refine zz ?_
 refine zc (wX h_3) [] ?_
 refine gV (aBa h_4) [] [2] ?_
 refine zz ?_
 obtain rfl:=sj hr
 exact gL Tryz.results118 aY (zG [])
theorem aFK {N p l vs r} (hr:o8 N p l vs=some r):
  Vm.Fn Tryz.prog 79 [] [(cY p),(dO l),(eI .u8 vs)] (.tup [(.sl 0 0 r.1.length 4 true),(eI .i64 r.2)]) [some ⟨117,r.1.flatMap aZ⟩]:=by
 refine zf Tryz.func79 Tryz.ntmps79 ?_
 unfold o8 at hr
 obtain⟨eQ,h_1,hr⟩:=aA hr
 refine zz ?_
 refine aY1 fun K1 hK1 hG1=> ?_
 have J1: ∀fees l0,uI N fees l0=some r→K1 (aD 113 [(8,(.sl 0 0 l0.length 4 true)),(9,(eI .i64 fees))]) [some ⟨117,l0.flatMap aZ⟩]:=by
  intro fees l0 hr
  unfold uI at hr
  refine hK1<|zz ?_
  obtain rfl:=sj hr
  exact oH Tryz.results79 [0]
 obtain⟨bB,hL2,hr⟩:=aA hr
 refine zz ?_
 refine aYY<|aY3 (fun m s h=> ∃dI k l2 l3,fM N p l vs m dI k l2 l3=some bB∧Ghost 0 s h (aD 113 [(2,(eI .u8 vs)),(3,(.ptr 0 0)),(4,(.ptr 1 0)),(8,(.sl 2 0 l2.length 4 true)),(9,(eI .i64 dI)),(10,(.sl 3 0 l3.length 37 true)),(11,(eI .u8 k))]) [some ⟨32,aT p⟩,some ⟨35,aN l⟩,some ⟨117,l2.flatMap aZ⟩,some ⟨59,l3.flatMap aQ⟩]) ⟨0,0,[],eQ,hL2,(zW 117 [0,1,4,3])⟩ ?_
 rintro m2 s h ⟨dI,k,l2,l3,hr2,hg⟩
 refine aY2 hg ?_
 clear hg hL2
 rw[fM]at hr2
 refine aY0<|zz ?_
 refine zk hr2 ?_ ?_<;>intro h2 hr2
 ·refine zz ?_
  refine aY1 fun K3 hK3 hG3=> ?_
  have J3: ∀aE6 dJ eY,pF N p l vs k (fM N p l vs m2) aE6 dJ eY=some bB→K3 (aD 113 [(2,(eI .u8 vs)),(3,(.ptr 0 0)),(4,(.ptr 1 0)),(8,(.sl 2 0 dJ.length 4 true)),(9,(eI .i64 aE6)),(10,(.sl 3 0 eY.length 37 true)),(11,(eI .u8 k))]) [some ⟨32,aT p⟩,some ⟨35,aN l⟩,some ⟨117,dJ.flatMap aZ⟩,some ⟨59,eY.flatMap aQ⟩]:=by
   intro aE6 dJ eY hr2
   unfold pF at hr2
   refine hK3<|zz ?_
   exact⟨aE6,aZa.wrap (k+1),dJ,eY,hr2,(zG [0,1,2,3])⟩
  refine aYY ?_
  obtain⟨res4,hL4,hr2⟩:=aA hr2
  refine zz ?_
  refine aYY<|aY3 (fun m s h=> ∃vi,cU N p l vs dI k l2 l3 m vi=some res4∧Ghost 0 s h (aD 113 [(2,(eI .u8 vs)),(3,(.ptr 0 0)),(4,(.ptr 1 0)),(8,(.sl 2 0 l2.length 4 true)),(9,(eI .i64 dI)),(10,(.sl 3 0 l3.length 37 true)),(11,(eI .u8 k)),(12,(eI .i64 (l3.length:Int))),(13,(eI .i64 vi))]) [some ⟨32,aT p⟩,some ⟨35,aN l⟩,some ⟨117,l2.flatMap aZ⟩,some ⟨59,l3.flatMap aQ⟩]) ⟨0,hL4,(zG [0,1,2,3])⟩ ?_
  rintro m4 s h ⟨vi,hr4,hg⟩
  refine aY2 hg ?_
  clear hg hL4
  rw[cU]at hr4
  refine aY0<|zz ?_
  refine zk hr4 ?_ ?_<;>intro h3 hr4
  ·refine zz ?_
   refine aY1 fun K5 hK5 hG5=> ?_
   have J5:pC N p l vs dI k l2 l3 vi (cU N p l vs dI k l2 l3 m4)=some res4→K5 (aD 113 [(2,(eI .u8 vs)),(3,(.ptr 0 0)),(4,(.ptr 1 0)),(8,(.sl 2 0 l2.length 4 true)),(9,(eI .i64 dI)),(10,(.sl 3 0 l3.length 37 true)),(11,(eI .u8 k)),(12,(eI .i64 (l3.length:Int))),(13,(eI .i64 vi))]) [some ⟨32,aT p⟩,some ⟨35,aN l⟩,some ⟨117,l2.flatMap aZ⟩,some ⟨59,l3.flatMap aQ⟩]:=by
    intro hr4
    unfold pC at hr4
    refine hK5<|zz ?_
    exact⟨aYW.wrap (vi+1),hr4,(zG [0,1,2,3])⟩
   refine aYY ?_
   obtain⟨x46,h_4,hr4⟩:=aA hr4
   obtain⟨x49,h_5,hr4⟩:=aA hr4
   refine zz ?_
   refine xw (v:=(aR x49)) (aS rfl (bR (C:=aQ) (K:=37) (fun _=>rfl) rfl h_5 (bJ (ds:=(aK (eI .u8) x49.Out.Tx [(eI .u32 x49.Out.Index),(eI .i64 x49.Output.Value),(.row none 1 (x49.Output.Script.map (eI .u8))),(eI .i64 x49.Height),(eB x49.Coinbase)])) yA rfl zl rfl))) ?_
   refine zz ?_
   refine aY0 ?_
   refine aY1 fun K6 hK6 hG6=> ?_
   have J6: ∀x63,iW N p l vs dI k l2 l3 vi x46 x49 (cU N p l vs dI k l2 l3 m4) x63=some res4→K6 (aD 113 [(2,(eI .u8 vs)),(3,(.ptr 0 0)),(4,(.ptr 1 0)),(8,(.sl 2 0 l2.length 4 true)),(9,(eI .i64 dI)),(10,(.sl 3 0 l3.length 37 true)),(11,(eI .u8 k)),(12,(eI .i64 (l3.length:Int))),(13,(eI .i64 vi)),(14,(eI .i64 x46)),(15,(.ptr 4 0)),(63,(eB x63))]) [some ⟨32,aT p⟩,some ⟨35,aN l⟩,some ⟨117,l2.flatMap aZ⟩,some ⟨59,l3.flatMap aQ⟩,some ⟨59,aQ x49⟩]:=by
    intro x63 hr4
    unfold iW at hr4
    refine hK6 ?_
    refine zk hr4 ?_ ?_<;>intro h6 hr4
    ·refine zz ?_
     exact hG5 (zG [0,1,2,3]) (J5 hr4)
    obtain⟨x69,h_7,hr4⟩:=aA hr4
    refine zz ?_
    refine zc (aMo h_7) [] ?_
    obtain⟨x75,h_8,hr4⟩:=aA hr4
    refine zz ?_
    refine aZc (o6 [1,1,1,1,1,0,1,1])<|aZc (o6 [1,1,1,1,1,0,0,1])<|dQ aZ 4 [(aG.mk x69.1 x69.2.1 x69.2.2.1 x69.2.2.2.1)] ?_
    refine zz ?_
    refine aY1 fun K7 hK7 hG7=> ?_
    have J7: ∀j8,iX N p l vs dI k x69 x75 (cU N p l vs dI k l2 l3 m4) j8=some res4→K7 (aD 113 [(2,(eI .u8 vs)),(3,(.ptr 0 0)),(4,(.ptr 1 0)),(8,(.sl 2 0 x75.length 4 true)),(9,(eI .i64 (aYW.wrap (dI+x69.2.2.2.2)))),(10,(.sl 3 0 j8.length 37 true)),(11,(eI .u8 k)),(16,(.ptr 4 0))]) [some ⟨32,aT p⟩,some ⟨35,aN l⟩,some ⟨117,x75.flatMap aZ⟩,some ⟨59,j8.flatMap aQ⟩,some ⟨117,[(eI .u32 x69.1),(.row none 35 (x69.2.1.map dH)),(.row none 2 (x69.2.2.1.map eR)),(eI .u32 x69.2.2.2.1)]⟩]:=by
     intro j8 hr4
     unfold iX at hr4
     refine hK7 ?_
     obtain⟨x89,h_9,hr4⟩:=aA hr4
     obtain⟨q,h_10,hr4⟩:=aA hr4
     refine zz ?_
     refine xp (aEJ h_9) ?_
     refine zz ?_
     refine aY1 fun K8 hK8 hG8=> ?_
     have J8: ∀aID,pI N p l vs dI k x69 x75 (cU N p l vs dI k l2 l3 m4) aID=some res4→K8 (aD 113 [(2,(eI .u8 vs)),(3,(.ptr 0 0)),(4,(.ptr 1 0)),(8,(.sl 2 0 x75.length 4 true)),(9,(eI .i64 (aYW.wrap (dI+x69.2.2.2.2)))),(10,(.sl 3 0 aID.length 37 true)),(11,(eI .u8 k))]) [some ⟨32,aT p⟩,some ⟨35,aN l⟩,some ⟨117,x75.flatMap aZ⟩,some ⟨59,aID.flatMap aQ⟩]:=by
      intro aID hr4
      unfold pI at hr4
      refine hK8<|zz ?_
      obtain rfl:=sj hr4
      refine zz ?_
      exact hG3 (zG [0,1,2,3]) (J3 (aYW.wrap (dI+x69.2.2.2.2)) x75 aID hr2)
     obtain⟨res9,hL9,hr4⟩:=aA hr4
     refine zz ?_
     refine aYY<|aY3 (fun m s h=> ∃x93 l3_4,gR N p l vs dI k x69 x75 x89 m x93 l3_4=some res9∧Ghost 0 s h (aD 113 [(2,(eI .u8 vs)),(3,(.ptr 0 0)),(4,(.ptr 1 0)),(8,(.sl 2 0 x75.length 4 true)),(9,(eI .i64 (aYW.wrap (dI+x69.2.2.2.2)))),(10,(.sl 3 0 l3_4.length 37 true)),(11,(eI .u8 k)),(18,(.ptr 4 0)),(91,(.row none 2 (x69.2.2.1.map eR))),(92,(eI .i64 (x69.2.2.1.length:Int))),(93,(eI .i64 x93))]) [some ⟨32,aT p⟩,some ⟨35,aN l⟩,some ⟨117,x75.flatMap aZ⟩,some ⟨59,l3_4.flatMap aQ⟩,some ⟨24,x89.map (eI .u8)⟩]) ⟨0,j8,hL9,(zG [0,1,2,3,5])⟩ ?_
     rintro m9 s h ⟨x93,l3_4,hr9,hg⟩
     refine aY2 hg ?_
     clear hg hL9
     rw[gR]at hr9
     refine zz ?_
     refine aY0 ?_
     refine zk hr9 ?_ ?_<;>intro h11 hr9
     ·refine zz ?_
      refine aY0<|aYY ?_
      obtain⟨x96,h_12,hr9⟩:=aA hr9
      obtain⟨aIr,h_13,hr9⟩:=aA hr9
      refine zz ?_
      refine xw (v:=(.agg (aK (eI .u8) x89 [(eI .u32 (aYZ.wrap x93))]))) (bV rfl (aE0 (ps':=[(0,(.agg (aK (eI .u8) x89 []))),(1,(eI .u32 (aYZ.wrap x93)))]) (by simp only[gO (l:=x89) (bP h_10)]<;>rfl) (iZ rB aKA (by kernel_rfl)))) ?_
      refine zz ?_
      refine xw (v:=(.agg (aK (eI .u8) x89 [(eI .u32 (aYZ.wrap x93)),(eI .i64 x96.Value),(.row none 1 (x96.Script.map (eI .u8))),(eI .i64 (aYW.wrap (l.Height+1))),(eB false)]))) (bV rfl (iZ yA aQa rfl))<|dQ aQ 37 [(aC.mk (aI.mk x89 (aYZ.wrap x93)) x96 (aYW.wrap (l.Height+1)) false)] ?_
      refine zz ?_
      exact⟨aYW.wrap (x93+1),aIr,hr9,(zG [0,1,2,7,4])⟩
     refine zz ?_
     obtain rfl:=sj hr9
     refine zz ?_
     exact hG8 (zG [0,1,2,3]) (J8 l3_4 hr4)
    rcases aYV (decide (aYW.wrap (x46+1)=(l3.length:Int)))with h14|h14
    ·replace hr4:=bY hr4 h14
     obtain⟨x82,h_15,hr4⟩:=aA hr4
     obtain⟨x87,h_16,hr4⟩:=aA hr4
     refine aY6 mixed [] [] [[0,1,2,3,4,5,6,7],[8,9]]<|zz ?_
     refine xw (v:=(.sl 3 0 x82.length 37 true)) (aM7 rfl rfl rfl rfl (aYM (l:=l3) rfl aIT yA rfl h_15)) ?_
     refine zz ?_
     refine xw (v:=(.row none 37 ([].map aR))) (vO rfl rfl rfl (aXt (l:=l3) rfl aIT yA rfl rfl (of_decide_eq_true h14) (aUX h_5))) ?_
     refine zz ?_
     refine⟨_,_,(Ghost.cutF (t:=82) (C:=aQ) (l:=l3) (K:=37) (h':=[some ⟨32,aT p⟩,some ⟨35,aN l⟩,none,some ⟨59,x82.flatMap aQ⟩,some ⟨59,aQ x49⟩,none,none,some ⟨117,[(eI .u32 x69.1),(.row none 35 (x69.2.1.map dH)),(.row none 2 (x69.2.2.1.map eR)),(eI .u32 x69.2.2.2.1)]⟩,some ⟨117,[(aG.mk x69.1 x69.2.1 x69.2.2.1 x69.2.2.2.1)].flatMap aZ⟩,some ⟨117,x75.flatMap aZ⟩]) (fun _=>rfl) rfl rfl h_15 rfl), ?_⟩
     refine zz ?_
     exact hG7 (zG [0,1,9,10,7]) (J7 x87 hr4)
    replace hr4:=bX hr4 h14
    refine aY2 (zv 3) ?_
    obtain⟨aUn,h_17,hr4⟩:=aA hr4
    obtain⟨x86,h_18,hr4⟩:=aA hr4
    obtain⟨aKg,h_19,hr4⟩:=aA hr4
    refine aY6 mixed [] [] [[0,1,2,3,4,5,6,7,8,9]]<|zz ?_
    refine xw (v:=(.sl 10 0 aKg.length 37 true)) (h':=[some ⟨32,aT p⟩,some ⟨35,aN l⟩,none,none,some ⟨59,aQ x49⟩,none,none,some ⟨117,[(eI .u32 x69.1),(.row none 35 (x69.2.1.map dH)),(.row none 2 (x69.2.2.1.map eR)),(eI .u32 x69.2.2.2.1)]⟩,some ⟨117,[(aG.mk x69.1 x69.2.1 x69.2.2.1 x69.2.2.2.1)].flatMap aZ⟩,some ⟨117,x75.flatMap aZ⟩,some ⟨59,aKg.flatMap aQ⟩]) (uX rfl rfl (aXk (C:=aQ) (K:=37) (fun _=>rfl) aIT yA ⟨rfl,rfl,zl,zl⟩ (aT1 (C:=aQ)) (aVq h_18 h14) rfl h_19 rfl rfl)) ?_
    refine zz ?_
    exact hG7 (zG [0,1,9,10,7]) (J7 aKg hr4)
   rcases aYV x49.Coinbase with h20|h20
   ·replace hr4:=bY hr4 h20
    refine xr<|zz ?_
    exact hG6 (zG [0,1,2,3,4]) (J6 (decide ((aYW.wrap ((aYW.wrap (l.Height+1))-x49.Height))<p.Maturity)) hr4)
   replace hr4:=bX hr4 h20
   refine xr<|zz ?_
   exact hG6 (zG [0,1,2,3,4]) (J6 false hr4)
  refine zz ?_
  obtain rfl:=sj hr4
  refine zz ?_
  exact hG3 (zG [0,1,2,3]) (J3 dI l2 l3 hr2)
 refine zz ?_
 obtain rfl:=sj hr2
 refine zz ?_
 exact hG1 (zG [2]) (J1 dI l2 hr)
theorem aNg {N r} (hr:aHC N=some r):
  Vm.Fn Tryz.prog 119 [] [] (cG r) []:=by
 refine zf Tryz.func119 Tryz.ntmps119 ?_
 unfold aHC at hr
 refine zz ?_
 refine xw (v:=(.agg (aK (eI .u8) (aYX 32 0) [(eI .u32 4294967295)]))) (bV rfl (iZ rB aKA rfl)) ?_
 refine zz ?_
 obtain rfl:=sj hr
 exact gL Tryz.results119 aY (zG [])
theorem aIS {N height value script r} (hr:aAx N height value script=some r):
  Vm.Fn Tryz.prog 80 [] [(eI .i64 height),(eI .i64 value),(.row none 1 (script.map (eI .u8)))] (cK r) []:=by
 refine zf Tryz.func80 Tryz.ntmps80 ?_
 unfold aAx at hr
 obtain⟨x7,h_1,hr⟩:=aA hr
 refine zz ?_
 refine xp (aNg h_1) ?_
 refine zz ?_
 refine xw (v:=(.agg (aK (eI .u8) x7.Tx [(eI .u32 x7.Index),(eI .u32 (aYZ.wrap height)),(.row (some true) 1 [])]))) (bV rfl (iZ aEE aMT rfl))<|dQ fN 35 [(bL.mk x7 (aYZ.wrap height) [])] ?_
 refine zz ?_
 refine dQ dM 2 [(bA.mk value script)] ?_
 refine zz ?_
 obtain rfl:=sj hr
 exact gL Tryz.results80 aY (aY8 (o6 [1,0,1]) (aY8 (o6 [1,0,0]) (zG [])))
theorem aMh {N t r} (hr:aBE N t=some r):
  Vm.Fn Tryz.prog 120 [] [(cK t)] (.agg (r.map (eI .u8))) []:=by
 refine zf Tryz.func120 Tryz.ntmps120 ?_
 unfold aBE at hr
 refine zz ?_
 refine aY0 ?_
 obtain⟨x4,h_1,hr⟩:=aA hr
 refine zz ?_
 refine xp (lZ h_1) ?_
 refine zz ?_
 refine zk hr ?_ ?_<;>intro h2 hr
 ·refine zz ?_
  refine xw (v:=(.agg ([0,0,0,0,0,0,0,0,0,0,0,0,0,0,0,0,0,0,0,0,0,0,0,0,0,0,0,0,0,0,0,0].map (eI .u8)))) (bV rfl (oT lD sP rfl)) ?_
  refine zz ?_
  obtain rfl:=sj hr
  exact gL Tryz.results120 aY (zG [])
 obtain⟨x8,h_3,hr⟩:=aA hr
 obtain⟨x9,h_4,hr⟩:=aA hr
 obtain⟨q,h_5,hr⟩:=aA hr
 refine zz ?_
 refine zc (wX h_3) [] ?_
 refine gV (aBa h_4) [] [2] ?_
 refine zz ?_
 obtain rfl:=sj hr
 exact gL Tryz.results120 aY (zG [])
theorem vH {N l r} (hr:nN N l=some r):
  Vm.Fn Tryz.prog 156 [] [(.row none 1 (l.map (eL 1 (eI .u8))))] (.sl 0 0 r.length 1 false) [some ⟨5,r.map (eI .u8)⟩]:=by
 refine zf Tryz.func156 Tryz.ntmps156 ?_
 unfold nN at hr
 refine zz ?_
 refine aY1 fun K1 hK1 hG1=> ?_
 have J1: ∀l0,aDk N l0=some r→K1 (aD 17 [(3,(.sl 0 0 l0.length 1 false))]) [some ⟨5,l0.map (eI .u8)⟩]:=by
  intro l0 hr
  unfold aDk at hr
  refine hK1<|zz ?_
  obtain rfl:=sj hr
  exact aX Tryz.results156 [0]
 obtain⟨bB,hL2,hr⟩:=aA hr
 refine zz ?_
 refine aYY<|aY3 (fun m s h=> ∃x8 aM,o5 N l m x8 aM=some bB∧Ghost 0 s h (aD 17 [(3,(.sl 0 0 aM.length 1 false)),(6,(.row none 1 (l.map (eL 1 (eI .u8))))),(7,(eI .i64 (l.length:Int))),(8,(eI .i64 x8))]) [some ⟨5,aM.map (eI .u8)⟩]) ⟨0,[],hL2,(zW 5 [0])⟩ ?_
 rintro m2 s h ⟨x8,aM,hr2,hg⟩
 refine aY2 hg ?_
 clear hg hL2
 rw[o5]at hr2
 refine zz ?_
 refine aY0 ?_
 refine zk hr2 ?_ ?_<;>intro h1 hr2
 ·refine zz ?_
  refine aY0<|aYY ?_
  obtain⟨bQ,h_2,hr2⟩:=aA hr2
  obtain⟨bZ,h_3,hr2⟩:=aA hr2
  refine zz ?_
  refine gV (eW h_3) [] [0] ?_
  refine zz ?_
  exact⟨aYW.wrap (x8+1),bZ,hr2,(zG [1])⟩
 refine zz ?_
 obtain rfl:=sj hr2
 refine zz ?_
 exact hG1 (zG [0]) (J1 aM hr)
theorem aMc {N l vr r} (hr:aBh N l vr=some r):
  Vm.Fn Tryz.prog 181 [] [(.agg (l.map (eI .u8))),(.agg (vr.map (eI .u8)))] (.agg (r.map (eI .u8))) []:=by
 refine zf Tryz.func181 Tryz.ntmps181 ?_
 unfold aBh at hr
 refine zz ?_
 refine aY0 ?_
 obtain⟨q,h_1,hr⟩:=aA hr
 obtain⟨q_1,h_2,hr⟩:=aA hr
 obtain⟨x9,h_3,hr⟩:=aA hr
 obtain⟨bQ,h_5,hr⟩:=aA hr
 obtain⟨q_2,h_7,hr⟩:=aA hr
 refine aY6 mixed [] [73,156] [[0,1,2],[3,4,5,6]]<|zz ?_
 refine⟨_,_,(aY8 (aY8 (zv 3) (zv 0)) (zv 1)), ?_⟩
 refine zz ?_
 refine zgL (vH h_3) [] [4] ?_
 refine zgL (lT h_5) [] [5] ?_
 refine zz ?_
 obtain rfl:=sj hr
 exact gL Tryz.results181 aY (zG [])
theorem aJp {N l r} (hr:aBs N l=some r):
  Vm.Fn Tryz.prog 150 [] [(.row none 32 (l.map (eA (eI .u8))))] (.sl 0 0 r.length 1 false) [some ⟨175,r.map (eL 32 (eA (eI .u8)))⟩]:=by
 refine zf Tryz.func150 Tryz.ntmps150 ?_
 unfold aBs at hr
 refine zz ?_
 refine aY1 fun K1 hK1 hG1=> ?_
 have J1: ∀l0,aBH N l0=some r→K1 (aD 48 [(3,(.sl 0 0 l0.length 1 false))]) [some ⟨175,l0.map (eL 32 (eA (eI .u8)))⟩]:=by
  intro l0 hr
  unfold aBH at hr
  refine hK1<|zz ?_
  obtain rfl:=sj hr
  exact aX Tryz.results150 [0]
 obtain⟨bB,hL2,hr⟩:=aA hr
 refine aYY<|aY3 (fun m s h=> ∃l_1 aM,jD N m l_1 aM=some bB∧Ghost 0 s h (aD 48 [(0,(.row none 32 (l_1.map (eA (eI .u8))))),(3,(.sl 0 0 aM.length 1 false))]) [some ⟨175,aM.map (eL 32 (eA (eI .u8)))⟩]) ⟨l,[l],hL2,(gF [0])⟩ ?_
 rintro m2 s h ⟨l_1,aM,hr2,hg⟩
 refine aY2 hg ?_
 clear hg hL2
 rw[jD]at hr2
 refine aY0<|zz ?_
 refine zk hr2 ?_ ?_<;>intro h1 hr2
 ·refine zz ?_
  refine aYY ?_
  refine zz ?_
  refine aY1 fun K3 hK3 hG3=> ?_
  have J3: ∀l1,wH N aM (jD N m2) l1=some bB→K3 (aD 48 [(3,(.sl 0 0 aM.length 1 false)),(4,(.sl 1 0 l1.length 32 true))]) [some ⟨175,aM.map (eL 32 (eA (eI .u8)))⟩,some ⟨24,l1.flatMap (lL (eI .u8))⟩]:=by
   intro l1 hr2
   unfold wH at hr2
   refine hK3 ?_
   obtain⟨q,h_2,hr2⟩:=aA hr2
   obtain⟨x45,h_3,hr2⟩:=aA hr2
   refine zz ?_
   refine aZc (o6 [1,0]) ?_
   refine zz ?_
   exact⟨l1,x45,hr2,(zG [3])⟩
  obtain⟨res4,hL4,hr2⟩:=aA hr2
  refine zz ?_
  refine aYY<|aY3 (fun m s h=> ∃vi b5,gE N l_1 aM m vi b5=some res4∧Ghost 0 s h (aD 48 [(0,(.row none 32 (l_1.map (eA (eI .u8))))),(3,(.sl 0 0 aM.length 1 false)),(4,(.sl 1 0 b5.length 32 true)),(5,(eI .i64 vi))]) [some ⟨175,aM.map (eL 32 (eA (eI .u8)))⟩,some ⟨24,b5.flatMap (lL (eI .u8))⟩]) ⟨0,[],hL4,(zW 24 [0,1])⟩ ?_
  rintro m4 s h ⟨vi,b5,hr4,hg⟩
  refine aY2 hg ?_
  clear hg hL4
  rw[gE]at hr4
  refine aY0<|zz ?_
  refine zk hr4 ?_ ?_<;>intro h4 hr4
  ·refine zz ?_
   refine aY1 fun K5 hK5 hG5=> ?_
   have J5: ∀cN,oD N l_1 aM vi (gE N l_1 aM m4) cN=some res4→K5 (aD 48 [(0,(.row none 32 (l_1.map (eA (eI .u8))))),(3,(.sl 0 0 aM.length 1 false)),(4,(.sl 1 0 cN.length 32 true)),(5,(eI .i64 vi))]) [some ⟨175,aM.map (eL 32 (eA (eI .u8)))⟩,some ⟨24,cN.flatMap (lL (eI .u8))⟩]:=by
    intro cN hr4
    unfold oD at hr4
    refine hK5<|zz ?_
    exact⟨aYW.wrap (vi+2),cN,hr4,(zG [0,1])⟩
   refine aYY ?_
   refine zz ?_
   refine zk hr4 ?_ ?_<;>intro h5 hr4
   ·obtain⟨x25,h_6,hr4⟩:=aA hr4
    obtain⟨q_1,h_7,hr4⟩:=aA hr4
    obtain⟨fA,h_8,hr4⟩:=aA hr4
    obtain⟨q_2,h_9,hr4⟩:=aA hr4
    obtain⟨g6,h_10,hr4⟩:=aA hr4
    obtain⟨q_3,h_12,hr4⟩:=aA hr4
    obtain⟨fB,h_13,hr4⟩:=aA hr4
    refine aY6 mixed [181] [] [[0,1,2,3,4,5,6,7,8,9,10,11,12,13]]<|zz ?_
    refine xw (v:=(.agg (x25.map (eI .u8)))) (aS rfl (aNX (E:=(eI .u8)) lD rfl h_6 (bP h_7))) ?_
    refine zz ?_
    refine xw (v:=(.agg (fA.map (eI .u8)))) (aS rfl (aNX (E:=(eI .u8)) lD rfl h_8 (bP h_9)))<|xu (aMc h_10)<|xw (v:=(.sl 2 0 1 32 true)) (h':=[some ⟨175,aM.map (eL 32 (eA (eI .u8)))⟩,some ⟨24,b5.flatMap (lL (eI .u8))⟩,some ⟨24,[g6].flatMap (lL (eI .u8))⟩]) (aCj rfl (aMS (ps':=[(0,.agg (lL (eI .u8) g6))]) (by simp only[aF3,lL,gO (l:=g6) (bP h_12)]) (aJ1 (len:=1) (C:=(lL (eI .u8))) (xs:=[g6]) (K:=32) (fun _=>rfl) (fun _=>rfl) aHS lD ⟨zl,zl,zl⟩ rfl rfl rfl rfl rfl rfl))) ?_
    refine zz ?_
    exact hG5 (zG [0,3]) (J5 fB hr4)
   obtain⟨x38,h_14,hr4⟩:=aA hr4
   obtain⟨q_4,h_15,hr4⟩:=aA hr4
   obtain⟨x41,h_16,hr4⟩:=aA hr4
   refine zz ?_
   refine xw (v:=(.agg (x38.map (eI .u8)))) (aS rfl (aNX (E:=(eI .u8)) lD rfl h_14 (bP h_15)))<|xw (v:=(.sl 2 0 1 32 true)) (h':=[some ⟨175,aM.map (eL 32 (eA (eI .u8)))⟩,some ⟨24,b5.flatMap (lL (eI .u8))⟩,some ⟨24,[x38].flatMap (lL (eI .u8))⟩]) (aCj rfl (aMS (ps':=[(0,.agg (lL (eI .u8) x38))]) (by simp only[aF3,lL,gO (l:=x38) (bP h_15)]) (aJ1 (len:=1) (C:=(lL (eI .u8))) (xs:=[x38]) (K:=32) (fun _=>rfl) (fun _=>rfl) aHS lD ⟨zl,zl,zl⟩ rfl rfl rfl rfl rfl rfl))) ?_
   refine zz ?_
   exact hG5 (zG [0,3]) (J5 x41 hr4)
  refine zz ?_
  obtain rfl:=sj hr4
  refine zz ?_
  exact hG3 (zG [0,1]) (J3 b5 hr2)
 refine zz ?_
 obtain rfl:=sj hr2
 refine zz ?_
 exact hG1 (zG [0]) (J1 aM hr)
end Go.Proofs.YtgfdllellpbmoaaGreatDoor
