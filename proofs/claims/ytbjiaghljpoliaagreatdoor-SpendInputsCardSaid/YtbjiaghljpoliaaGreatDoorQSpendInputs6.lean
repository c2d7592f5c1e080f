/- Texts of ours, joined: Wk1. -/
import Derived.Test.YtbjiaghljpoliaaGreatDoorQSpendInputs5
open List renaming replicate → aVO,length_map → aV7
open Go.IntKind renaming i64 → aVP,u32 → aVY,max → aWc,u64 → aWe
open Go.Vm.DrawG renaming pick → aVQ,jg → aV2,fork → aV3,nil → aWd,jn → aWg
open Go.Vm.AB renaming block → aVR,seq → aVT,seq_g → aVU,ghost → aVV,loopN → aVW,rs → aV8
open Bool renaming eq_false_or_eq_true → aVS
open Go.Vm.Conv renaming same → aVX,row → aWb,agg → aWh
open Go.Vm.Convs renaming cons → aVZ,nil → aV9
open Go.Vm.Fork renaming cons → aV0,nil → aV5
open Int renaming toNat → aV1
open Go.Vm.FCv renaming cons → aV4
open Go.Vm.Ghost renaming trans → aV6,virt → aWf
open Go.Vm.OpsX renaming ghost → aWa
set_option linter.unusedVariables false
set_option linter.unusedSimpArgs false
set_option maxRecDepth 20000
set_option maxHeartbeats 1000000
namespace Go.Proofs.YtbjiaghljpoliaaGreatDoor
open Go Go.Vm
theorem aAJ {N:Nat}{vn d7:Int}{r:(List Int)}(hr:qF N vn d7=some r):
  Vm.Fn Tryz.prog 78 [] [(eI .u64 vn),(eI .i64 d7)] (.sl 0 0 r.length 1 false) [some ⟨5,r.map (eI .u8)⟩]:=by
 refine zf Tryz.func78 Tryz.ntmps78 ?_
 unfold qF at hr
 obtain⟨x8,h_1,hr⟩:=aC hr
 refine zz ?_
 refine xw (v:=(.sl 0 0 x8.length 1 false)) (h':=[some ⟨5,x8.map (eI .u8)⟩]) (aIR rfl rfl (mkS (E:=(eI .u8)) (y:=0) dC dO ⟨zl,rfl,rfl⟩ rfl rfl rfl h_1 rfl rfl)) ?_
 refine zz ?_
 refine aVU fun K1 hK1 hG1=> ?_
 have J1: ∀(l0:List Int),vR N l0=some r→K1 (aI 23 [(5,(.sl 0 0 l0.length 1 false))]) [some ⟨5,l0.map (eI .u8)⟩]:=by
  intro l0 hr
  unfold vR at hr
  refine hK1 _ _ ?_
  refine zz ?_
  obtain rfl:=sj hr
  exact bI Tryz.results78 [0]
 obtain⟨bQ,hL2,hr⟩:=aC hr
 refine zz ?_
 refine aVR<|aVW (fun m s h=> ∃(cD:Int)(aS:List Int),kH N vn d7 m cD aS=some bQ∧Ghost 0 s h (aI 23 [(0,(eI .u64 vn)),(5,(.sl 0 0 aS.length 1 false)),(9,(eI .i64 d7)),(10,(eI .i64 cD))]) [some ⟨5,aS.map (eI .u8)⟩]) (n:=N) ⟨0,x8,hL2,(zG [0])⟩ (by rintro s h ⟨_,_,h0,_⟩;simp[kH]at h0) ?_
 rintro m2 s h ⟨cD,aS,hr2,hg⟩
 refine aVV hg ?_
 clear hg hL2
 rw[kH]at hr2
 refine zz ?_
 refine aVT ?_
 refine zk hr2 rfl (fun h2 hr2=> ?_) (fun h2 hr2=> ?_)
 ·refine zz ?_
  refine aVT<|aVR ?_
  obtain⟨x18,h_3,hr2⟩:=aC hr2
  obtain⟨bS,h_4,hr2⟩:=aC hr2
  refine zz ?_
  exact⟨aVP.wrap (cD+1),aS.set (aV1 cD) (IntKind.u8.wrap x18),hr2,(lK [0])⟩
 refine zz ?_
 obtain rfl:=sj hr2
 refine zz ?_
 exact hG1 _ _ _ _ (zG [0]) (J1 aS hr)
theorem i5 {N:Nat}{b vs:List Int}{r:(List Int)}(hr:gX N b vs=some r):
  Vm.Fn Tryz.prog 77 [] [(.row none 1 (b.map (eI .u8))),(.row none 1 (vs.map (eI .u8)))] (.sl 0 0 r.length 1 false) [some ⟨5,r.map (eI .u8)⟩]:=by
 refine zf Tryz.func77 Tryz.ntmps77 ?_
 unfold gX at hr
 obtain⟨b4,h_1,hr⟩:=aC hr
 refine zz ?_
 refine xw (v:=(.sl 0 0 0 1 false)) (h':=[some ⟨5,b4.map (eI .u8)⟩]) (aIR rfl rfl (mkC (E:=(eI .u8)) (y:=0) dC dO ⟨zl,rfl,rfl⟩ rfl rfl rfl h_1 rfl rfl)) ?_
 obtain⟨bR,h_2,hr⟩:=aC hr
 refine zz ?_
 refine xw (v:=(.sl 1 0 bR.length 1 false)) (h':=[none,some ⟨5,bR.map (eI .u8)⟩]) (yC rfl rfl (aSX (E:=(eI .u8)) (Nat.zero_le _) dC dO ⟨rfl,rfl,zl⟩ rfl (aDH (fun _=>rfl)) h_2 rfl rfl)) ?_
 obtain⟨x17,h_3,hr⟩:=aC hr
 refine zz ?_
 obtain rfl:=sj hr
 exact bI Tryz.results77 [2]
theorem lF {N:Nat}{b:List Int}{vn:Int}{r:(List Int)}(hr:hH N b vn=some r):
  Vm.Fn Tryz.prog 49 [] [(.row none 1 (b.map (eI .u8))),(eI .u32 vn)] (.sl 0 0 r.length 1 false) [some ⟨5,r.map (eI .u8)⟩]:=by
 refine zf Tryz.func49 Tryz.ntmps49 ?_
 unfold hH at hr
 obtain⟨x8,h_1,hr⟩:=aC hr
 obtain⟨x9,h_2,hr⟩:=aC hr
 refine zz ?_
 refine zc (aAJ h_1) [] ?_
 refine jD (i5 h_2) [] [0] ?_
 refine zz ?_
 obtain rfl:=sj hr
 exact bI Tryz.results49 [1]
theorem aF3 {N:Nat}{b:List Int}{vn:Int}{r:(List Int)}(hr:vY N b vn=some r):
  Vm.Fn Tryz.prog 103 [] [(.row none 1 (b.map (eI .u8))),(eI .u16 vn)] (.sl 0 0 r.length 1 false) [some ⟨5,r.map (eI .u8)⟩]:=by
 refine zf Tryz.func103 Tryz.ntmps103 ?_
 unfold vY at hr
 obtain⟨x8,h_1,hr⟩:=aC hr
 obtain⟨x9,h_2,hr⟩:=aC hr
 refine zz ?_
 refine zc (aAJ h_1) [] ?_
 refine jD (i5 h_2) [] [0] ?_
 refine zz ?_
 obtain rfl:=sj hr
 exact bI Tryz.results103 [1]
theorem xE {N:Nat}{b:List Int}{vn:Int}{r:(List Int)}(hr:mD N b vn=some r):
  Vm.Fn Tryz.prog 51 [] [(.row none 1 (b.map (eI .u8))),(eI .u64 vn)] (.sl 0 0 r.length 1 false) [some ⟨5,r.map (eI .u8)⟩]:=by
 refine zf Tryz.func51 Tryz.ntmps51 ?_
 unfold mD at hr
 obtain⟨x7,h_1,hr⟩:=aC hr
 obtain⟨x8,h_2,hr⟩:=aC hr
 refine zz ?_
 refine zc (aAJ h_1) [] ?_
 refine jD (i5 h_2) [] [0] ?_
 refine zz ?_
 obtain rfl:=sj hr
 exact bI Tryz.results51 [1]
theorem rB {N:Nat}{b:List Int}{vn:Int}{r:(List Int)}(hr:jJ N b vn=some r):
  Vm.Fn Tryz.prog 79 [] [(.row none 1 (b.map (eI .u8))),(eI .u64 vn)] (.sl 0 0 r.length 1 false) [some ⟨5,r.map (eI .u8)⟩]:=by
 refine zf Tryz.func79 Tryz.ntmps79 ?_
 unfold jJ at hr
 refine zz ?_
 refine aVT<|aVR ?_
 refine zz ?_
 refine zk hr rfl (fun h1 hr=> ?_) (fun h1 hr=> ?_)
 ·obtain⟨fC,h_2,hr⟩:=aC hr
  refine zz ?_
  refine jD (i5 h_2) [] [0] ?_
  refine zz ?_
  obtain rfl:=sj hr
  exact bI Tryz.results79 [1]
 refine zz ?_
 refine zk hr rfl (fun h3 hr=> ?_) (fun h3 hr=> ?_)
 ·obtain⟨x18,h_4,hr⟩:=aC hr
  obtain⟨d9,h_5,hr⟩:=aC hr
  refine zz ?_
  refine jD (i5 h_4) [] [0] ?_
  refine zz ?_
  refine jD (aF3 h_5) [] [1] ?_
  refine zz ?_
  obtain rfl:=sj hr
  exact bI Tryz.results79 [2]
 refine zz ?_
 refine zk hr rfl (fun h6 hr=> ?_) (fun h6 hr=> ?_)
 ·obtain⟨x27,h_7,hr⟩:=aC hr
  obtain⟨lL,h_8,hr⟩:=aC hr
  refine zz ?_
  refine jD (i5 h_7) [] [0] ?_
  refine zz ?_
  refine jD (lF h_8) [] [1] ?_
  refine zz ?_
  obtain rfl:=sj hr
  exact bI Tryz.results79 [2]
 obtain⟨jY,h_9,hr⟩:=aC hr
 obtain⟨x35,h_10,hr⟩:=aC hr
 refine zz ?_
 refine jD (i5 h_9) [] [0] ?_
 refine zz ?_
 refine jD (xE h_10) [] [1] ?_
 refine zz ?_
 obtain rfl:=sj hr
 exact bI Tryz.results79 [2]
theorem aFz {N:Nat}{b vh:List Int}{r:(List Int)}(hr:uT N b vh=some r):
  Vm.Fn Tryz.prog 50 [] [(.row none 1 (b.map (eI .u8))),(.agg (vh.map (eI .u8)))] (.sl 0 0 r.length 1 false) [some ⟨5,r.map (eI .u8)⟩]:=by
 refine zf Tryz.func50 Tryz.ntmps50 ?_
 unfold uT at hr
 obtain⟨q,h_1,hr⟩:=aC hr
 obtain⟨x7,h_2,hr⟩:=aC hr
 refine zz ?_
 refine jD (i5 h_2) [] [0] ?_
 refine zz ?_
 obtain rfl:=sj hr
 exact bI Tryz.results50 [1]
theorem aGX {N:Nat}{y4:List Int}{oZ:Int}{r:(List Int)}(hr:aBA N y4 oZ=some r):
  Vm.Fn Tryz.prog 26 [] [(.agg (bG (eI .u8) y4 [(eI .u32 oZ)]))] (.sl 0 0 r.length 1 false) [some ⟨5,r.map (eI .u8)⟩]:=by
 refine zf Tryz.func26 Tryz.ntmps26 ?_
 unfold aBA at hr
 refine zz ?_
 refine aVT ?_
 obtain⟨q,h_1,hr⟩:=aC hr
 obtain⟨x5,h_2,hr⟩:=aC hr
 obtain⟨x8,h_4,hr⟩:=aC hr
 refine aV8 mixed [] [49,50] [[0,1,2,3,4,5,6]] ?_
 refine zz ?_
 refine zg (aFz h_2) [] ?_
 refine zz ?_
 refine zgL (lF h_4) [] [1] ?_
 refine zz ?_
 obtain rfl:=sj hr
 exact bI Tryz.results26 [2]
theorem uU {N:Nat}{b vs:List Int}{r:(List Int)}(hr:kC N b vs=some r):
  Vm.Fn Tryz.prog 52 [] [(.row none 1 (b.map (eI .u8))),(.row none 1 (vs.map (eI .u8)))] (.sl 0 0 r.length 1 false) [some ⟨5,r.map (eI .u8)⟩]:=by
 refine zf Tryz.func52 Tryz.ntmps52 ?_
 unfold kC at hr
 obtain⟨x9,h_1,hr⟩:=aC hr
 obtain⟨b4,h_2,hr⟩:=aC hr
 refine zz ?_
 refine zc (rB h_1) [] ?_
 refine zz ?_
 refine jD (i5 h_2) [] [0] ?_
 refine zz ?_
 obtain rfl:=sj hr
 exact bI Tryz.results52 [1]
theorem aFM {N:Nat}{aD:Int}{aA:List aK}{aB:List aG}{aE:Int}{bJ:Bool}{r:(List Int)}(hr:aAB N aD aA aB aE bJ=some r):
  Vm.Fn Tryz.prog 76 [] [(.agg [(eI .u32 aD),(.row none 35 (aA.map aO)),(.row none 2 (aB.map aP)),(eI .u32 aE)]),(eB bJ)] (.sl 0 0 r.length 1 false) [some ⟨5,r.map (eI .u8)⟩]:=by
 refine zf Tryz.func76 Tryz.ntmps76 ?_
 unfold aAB at hr
 obtain⟨x16,h_1,hr⟩:=aC hr
 refine zz ?_
 refine zc (lF h_1) [] ?_
 obtain⟨bX,h_2,hr⟩:=aC hr
 obtain⟨iB,h_3,hr⟩:=aC hr
 refine zz ?_
 refine zc (rB h_2) [] ?_
 refine zz ?_
 refine aVU fun K1 hK1 hG1=> ?_
 have J1: ∀(l1:List Int),aAV N aD aA aB aE bJ l1=some r→K1 (aI 104 [(1,(eB bJ)),(2,(.ptr 0 0)),(5,(.sl 1 0 l1.length 1 false))]) [some ⟨26,[(eI .u32 aD),(.row none 35 (aA.map aO)),(.row none 2 (aB.map aP)),(eI .u32 aE)]⟩,some ⟨5,l1.map (eI .u8)⟩]:=by
  intro l1 hr
  unfold aAV at hr
  refine hK1 _ _ ?_
  obtain⟨x47,h_4,hr⟩:=aC hr
  obtain⟨x48,h_5,hr⟩:=aC hr
  refine zz ?_
  refine zc (rB h_4) [] ?_
  refine zz ?_
  refine aVU fun K2 hK2 hG2=> ?_
  have J2: ∀(cS:List Int),aAH N aD aA aB aE bJ cS=some r→K2 (aI 104 [(1,(eB bJ)),(2,(.ptr 0 0)),(5,(.sl 1 0 cS.length 1 false))]) [some ⟨26,[(eI .u32 aD),(.row none 35 (aA.map aO)),(.row none 2 (aB.map aP)),(eI .u32 aE)]⟩,some ⟨5,cS.map (eI .u8)⟩]:=by
   intro cS hr
   unfold aAH at hr
   refine hK2 _ _ ?_
   obtain⟨x71,h_6,hr⟩:=aC hr
   obtain⟨x72,h_7,hr⟩:=aC hr
   refine zz ?_
   refine zc (lF h_6) [] ?_
   refine zz ?_
   refine aVT ?_
   refine zz ?_
   refine zk hr rfl (fun h8 hr=> ?_) (fun h8 hr=> ?_)
   ·refine zz ?_
    obtain rfl:=sj hr
    exact bI Tryz.results76 [3]
   refine zz ?_
   refine aVU fun K3 hK3 hG3=> ?_
   have J3: ∀(l0:List Int),aDr N l0=some r→K3 (aI 104 [(5,(.sl 0 0 l0.length 1 false))]) [some ⟨5,l0.map (eI .u8)⟩]:=by
    intro l0 hr
    unfold aDr at hr
    refine hK3 _ _ ?_
    refine zz ?_
    obtain rfl:=sj hr
    exact bI Tryz.results76 [0]
   obtain⟨res4,hL4,hr⟩:=aC hr
   refine zz ?_
   refine aVR<|aVW (fun m s h=> ∃(x79:Int)(aS:List Int),kO N aA m x79 aS=some res4∧Ghost 0 s h (aI 104 [(5,(.sl 0 0 aS.length 1 false)),(77,(.row none 35 (aA.map aO))),(78,(eI .i64 (aA.length:Int))),(79,(eI .i64 x79))]) [some ⟨5,aS.map (eI .u8)⟩]) (n:=N) ⟨0,x72,hL4,(zG [3])⟩ (by rintro s h ⟨_,_,h0,_⟩;simp[kO]at h0) ?_
   rintro m4 s h ⟨x79,aS,hr4,hg⟩
   refine aVV hg ?_
   clear hg hL4
   rw[kO]at hr4
   refine zz ?_
   refine aVT ?_
   refine zk hr4 rfl (fun h9 hr4=> ?_) (fun h9 hr4=> ?_)
   ·refine zz ?_
    refine aVU fun K5 hK5 hG5=> ?_
    have J5: ∀(fM:List Int),aBm N aA x79 (kO N aA m4) fM=some res4→K5 (aI 104 [(5,(.sl 0 0 fM.length 1 false)),(77,(.row none 35 (aA.map aO))),(78,(eI .i64 (aA.length:Int))),(79,(eI .i64 x79))]) [some ⟨5,fM.map (eI .u8)⟩]:=by
     intro fM hr4
     unfold aBm at hr4
     refine hK5 _ _ ?_
     refine zz ?_
     exact⟨aVP.wrap (x79+1),fM,hr4,(zG [0])⟩
    refine aVR ?_
    obtain⟨x81,h_10,hr4⟩:=aC hr4
    refine zz ?_
    refine xw (v:=(.ptr 1 0)) (h':=[some ⟨5,aS.map (eI .u8)⟩,some ⟨48,(bG (eI .u8) (aVO 32 0) [(eI .u32 0),(eI .u32 0),(.row (some true) 1 [])])⟩]) (dR tY rfl rfl rfl) ?_
    obtain⟨x88,h_11,hr4⟩:=aC hr4
    obtain⟨x89,h_12,hr4⟩:=aC hr4
    refine zz ?_
    refine zc (rB h_11) [] ?_
    obtain⟨res6,hL6,hr4⟩:=aC hr4
    refine zz ?_
    refine aVR<|aVW (fun m s h=> ∃(x93:Int)(fX:List Int),lV N aA x79 x81 m x93 fX=some res6∧Ghost 0 s h (aI 104 [(5,(.sl 0 0 fX.length 1 false)),(77,(.row none 35 (aA.map aO))),(78,(eI .i64 (aA.length:Int))),(79,(eI .i64 x79)),(91,(.row none 1 (x81.Witness.map (eL 1 (eI .u8))))),(92,(eI .i64 (x81.Witness.length:Int))),(93,(eI .i64 x93))]) [some ⟨5,fX.map (eI .u8)⟩]) (n:=N) ⟨0,x89,hL6,(zG [3])⟩ (by rintro s h ⟨_,_,h0,_⟩;simp[lV]at h0) ?_
    rintro m6 s h ⟨x93,fX,hr6,hg⟩
    refine aVV hg ?_
    clear hg hL6
    rw[lV]at hr6
    refine zz ?_
    refine aVT ?_
    refine zk hr6 rfl (fun h13 hr6=> ?_) (fun h13 hr6=> ?_)
    ·refine zz ?_
     refine aVT<|aVR ?_
     obtain⟨x95,h_14,hr6⟩:=aC hr6
     obtain⟨x99,h_15,hr6⟩:=aC hr6
     obtain⟨aHt,h_16,hr6⟩:=aC hr6
     refine zz ?_
     refine zc (uU h_15) [] ?_
     refine zz ?_
     exact⟨aVP.wrap (x93+1),aHt,hr6,(zG [2])⟩
    refine zz ?_
    obtain rfl:=sj hr6
    refine zz ?_
    exact hG5 _ _ _ _ (zG [0]) (J5 fX hr4)
   refine zz ?_
   obtain rfl:=sj hr4
   refine zz ?_
   exact hG3 _ _ _ _ (zG [0]) (J3 aS hr)
  obtain⟨res7,hL7,hr⟩:=aC hr
  refine zz ?_
  refine aVR<|aVW (fun m s h=> ∃(x52:Int)(l1_2:List Int),mA N aD aA aB aE bJ m x52 l1_2=some res7∧Ghost 0 s h (aI 104 [(1,(eB bJ)),(2,(.ptr 0 0)),(5,(.sl 1 0 l1_2.length 1 false)),(50,(.row none 2 (aB.map aP))),(51,(eI .i64 (aB.length:Int))),(52,(eI .i64 x52))]) [some ⟨26,[(eI .u32 aD),(.row none 35 (aA.map aO)),(.row none 2 (aB.map aP)),(eI .u32 aE)]⟩,some ⟨5,l1_2.map (eI .u8)⟩]) (n:=N) ⟨0,x48,hL7,(zG [0,3])⟩ (by rintro s h ⟨_,_,h0,_⟩;simp[mA]at h0) ?_
  rintro m7 s h ⟨x52,l1_2,hr7,hg⟩
  refine aVV hg ?_
  clear hg hL7
  rw[mA]at hr7
  refine zz ?_
  refine aVT ?_
  refine zk hr7 rfl (fun h17 hr7=> ?_) (fun h17 hr7=> ?_)
  ·refine zz ?_
   refine aVT<|aVR ?_
   obtain⟨x54,h_18,hr7⟩:=aC hr7
   obtain⟨x60,h_19,hr7⟩:=aC hr7
   obtain⟨x61,h_20,hr7⟩:=aC hr7
   refine zz ?_
   refine zc (xE h_19) [] ?_
   obtain⟨x65,h_21,hr7⟩:=aC hr7
   obtain⟨x66,h_22,hr7⟩:=aC hr7
   refine zz ?_
   refine zc (uU h_21) [] ?_
   refine zz ?_
   exact⟨aVP.wrap (x52+1),x66,hr7,(zG [0,6])⟩
  refine zz ?_
  obtain rfl:=sj hr7
  refine zz ?_
  exact hG2 _ _ _ _ (zG [0,1]) (J2 l1_2 hr)
 obtain⟨res8,hL8,hr⟩:=aC hr
 refine zz ?_
 refine aVR<|aVW (fun m s h=> ∃(x27:Int)(l1_3:List Int),mE N aD aA aB aE bJ m x27 l1_3=some res8∧Ghost 0 s h (aI 104 [(1,(eB bJ)),(2,(.ptr 0 0)),(5,(.sl 1 0 l1_3.length 1 false)),(25,(.row none 35 (aA.map aO))),(26,(eI .i64 (aA.length:Int))),(27,(eI .i64 x27))]) [some ⟨26,[(eI .u32 aD),(.row none 35 (aA.map aO)),(.row none 2 (aB.map aP)),(eI .u32 aE)]⟩,some ⟨5,l1_3.map (eI .u8)⟩]) (n:=N) ⟨0,iB,hL8,(zG [0,3])⟩ (by rintro s h ⟨_,_,h0,_⟩;simp[mE]at h0) ?_
 rintro m8 s h ⟨x27,l1_3,hr8,hg⟩
 refine aVV hg ?_
 clear hg hL8
 rw[mE]at hr8
 refine zz ?_
 refine aVT ?_
 refine zk hr8 rfl (fun h23 hr8=> ?_) (fun h23 hr8=> ?_)
 ·refine zz ?_
  refine aVT<|aVR ?_
  obtain⟨x29,h_24,hr8⟩:=aC hr8
  refine zz ?_
  refine xw (v:=(.ptr 2 0)) (h':=[some ⟨26,[(eI .u32 aD),(.row none 35 (aA.map aO)),(.row none 2 (aB.map aP)),(eI .u32 aE)]⟩,some ⟨5,l1_3.map (eI .u8)⟩,some ⟨48,(bG (eI .u8) (aVO 32 0) [(eI .u32 0),(eI .u32 0),(.row (some true) 1 [])])⟩]) (dR tY rfl rfl rfl) ?_
  obtain⟨cV,h_25,hr8⟩:=aC hr8
  obtain⟨x35,h_26,hr8⟩:=aC hr8
  refine zz ?_
  refine zc (aGX h_25) [] ?_
  obtain⟨x39,h_27,hr8⟩:=aC hr8
  obtain⟨x40,h_28,hr8⟩:=aC hr8
  refine zz ?_
  refine zc (lF h_27) [] ?_
  refine zz ?_
  exact⟨aVP.wrap (x27+1),x40,hr8,(zG [0,6])⟩
 refine zz ?_
 obtain rfl:=sj hr8
 refine zz ?_
 exact hG1 _ _ _ _ (zG [0,1]) (J1 l1_3 hr)
theorem aIH {N:Nat}{aD:Int}{aA:List aK}{aB:List aG}{aE:Int}{r:Bool}(hr:aC4 N aD aA aB aE=some r):
  Vm.Fn Tryz.prog 46 [] [(.agg [(eI .u32 aD),(.row none 35 (aA.map aO)),(.row none 2 (aB.map aP)),(eI .u32 aE)])] (eB r) []:=by
 refine zf Tryz.func46 Tryz.ntmps46 ?_
 unfold aC4 at hr
 refine zz ?_
 refine aVT ?_
 refine aVU fun K1 hK1 hG1=> ?_
 have J1: ∀(x18:Bool),aA7 N aD aA aB aE x18=some r→K1 (aI 63 [(1,(.ptr 0 0)),(18,(eB x18))]) [some ⟨26,[(eI .u32 aD),(.row none 35 (aA.map aO)),(.row none 2 (aB.map aP)),(eI .u32 aE)]⟩]:=by
  intro x18 hr
  unfold aA7 at hr
  refine hK1 _ _ ?_
  refine zk hr rfl (fun h1 hr=> ?_) (fun h1 hr=> ?_)
  ·refine zz ?_
   obtain rfl:=sj hr
   exact bI Tryz.results46 []
  refine zz ?_
  refine aVU fun K2 hK2 hG2=> ?_
  have J2:aCI N aD aA aB aE=some r→K2 (aI 63 [(1,(.ptr 0 0))]) [some ⟨26,[(eI .u32 aD),(.row none 35 (aA.map aO)),(.row none 2 (aB.map aP)),(eI .u32 aE)]⟩]:=by
   intro hr
   unfold aCI at hr
   refine hK2 _ _ ?_
   refine aVU fun K3 hK3 hG3=> ?_
   have J3:aCZ N aD aA aB aE=some r→K3 (aI 63 [(1,(.ptr 0 0))]) [some ⟨26,[(eI .u32 aD),(.row none 35 (aA.map aO)),(.row none 2 (aB.map aP)),(eI .u32 aE)]⟩]:=by
    intro hr
    unfold aCZ at hr
    refine hK3 _ _ ?_
    obtain⟨x60,h_2,hr⟩:=aC hr
    refine zz ?_
    refine zc (aFM h_2) [] ?_
    refine zz ?_
    obtain rfl:=sj hr
    exact bI Tryz.results46 []
   obtain⟨res4,hL4,hr⟩:=aC hr
   refine zz ?_
   refine aVR<|aVW (fun m s h=> ∃(x39:Int),pN N aD aA aB aE m x39=some res4∧Ghost 0 s h (aI 63 [(1,(.ptr 0 0)),(37,(.row none 35 (aA.map aO))),(38,(eI .i64 (aA.length:Int))),(39,(eI .i64 x39))]) [some ⟨26,[(eI .u32 aD),(.row none 35 (aA.map aO)),(.row none 2 (aB.map aP)),(eI .u32 aE)]⟩]) (n:=N) ⟨0,hL4,(zG [0])⟩ (by rintro s h ⟨_,h0,_⟩;simp[pN]at h0) ?_
   rintro m4 s h ⟨x39,hr4,hg⟩
   refine aVV hg ?_
   clear hg hL4
   rw[pN]at hr4
   refine zz ?_
   refine aVT ?_
   refine zk hr4 rfl (fun h3 hr4=> ?_) (fun h3 hr4=> ?_)
   ·refine zz ?_
    refine aVU fun K5 hK5 hG5=> ?_
    have J5:aCN N aD aA aB aE x39 (pN N aD aA aB aE m4)=some res4→K5 (aI 63 [(1,(.ptr 0 0)),(37,(.row none 35 (aA.map aO))),(38,(eI .i64 (aA.length:Int))),(39,(eI .i64 x39))]) [some ⟨26,[(eI .u32 aD),(.row none 35 (aA.map aO)),(.row none 2 (aB.map aP)),(eI .u32 aE)]⟩]:=by
     intro hr4
     unfold aCN at hr4
     refine hK5 _ _ ?_
     refine zz ?_
     exact⟨aVP.wrap (x39+1),hr4,(zG [0])⟩
    refine aVR ?_
    obtain⟨x41,h_4,hr4⟩:=aC hr4
    refine zz ?_
    refine xw (v:=(.ptr 1 0)) (h':=[some ⟨26,[(eI .u32 aD),(.row none 35 (aA.map aO)),(.row none 2 (aB.map aP)),(eI .u32 aE)]⟩,some ⟨48,(bG (eI .u8) (aVO 32 0) [(eI .u32 0),(eI .u32 0),(.row (some true) 1 [])])⟩]) (dR tY rfl rfl rfl) ?_
    refine zz ?_
    refine aVT ?_
    refine zz ?_
    refine zk hr4 rfl (fun h5 hr4=> ?_) (fun h5 hr4=> ?_)
    ·refine zz ?_
     obtain rfl:=sj hr4
     obtain rfl:=sj hr
     exact bI Tryz.results46 []
    obtain⟨res6,hL6,hr4⟩:=aC hr4
    refine zz ?_
    refine aVR<|aVW (fun m s h=> ∃(x50:Int),pK N aD aA aB aE x39 x41 m x50=some res6∧Ghost 0 s h (aI 63 [(1,(.ptr 0 0)),(37,(.row none 35 (aA.map aO))),(38,(eI .i64 (aA.length:Int))),(39,(eI .i64 x39)),(48,(.row none 1 (x41.Witness.map (eL 1 (eI .u8))))),(49,(eI .i64 (x41.Witness.length:Int))),(50,(eI .i64 x50))]) [some ⟨26,[(eI .u32 aD),(.row none 35 (aA.map aO)),(.row none 2 (aB.map aP)),(eI .u32 aE)]⟩]) (n:=N) ⟨0,hL6,(zG [0])⟩ (by rintro s h ⟨_,h0,_⟩;simp[pK]at h0) ?_
    rintro m6 s h ⟨x50,hr6,hg⟩
    refine aVV hg ?_
    clear hg hL6
    rw[pK]at hr6
    refine zz ?_
    refine aVT ?_
    refine zk hr6 rfl (fun h6 hr6=> ?_) (fun h6 hr6=> ?_)
    ·refine zz ?_
     refine aVT<|aVR ?_
     obtain⟨x52,h_7,hr6⟩:=aC hr6
     refine zz ?_
     refine zk hr6 rfl (fun h8 hr6=> ?_) (fun h8 hr6=> ?_)
     ·refine zz ?_
      obtain rfl:=sj hr6
      obtain rfl:=sj hr4
      obtain rfl:=sj hr
      exact bI Tryz.results46 []
     refine zz ?_
     exact⟨aVP.wrap (x50+1),hr6,(zG [0])⟩
    refine zz ?_
    obtain rfl:=sj hr6
    refine zz ?_
    exact hG5 _ _ _ _ (zG [0]) (J5 hr4)
   refine zz ?_
   obtain rfl:=sj hr4
   refine zz ?_
   exact hG3 _ _ _ _ (zG [0]) (J3 hr)
  obtain⟨res7,hL7,hr⟩:=aC hr
  refine zz ?_
  refine aVR<|aVW (fun m s h=> ∃(bX:Int),oD N aD aA aB aE m bX=some res7∧Ghost 0 s h (aI 63 [(1,(.ptr 0 0)),(20,(.row none 2 (aB.map aP))),(21,(eI .i64 (aB.length:Int))),(22,(eI .i64 bX))]) [some ⟨26,[(eI .u32 aD),(.row none 35 (aA.map aO)),(.row none 2 (aB.map aP)),(eI .u32 aE)]⟩]) (n:=N) ⟨0,hL7,(zG [0])⟩ (by rintro s h ⟨_,h0,_⟩;simp[oD]at h0) ?_
  rintro m7 s h ⟨bX,hr7,hg⟩
  refine aVV hg ?_
  clear hg hL7
  rw[oD]at hr7
  refine zz ?_
  refine aVT ?_
  refine zk hr7 rfl (fun h9 hr7=> ?_) (fun h9 hr7=> ?_)
  ·refine zz ?_
   refine aVT<|aVR ?_
   obtain⟨fG,h_10,hr7⟩:=aC hr7
   refine zz ?_
   refine aVU fun K8 hK8 hG8=> ?_
   have J8: ∀(cV:Bool),aAG N aD aA aB aE bX (oD N aD aA aB aE m7) cV=some res7→K8 (aI 63 [(1,(.ptr 0 0)),(20,(.row none 2 (aB.map aP))),(21,(eI .i64 (aB.length:Int))),(22,(eI .i64 bX)),(34,(eB cV))]) [some ⟨26,[(eI .u32 aD),(.row none 35 (aA.map aO)),(.row none 2 (aB.map aP)),(eI .u32 aE)]⟩]:=by
    intro cV hr7
    unfold aAG at hr7
    refine hK8 _ _ ?_
    refine zk hr7 rfl (fun h11 hr7=> ?_) (fun h11 hr7=> ?_)
    ·refine zz ?_
     obtain rfl:=sj hr7
     obtain rfl:=sj hr
     exact bI Tryz.results46 []
    refine zz ?_
    exact⟨aVP.wrap (bX+1),hr7,(zG [0])⟩
   rcases aVS (decide (fG.Value<0))with h12|h12
   ·replace hr7:=dD hr7 h12
    refine xr ?_
    refine zz ?_
    exact hG8 _ _ _ _ (zG [0]) (J8 true hr7)
   replace hr7:=dA hr7 h12
   refine xr ?_
   refine zz ?_
   exact hG8 _ _ _ _ (zG [0]) (J8 (decide (520<(fG.Script.length:Int))) hr7)
  refine zz ?_
  obtain rfl:=sj hr7
  refine zz ?_
  exact hG2 _ _ _ _ (zG [0]) (J2 hr)
 rcases aVS (decide (64<(aA.length:Int)))with h13|h13
 ·replace hr:=dD hr h13
  refine xr ?_
  refine zz ?_
  exact hG1 _ _ _ _ (zG [0]) (J1 true hr)
 replace hr:=dA hr h13
 refine xr ?_
 refine zz ?_
 exact hG1 _ _ _ _ (zG [0]) (J1 (decide (64<(aB.length:Int))) hr)
theorem aMs {N:Nat}{l:List aG}{r:Bool}(hr:aHg N l=some r):
  Vm.Fn Tryz.prog 47 [] [(.row none 2 (l.map aP))] (eB r) []:=by
 refine zf Tryz.func47 Tryz.ntmps47 ?_
 unfold aHg at hr
 refine zz ?_
 refine aVU fun K1 hK1 hG1=> ?_
 have J1:aEa N=some r→K1 (aI 22 []) []:=by
  intro hr
  unfold aEa at hr
  refine hK1 _ _ ?_
  refine zz ?_
  obtain rfl:=sj hr
  exact bI Tryz.results47 []
 obtain⟨bQ,hL2,hr⟩:=aC hr
 refine zz ?_
 refine aVR<|aVW (fun m s h=> ∃(sum x8:Int),y9 N l m sum x8=some bQ∧Ghost 0 s h (aI 22 [(3,(eI .i64 sum)),(6,(.row none 2 (l.map aP))),(7,(eI .i64 (l.length:Int))),(8,(eI .i64 x8))]) []) (n:=N) ⟨0,0,hL2,(zG [])⟩ (by rintro s h ⟨_,_,h0,_⟩;simp[y9]at h0) ?_
 rintro m2 s h ⟨sum,x8,hr2,hg⟩
 refine aVV hg ?_
 clear hg hL2
 rw[y9]at hr2
 refine zz ?_
 refine aVT ?_
 refine zk hr2 rfl (fun h1 hr2=> ?_) (fun h1 hr2=> ?_)
 ·refine zz ?_
  refine aVT<|aVR ?_
  obtain⟨cD,h_2,hr2⟩:=aC hr2
  refine zz ?_
  refine aVT ?_
  refine zz ?_
  refine zk hr2 rfl (fun h3 hr2=> ?_) (fun h3 hr2=> ?_)
  ·refine zz ?_
   obtain rfl:=sj hr2
   obtain rfl:=sj hr
   exact bI Tryz.results47 []
  refine zz ?_
  exact⟨aVP.wrap (sum+cD.Value),aVP.wrap (x8+1),hr2,(zG [])⟩
 refine zz ?_
 obtain rfl:=sj hr2
 refine zz ?_
 exact hG1 _ _ _ _ (zG []) (J1 hr)
theorem aN6 {N:Nat}{y4:List Int}{oZ:Int}{r:Bool}(hr:aJC N y4 oZ=some r):
  Vm.Fn Tryz.prog 43 [] [(.agg (bG (eI .u8) y4 [(eI .u32 oZ)]))] (eB r) []:=by
 refine zf Tryz.func43 Tryz.ntmps43 ?_
 unfold aJC at hr
 refine zz ?_
 refine xw (v:=(.agg (bG (eI .u8) (aVO 32 0) [(eI .u32 4294967295)]))) (cE rfl (tO rG aJc rfl))<|xw (v5 rfl rfl (aPM (d:=9) rG rfl aLV zl aN3 rfl rfl rfl rfl rfl)) ?_
 refine zz ?_
 obtain rfl:=sj hr
 exact bI Tryz.results43 []
theorem aJH {N:Nat}{aD:Int}{aA:List aK}{aB:List aG}{aE:Int}{r:Bool}(hr:aEf N aD aA aB aE=some r):
  Vm.Fn Tryz.prog 18 [] [(.agg [(eI .u32 aD),(.row none 35 (aA.map aO)),(.row none 2 (aB.map aP)),(eI .u32 aE)])] (eB r) []:=by
 refine zf Tryz.func18 Tryz.ntmps18 ?_
 unfold aEf at hr
 refine zz ?_
 refine aVU fun K1 hK1 hG1=> ?_
 have J1: ∀(x2:Bool),yW N x2=some r→K1 (aI 15 [(2,(eB x2))]) []:=by
  intro x2 hr
  unfold yW at hr
  refine hK1 _ _ ?_
  refine zz ?_
  obtain rfl:=sj hr
  exact bI Tryz.results18 []
 rcases aVS ((aA.length:Int) == 1)with h1|h1
 ·replace hr:=dD hr h1
  obtain⟨cD,h_2,hr⟩:=aC hr
  obtain⟨d5,h_3,hr⟩:=aC hr
  refine xr ?_
  refine zz ?_
  refine xCg (v:=(eB d5)) (h':=[some ⟨26,[(eI .u32 aD),(.row none 35 (aA.map aO)),(.row none 2 (aB.map aP)),(eI .u32 aE)]⟩]) rfl rfl h1 rfl (Vm.Fn.pure (aN6 h_3) rfl rfl) ?_
  refine zz ?_
  exact hG1 _ _ _ _ (zG []) (J1 d5 hr)
 replace hr:=dA hr h1
 refine xr ?_
 refine zz ?_
 exact hG1 _ _ _ _ (zG []) (J1 false hr)
theorem aMo {N:Nat}{aD:Int}{aA:List aK}{aB:List aG}{aE r:Int}(hr:aHp N aD aA aB aE=some r):
  Vm.Fn Tryz.prog 23 [] [(.agg [(eI .u32 aD),(.row none 35 (aA.map aO)),(.row none 2 (aB.map aP)),(eI .u32 aE)])] (eI .i64 r) []:=by
 refine zf Tryz.func23 Tryz.ntmps23 ?_
 unfold aHp at hr
 refine zz ?_
 refine aVT ?_
 obtain⟨x7,h_1,hr⟩:=aC hr
 refine zz ?_
 refine xp (aIH h_1) ?_
 refine zz ?_
 refine zk hr rfl (fun h2 hr=> ?_) (fun h2 hr=> ?_)
 ·refine zz ?_
  obtain rfl:=sj hr
  exact bI Tryz.results23 []
 refine zz ?_
 refine aVT ?_
 refine aVU fun K1 hK1 hG1=> ?_
 have J1: ∀(x18:Bool),aB9 N aD aA aB aE x18=some r→K1 (aI 47 [(1,(.ptr 0 0)),(18,(eB x18))]) [some ⟨26,[(eI .u32 aD),(.row none 35 (aA.map aO)),(.row none 2 (aB.map aP)),(eI .u32 aE)]⟩]:=by
  intro x18 hr
  unfold aB9 at hr
  refine hK1 _ _ ?_
  refine zk hr rfl (fun h3 hr=> ?_) (fun h3 hr=> ?_)
  ·refine zz ?_
   obtain rfl:=sj hr
   exact bI Tryz.results23 []
  refine zz ?_
  refine aVT ?_
  obtain⟨d9,h_4,hr⟩:=aC hr
  refine zz ?_
  refine xp (aMs h_4) ?_
  refine zz ?_
  refine zk hr rfl (fun h5 hr=> ?_) (fun h5 hr=> ?_)
  ·refine zz ?_
   obtain rfl:=sj hr
   exact bI Tryz.results23 []
  refine zz ?_
  refine xw (v:=(.mp 1)) (h':=[some ⟨26,[(eI .u32 aD),(.row none 35 (aA.map aO)),(.row none 2 (aB.map aP)),(eI .u32 aE)]⟩,some ⟨33000,[].flatMap aCs⟩]) (aRF aMj aLe rfl rfl) ?_
  refine zz ?_
  refine aVU fun K2 hK2 hG2=> ?_
  have J2: ∀(l1:List (aW×Bool)),aEi N aD aA aB aE l1=some r→K2 (aI 47 [(1,(.ptr 0 0)),(3,(.mp 1))]) [some ⟨26,[(eI .u32 aD),(.row none 35 (aA.map aO)),(.row none 2 (aB.map aP)),(eI .u32 aE)]⟩,some ⟨33000,l1.flatMap aCs⟩]:=by
   intro l1 hr
   unfold aEi at hr
   refine hK2 _ _<|aVT ?_
   refine aVU fun K3 hK3 hG3=> ?_
   have J3: ∀(x46:Bool),aB6 N x46=some r→K3 (aI 47 [(46,(eB x46))]) []:=by
    intro x46 hr
    unfold aB6 at hr
    refine hK3 _ _ ?_
    refine zk hr rfl (fun h6 hr=> ?_) (fun h6 hr=> ?_)
    ·refine zz ?_
     obtain rfl:=sj hr
     exact bI Tryz.results23 []
    refine zz ?_
    obtain rfl:=sj hr
    exact bI Tryz.results23 []
   rcases aVS (aFi aEe l1 (aW.mk (aVO 32 0) 4294967295) false)with h7|h7
   ·replace hr:=dD hr h7
    obtain⟨x44,h_8,hr⟩:=aC hr
    refine xr ?_
    refine zz ?_
    refine xw (v:=(.agg (bG (eI .u8) (aVO 32 0) [(eI .u32 4294967295)]))) (cE rfl (tO rG aJc rfl))<|xw (v:=(eB (aFi aEe l1 (aW.mk (aVO 32 0) 4294967295) false))) (aPT rfl rfl (aPK aLe (C:=aCs) (CK:=fV) (K:=33) (E:=eB) (k:=(aW.mk (aVO 32 0) 4294967295)) (fun _=>rfl) (fun _=>rfl) (by decide) (fun _=>rfl) aMj aNn aNO aNK aQA rfl)) ?_
    refine zz ?_
    refine xCg (v:=(eB x44)) (h':=[some ⟨26,[(eI .u32 aD),(.row none 35 (aA.map aO)),(.row none 2 (aB.map aP)),(eI .u32 aE)]⟩,some ⟨33000,l1.flatMap aCs⟩]) rfl rfl h7 rfl (Vm.Fn.pure (aJH h_8) rfl rfl) ?_
    refine zz ?_
    exact hG3 _ _ _ _ (zG []) (J3 (!x44) hr)
   replace hr:=dA hr h7
   refine xr ?_
   refine zz ?_
   refine xw (v:=(.agg (bG (eI .u8) (aVO 32 0) [(eI .u32 4294967295)]))) (cE rfl (tO rG aJc rfl))<|xw (v:=(eB (aFi aEe l1 (aW.mk (aVO 32 0) 4294967295) false))) (aPT rfl rfl (aPK aLe (C:=aCs) (CK:=fV) (K:=33) (E:=eB) (k:=(aW.mk (aVO 32 0) 4294967295)) (fun _=>rfl) (fun _=>rfl) (by decide) (fun _=>rfl) aMj aNn aNO aNK aQA rfl)) ?_
   refine zz ?_
   exact hG3 _ _ _ _ (zG []) (J3 false hr)
  obtain⟨res4,hL4,hr⟩:=aC hr
  refine zz ?_
  refine aVR<|aVW (fun m s h=> ∃(x27:Int)(cS:List (aW×Bool)),zK N aD aA aB aE m x27 cS=some res4∧Ghost 0 s h (aI 47 [(1,(.ptr 0 0)),(3,(.mp 1)),(25,(.row none 35 (aA.map aO))),(26,(eI .i64 (aA.length:Int))),(27,(eI .i64 x27))]) [some ⟨26,[(eI .u32 aD),(.row none 35 (aA.map aO)),(.row none 2 (aB.map aP)),(eI .u32 aE)]⟩,some ⟨33000,cS.flatMap aCs⟩]) (n:=N) ⟨0,[],hL4,(zG [0,1])⟩ (by rintro s h ⟨_,_,h0,_⟩;simp[zK]at h0) ?_
  rintro m4 s h ⟨x27,cS,hr4,hg⟩
  refine aVV hg ?_
  clear hg hL4
  rw[zK]at hr4
  refine zz ?_
  refine aVT ?_
  refine zk hr4 rfl (fun h9 hr4=> ?_) (fun h9 hr4=> ?_)
  ·refine zz ?_
   refine aVT<|aVR ?_
   obtain⟨x29,h_10,hr4⟩:=aC hr4
   refine zz ?_
   refine xw (v:=(.ptr 2 0)) (h':=[some ⟨26,[(eI .u32 aD),(.row none 35 (aA.map aO)),(.row none 2 (aB.map aP)),(eI .u32 aE)]⟩,some ⟨33000,cS.flatMap aCs⟩,some ⟨48,(bG (eI .u8) (aVO 32 0) [(eI .u32 0),(eI .u32 0),(.row (some true) 1 [])])⟩]) (dR tY rfl rfl rfl) ?_
   refine zz ?_
   refine aVT ?_
   refine zz ?_
   refine xw (v:=(eB (aFi aEe cS x29.Prev false))) (aPT rfl rfl (aPK aLe (C:=aCs) (CK:=fV) (K:=33) (E:=eB) (k:=x29.Prev) (fun _=>rfl) (fun _=>rfl) (by decide) (fun _=>rfl) aMj aNn aNO aNK aQA rfl)) ?_
   refine zz ?_
   refine zk hr4 rfl (fun h11 hr4=> ?_) (fun h11 hr4=> ?_)
   ·refine zz ?_
    obtain rfl:=sj hr4
    obtain rfl:=sj hr
    exact bI Tryz.results23 []
   refine zz ?_
   refine xy (h':=[some ⟨26,[(eI .u32 aD),(.row none 35 (aA.map aO)),(.row none 2 (aB.map aP)),(eI .u32 aE)]⟩,some ⟨33000,(aIX aEe cS x29.Prev true).flatMap aCs⟩,some ⟨48,dL x29⟩]) (aT6 rfl rfl rfl (aU7 aLe (C:=aCs) (CK:=fV) (K:=33) (E:=eB) (k:=x29.Prev) (v:=true) (fun _=>rfl) (fun _=>rfl) (by decide) (fun _=>rfl) (fun _=>rfl) (fun _=>rfl) aMj aNn aNO aNK rfl rfl)) ?_
   refine zz ?_
   exact⟨aVP.wrap (x27+1),aIX aEe cS x29.Prev true,hr4,(zG [0,1])⟩
  refine zz ?_
  obtain rfl:=sj hr4
  refine zz ?_
  exact hG2 _ _ _ _ (zG [0,1]) (J2 cS hr)
 rcases aVS ((aA.length:Int) == 0)with h12|h12
 ·replace hr:=dD hr h12
  refine xr ?_
  refine zz ?_
  exact hG1 _ _ _ _ (zG [0]) (J1 true hr)
 replace hr:=dA hr h12
 refine xr ?_
 refine zz ?_
 exact hG1 _ _ _ _ (zG [0]) (J1 ((aB.length:Int) == 0) hr)
theorem aMg {N:Nat}{l:List cU}{r:Int×Bool}(hr:aFO N l=some r):
  Vm.Fn Tryz.prog 24 [] [(.row none 37 (l.map uM))] (.tup [(eI .i64 r.1),(eB r.2)]) []:=by
 refine zf Tryz.func24 Tryz.ntmps24 ?_
 unfold aFO at hr
 refine zz ?_
 refine aVU fun K1 hK1 hG1=> ?_
 have J1: ∀(aIJ:Int),aDn N aIJ=some r→K1 (aI 32 [(4,(eI .i64 aIJ))]) []:=by
  intro aIJ hr
  unfold aDn at hr
  refine hK1 _ _ ?_
  refine zz ?_
  obtain rfl:=sj hr
  exact sZ Tryz.results24 []
 obtain⟨bQ,hL2,hr⟩:=aC hr
 refine zz ?_
 refine aVR<|aVW (fun m s h=> ∃(nM x9:Int),q6 N l m nM x9=some bQ∧Ghost 0 s h (aI 32 [(4,(eI .i64 nM)),(7,(.row none 37 (l.map uM))),(8,(eI .i64 (l.length:Int))),(9,(eI .i64 x9))]) []) (n:=N) ⟨0,0,hL2,(zG [])⟩ (by rintro s h ⟨_,_,h0,_⟩;simp[q6]at h0) ?_
 rintro m2 s h ⟨nM,x9,hr2,hg⟩
 refine aVV hg ?_
 clear hg hL2
 rw[q6]at hr2
 refine zz ?_
 refine aVT ?_
 refine zk hr2 rfl (fun h1 hr2=> ?_) (fun h1 hr2=> ?_)
 ·refine zz ?_
  refine aVT<|aVR ?_
  obtain⟨b4,h_2,hr2⟩:=aC hr2
  refine zz ?_
  refine xw (v:=(.ptr 0 0)) (h':=[some ⟨35,(bG (eI .u8) (aVO 32 0) [(eI .u32 0),(eI .i64 0),(.row (some true) 1 []),(eI .i64 0),(eB false)])⟩]) (dR aCv rfl rfl rfl) ?_
  refine zz ?_
  refine aVT ?_
  refine aVU fun K3 hK3 hG3=> ?_
  have J3: ∀(fG:Bool),aBj N l nM x9 b4 (q6 N l m2) fG=some bQ→K3 (aI 32 [(4,(eI .i64 nM)),(6,(.ptr 0 0)),(7,(.row none 37 (l.map uM))),(8,(eI .i64 (l.length:Int))),(9,(eI .i64 x9)),(24,(eB fG))]) [some ⟨35,iJ b4⟩]:=by
   intro fG hr2
   unfold aBj at hr2
   refine hK3 _ _ ?_
   refine zk hr2 rfl (fun h3 hr2=> ?_) (fun h3 hr2=> ?_)
   ·refine zz ?_
    obtain rfl:=sj hr2
    obtain rfl:=sj hr
    exact sZ Tryz.results24 []
   refine zz ?_
   exact⟨aVP.wrap (nM+b4.Output.Value),aVP.wrap (x9+1),hr2,(zG [])⟩
  rcases aVS (decide (b4.Output.Value<0))with h4|h4
  ·replace hr2:=dD hr2 h4
   refine xr ?_
   refine zz ?_
   exact hG3 _ _ _ _ (zG [0]) (J3 true hr2)
  replace hr2:=dA hr2 h4
  refine xr ?_
  refine zz ?_
  exact hG3 _ _ _ _ (zG [0]) (J3 (decide ((aVP.wrap (2100000000000000-nM))<b4.Output.Value)) hr2)
 refine zz ?_
 obtain rfl:=sj hr2
 refine zz ?_
 exact hG1 _ _ _ _ (zG []) (J1 nM hr)
theorem aFS {N:Nat}{aD:Int}{aA:List aK}{aB:List aG}{aE:Int}{l:List cU}{r:Int×Int}(hr:aDO N aD aA aB aE l=some r):
  Vm.Fn Tryz.prog 12 [] [(.agg [(eI .u32 aD),(.row none 35 (aA.map aO)),(.row none 2 (aB.map aP)),(eI .u32 aE)]),(.row none 37 (l.map uM))] (.tup [(eI .i64 r.1),(eI .i64 r.2)]) []:=by
 refine zf Tryz.func12 Tryz.ntmps12 ?_
 unfold aDO at hr
 refine zz ?_
 refine aVT ?_
 obtain⟨bR,h_1,hr⟩:=aC hr
 refine zz ?_
 refine xp (aMo h_1) ?_
 refine zz ?_
 refine zk hr rfl (fun h2 hr=> ?_) (fun h2 hr=> ?_)
 ·refine zz ?_
  obtain rfl:=sj hr
  exact sZ Tryz.results12 []
 refine zz ?_
 refine aVT ?_
 refine zz ?_
 refine zk hr rfl (fun h3 hr=> ?_) (fun h3 hr=> ?_)
 ·refine zz ?_
  obtain rfl:=sj hr
  exact sZ Tryz.results12 []
 refine zz ?_
 refine aVU fun K1 hK1 hG1=> ?_
 have J1:aDb N aD aA aB aE l=some r→K1 (aI 63 [(1,(.row none 37 (l.map uM))),(2,(.ptr 0 0))]) [some ⟨26,[(eI .u32 aD),(.row none 35 (aA.map aO)),(.row none 2 (aB.map aP)),(eI .u32 aE)]⟩]:=by
  intro hr
  unfold aDb at hr
  refine hK1 _ _ ?_
  obtain⟨x43,h_4,hr⟩:=aC hr
  refine zz ?_
  refine xp (aMg h_4) ?_
  refine zz ?_
  refine aVT ?_
  refine zz ?_
  refine zk hr rfl (fun h5 hr=> ?_) (fun h5 hr=> ?_)
  ·refine zz ?_
   obtain rfl:=sj hr
   exact sZ Tryz.results12 []
  refine zz ?_
  refine aVU fun K2 hK2 hG2=> ?_
  have J2: ∀(fee:Int),aDA N fee=some r→K2 (aI 63 [(9,(eI .i64 fee))]) []:=by
   intro fee hr
   unfold aDA at hr
   refine hK2 _ _<|aVT ?_
   refine zz ?_
   refine zk hr rfl (fun h6 hr=> ?_) (fun h6 hr=> ?_)
   ·refine zz ?_
    obtain rfl:=sj hr
    exact sZ Tryz.results12 []
   refine zz ?_
   obtain rfl:=sj hr
   exact sZ Tryz.results12 []
  obtain⟨vK,hL3,hr⟩:=aC hr
  refine zz ?_
  refine aVR<|aVW (fun m s h=> ∃(fee_1 x51:Int),xB N aB m fee_1 x51=some vK∧Ghost 0 s h (aI 63 [(9,(eI .i64 fee_1)),(49,(.row none 2 (aB.map aP))),(50,(eI .i64 (aB.length:Int))),(51,(eI .i64 x51))]) []) (n:=N) ⟨x43.1,0,hL3,(zG [])⟩ (by rintro s h ⟨_,_,h0,_⟩;simp[xB]at h0) ?_
  rintro m3 s h ⟨fee_1,x51,hr3,hg⟩
  refine aVV hg ?_
  clear hg hL3
  rw[xB]at hr3
  refine zz ?_
  refine aVT ?_
  refine zk hr3 rfl (fun h7 hr3=> ?_) (fun h7 hr3=> ?_)
  ·refine zz ?_
   refine aVT<|aVR ?_
   obtain⟨x53,h_8,hr3⟩:=aC hr3
   refine zz ?_
   exact⟨aVP.wrap (fee_1-x53.Value),aVP.wrap (x51+1),hr3,(zG [])⟩
  refine zz ?_
  obtain rfl:=sj hr3
  refine zz ?_
  exact hG2 _ _ _ _ (zG []) (J2 fee_1 hr)
 obtain⟨res4,hL4,hr⟩:=aC hr
 refine zz ?_
 refine aVR<|aVW (fun m s h=> ∃(x26:Int),yB N aD aA aB aE l m x26=some res4∧Ghost 0 s h (aI 63 [(1,(.row none 37 (l.map uM))),(2,(.ptr 0 0)),(24,(.row none 37 (l.map uM))),(25,(eI .i64 (l.length:Int))),(26,(eI .i64 x26))]) [some ⟨26,[(eI .u32 aD),(.row none 35 (aA.map aO)),(.row none 2 (aB.map aP)),(eI .u32 aE)]⟩]) (n:=N) ⟨0,hL4,(zG [0])⟩ (by rintro s h ⟨_,h0,_⟩;simp[yB]at h0) ?_
 rintro m4 s h ⟨x26,hr4,hg⟩
 refine aVV hg ?_
 clear hg hL4
 rw[yB]at hr4
 refine zz ?_
 refine aVT ?_
 refine zk hr4 rfl (fun h9 hr4=> ?_) (fun h9 hr4=> ?_)
 ·refine zz ?_
  refine aVT<|aVR ?_
  obtain⟨x29,h_10,hr4⟩:=aC hr4
  refine zz ?_
  refine xw (v:=(.ptr 1 0)) (h':=[some ⟨26,[(eI .u32 aD),(.row none 35 (aA.map aO)),(.row none 2 (aB.map aP)),(eI .u32 aE)]⟩,some ⟨35,(bG (eI .u8) (aVO 32 0) [(eI .u32 0),(eI .i64 0),(.row (some true) 1 []),(eI .i64 0),(eB false)])⟩]) (dR aCv rfl rfl rfl) ?_
  refine zz ?_
  refine aVT ?_
  obtain⟨x36,h_11,hr4⟩:=aC hr4
  refine aV8 mixed [] [] [[0,1,2,3,4,5,6,7,8]] ?_
  refine zz ?_
  refine xw (v:=(eB (!(aCR x29.Out.Tx x36.Prev.Tx ((x29.Out.Index == x36.Prev.Index)&&true))))) (v5 rfl rfl (aHz (d:=9) rG rfl aLV zl aN3 rfl rfl rfl rfl rfl)) ?_
  refine zz ?_
  refine zk hr4 rfl (fun h12 hr4=> ?_) (fun h12 hr4=> ?_)
  ·refine zz ?_
   obtain rfl:=sj hr4
   obtain rfl:=sj hr
   exact sZ Tryz.results12 []
  refine zz ?_
  exact⟨aVP.wrap (x26+1),hr4,(zG [0])⟩
 refine zz ?_
 obtain rfl:=sj hr4
 refine zz ?_
 exact hG1 _ _ _ _ (zG [0]) (J1 hr)
theorem aKv {N:Nat}{r:Bool}(hr:aCV N=some r):
  Vm.Fn Tryz.prog 5 [] [] (eB r) []:=by
 refine zf Tryz.func5 Tryz.ntmps5 ?_
 unfold aCV at hr
 refine zz ?_
 refine xw (v:=(.agg (bG (eI .u8) (aVO 32 0) [(eI .u32 1)]))) (cE rfl (tO rG aJc rfl))<|xw (v:=(.agg (bG (eI .u8) (aVO 32 0) [(eI .u32 2)]))) (cE rfl (tO rG aJc rfl))<|xw (v:=(.ptr 0 0)) (h':=[some ⟨30,(bG (eI .u8) (aVO 32 0) [(eI .u32 0)])⟩]) (dR rG rfl rfl rfl) ?_
 refine xw (v:=(.ptr 1 0)) (h':=[some ⟨30,(bG (eI .u8) (aVO 32 0) [(eI .u32 0)])⟩,some ⟨30,(bG (eI .u8) (aVO 32 0) [(eI .u32 0)])⟩]) (dR rG rfl rfl rfl) ?_
 refine zz ?_
 refine xw (v:=(.agg (bG (eI .u8) (aVO 32 0) [(eI .u32 1),(eI .u32 0),(.row (some true) 1 [])]))) (cE rfl (tO tY aPH rfl)) ?_
 refine zz ?_
 refine xw (v:=(.agg (bG (eI .u8) (aVO 32 0) [(eI .u32 2),(eI .u32 0),(.row (some true) 1 [])]))) (cE rfl (tO tY aPH rfl))<|xw (v:=(.sl 2 0 2 35 true)) (h':=[some ⟨30,(bG (eI .u8) (aVO 32 0) [(eI .u32 1)])⟩,some ⟨30,(bG (eI .u8) (aVO 32 0) [(eI .u32 2)])⟩,some ⟨48,[(aK.mk (aW.mk (aVO 32 0) 1) 0 []),(aK.mk (aW.mk (aVO 32 0) 2) 0 [])].flatMap dL⟩]) (pD rfl (aCL (C:=dL) (xs:=[(aK.mk (aW.mk (aVO 32 0) 1) 0 []),(aK.mk (aW.mk (aVO 32 0) 2) 0 [])]) (K:=35) (fun _=>rfl) (fun _=>rfl) aNr tY ⟨zl,zl,zl⟩ rfl rfl rfl rfl rfl rfl)) ?_
 refine zz ?_
 refine xw (v:=(.sl 3 0 1 2 true)) (h':=[some ⟨30,(bG (eI .u8) (aVO 32 0) [(eI .u32 1)])⟩,some ⟨30,(bG (eI .u8) (aVO 32 0) [(eI .u32 2)])⟩,some ⟨48,[(aK.mk (aW.mk (aVO 32 0) 1) 0 []),(aK.mk (aW.mk (aVO 32 0) 2) 0 [])].flatMap dL⟩,some ⟨33,[(aG.mk 10 [])].flatMap eW⟩]) (pD rfl (aCL (C:=eW) (xs:=[(aG.mk 10 [])]) (K:=2) (fun _=>rfl) (fun _=>rfl) aNN aGr ⟨zl,zl,zl⟩ rfl rfl rfl rfl rfl rfl)) ?_
 refine zz ?_
 refine xw (v:=(.agg (bG (eI .u8) (aVO 32 0) [(eI .u32 1),(eI .i64 5),(.row (some true) 1 []),(eI .i64 0),(eB false)]))) (cE rfl (tO aCv aPP rfl)) ?_
 refine zz ?_
 refine xw (v:=(.agg (bG (eI .u8) (aVO 32 0) [(eI .u32 2),(eI .i64 7),(.row (some true) 1 []),(eI .i64 0),(eB false)]))) (cE rfl (tO aCv aPP rfl))<|xw (v:=(.sl 5 0 2 37 true)) (h':=[some ⟨30,(bG (eI .u8) (aVO 32 0) [(eI .u32 1)])⟩,some ⟨30,(bG (eI .u8) (aVO 32 0) [(eI .u32 2)])⟩,some ⟨48,[(aK.mk (aW.mk (aVO 32 0) 1) 0 []),(aK.mk (aW.mk (aVO 32 0) 2) 0 [])].flatMap dL⟩,some ⟨33,[(aG.mk 10 [])].flatMap eW⟩,some ⟨26,[(eI .u32 0),(.sl 2 0 2 35 true),(.sl 3 0 1 2 true),(eI .u32 0)]⟩,some ⟨35,[(cU.mk (aW.mk (aVO 32 0) 1) (aG.mk 5 []) 0 false),(cU.mk (aW.mk (aVO 32 0) 2) (aG.mk 7 []) 0 false)].flatMap iJ⟩]) (pD rfl (aCL (C:=iJ) (xs:=[(cU.mk (aW.mk (aVO 32 0) 1) (aG.mk 5 []) 0 false),(cU.mk (aW.mk (aVO 32 0) 2) (aG.mk 7 []) 0 false)]) (K:=37) (fun _=>rfl) (fun _=>rfl) aS6 aCv ⟨zl,zl,zl⟩ rfl rfl rfl rfl rfl rfl)) ?_
 obtain⟨x29,h_1,hr⟩:=aC hr
 refine zz ?_
 refine xC (v:=(.tup [(eI .i64 x29.1),(eI .i64 x29.2)])) (h':=[some ⟨30,(bG (eI .u8) (aVO 32 0) [(eI .u32 1)])⟩,some ⟨30,(bG (eI .u8) (aVO 32 0) [(eI .u32 2)])⟩,some ⟨48,[(aK.mk (aW.mk (aVO 32 0) 1) 0 []),(aK.mk (aW.mk (aVO 32 0) 2) 0 [])].flatMap dL⟩,some ⟨33,[(aG.mk 10 [])].flatMap eW⟩,some ⟨26,[(eI .u32 0),(.sl 2 0 2 35 true),(.sl 3 0 1 2 true),(eI .u32 0)]⟩,some ⟨35,[(cU.mk (aW.mk (aVO 32 0) 1) (aG.mk 5 []) 0 false),(cU.mk (aW.mk (aVO 32 0) 2) (aG.mk 7 []) 0 false)].flatMap iJ⟩]) rfl (Vm.Fn.lendR (aFS h_1) [] [2,3,5] (by decide) rfl (by decide) Lend.nil (Brw.row (aI1 (pB rfl (pB (aEn (d:=3) (C:=dL) (fun _=>rfl) zl rfl rfl (fun _=>rfl)) (pB (aEn (d:=3) (C:=eW) (fun _=>rfl) zl rfl rfl (fun _=>rfl)) (pB rfl aJz))))) (Brw.row (aEI (C:=iJ) (fun _=>rfl) zl rfl rfl (fun _=>rfl)) Brw.nil)) rfl rfB.nil rfl zH) ?_
 obtain⟨cV,h_2,hr⟩:=aC hr
 refine zz ?_
 refine xy (h':=[some ⟨30,(bG (eI .u8) (aVO 32 0) [(eI .u32 1)])⟩,some ⟨30,(bG (eI .u8) (aVO 32 0) [(eI .u32 2)])⟩,some ⟨48,[(aK.mk (aW.mk (aVO 32 0) 1) 0 []),(aK.mk (aW.mk (aVO 32 0) 2) 0 [])].flatMap dL⟩,some ⟨33,([(aG.mk 10 [])].set (aV1 0) (aG.mk 13 cV.Script)).flatMap eW⟩,some ⟨26,[(eI .u32 0),(.sl 2 0 2 35 true),(.sl 3 0 1 2 true),(eI .u32 0)]⟩,some ⟨35,[(cU.mk (aW.mk (aVO 32 0) 1) (aG.mk 5 []) 0 false),(cU.mk (aW.mk (aVO 32 0) 2) (aG.mk 7 []) 0 false)].flatMap iJ⟩]) (bN rfl rfl (aPq (C:=eW) (K:=2) (off:=0) (fun _=>rfl) ti2 rfl h_2 rfl rfl zl rfl rfl)) ?_
 obtain⟨x39,h_3,hr⟩:=aC hr
 refine zz ?_
 refine xC (v:=(.tup [(eI .i64 x39.1),(eI .i64 x39.2)])) (h':=[some ⟨30,(bG (eI .u8) (aVO 32 0) [(eI .u32 1)])⟩,some ⟨30,(bG (eI .u8) (aVO 32 0) [(eI .u32 2)])⟩,some ⟨48,[(aK.mk (aW.mk (aVO 32 0) 1) 0 []),(aK.mk (aW.mk (aVO 32 0) 2) 0 [])].flatMap dL⟩,some ⟨33,([(aG.mk 10 [])].set (aV1 0) (aG.mk 13 cV.Script)).flatMap eW⟩,some ⟨26,[(eI .u32 0),(.sl 2 0 2 35 true),(.sl 3 0 1 2 true),(eI .u32 0)]⟩,some ⟨35,[(cU.mk (aW.mk (aVO 32 0) 1) (aG.mk 5 []) 0 false),(cU.mk (aW.mk (aVO 32 0) 2) (aG.mk 7 []) 0 false)].flatMap iJ⟩]) rfl (Vm.Fn.lendR (aFS h_3) [] [2,3,5] (by decide) rfl (by decide) Lend.nil (Brw.row (aI1 (pB rfl (pB (aEn (d:=3) (C:=dL) (fun _=>rfl) zl rfl rfl (fun _=>rfl)) (pB (aEn (d:=3) (C:=eW) (fun _=>rfl) zl rfl rfl (fun _=>rfl)) (pB rfl aJz))))) (Brw.row (aEI (C:=iJ) (fun _=>rfl) zl rfl rfl (fun _=>rfl)) Brw.nil)) rfl rfB.nil rfl zH) ?_
 refine zz ?_
 refine aVU fun K1 hK1 hG1=> ?_
 have J1: ∀(x0:Bool),uZ N x0=some r→K1 (aI 52 [(0,(eB x0))]) []:=by
  intro x0 hr
  unfold uZ at hr
  refine hK1 _ _ ?_
  refine zz ?_
  obtain rfl:=sj hr
  exact bI Tryz.results5 []
 rcases aVS (x29.2 == 0)with h4|h4
 ·replace hr:=dD hr h4
  rcases aVS (x29.1 == 2)with h5|h5
  ·replace hr:=dD hr h5
   refine xr ?_
   refine zz ?_
   exact hG1 _ _ _ _ (zG []) (J1 (x39.2 == 100) hr)
  replace hr:=dA hr h5
  refine xr ?_
  refine zz ?_
  exact hG1 _ _ _ _ (zG []) (J1 false hr)
 replace hr:=dA hr h4
 refine xr ?_
 refine zz ?_
 refine xX rfl<|xX rfl ?_
 refine zz ?_
 exact hG1 _ _ _ _ (zG []) (J1 false hr)
theorem aKG {N:Nat}{l:List (List Int)}{vn vm:Int}{r:Bool}(hr:aAW N l vn vm=some r):
  Vm.Fn Tryz.prog 13 [] [(.row none 1 (l.map (eL 1 (eI .u8)))),(eI .i64 vn),(eI .i64 vm)] (eB r) []:=by
 refine zf Tryz.func13 Tryz.ntmps13 ?_
 unfold aAW at hr
 refine zz ?_
 refine aVT ?_
 refine zz ?_
 refine zk hr rfl (fun h1 hr=> ?_) (fun h1 hr=> ?_)
 ·refine zz ?_
  obtain rfl:=sj hr
  exact bI Tryz.results13 []
 refine zz ?_
 refine aVU fun K1 hK1 hG1=> ?_
 have J1:aCy N=some r→K1 (aI 24 []) []:=by
  intro hr
  unfold aCy at hr
  refine hK1 _ _ ?_
  refine zz ?_
  obtain rfl:=sj hr
  exact bI Tryz.results13 []
 obtain⟨bQ,hL2,hr⟩:=aC hr
 refine zz ?_
 refine aVR<|aVW (fun m s h=> ∃(x15:Int),mW N l vm m x15=some bQ∧Ghost 0 s h (aI 24 [(2,(eI .i64 vm)),(13,(.row none 1 (l.map (eL 1 (eI .u8))))),(14,(eI .i64 (l.length:Int))),(15,(eI .i64 x15))]) []) (n:=N) ⟨0,hL2,(zG [])⟩ (by rintro s h ⟨_,h0,_⟩;simp[mW]at h0) ?_
 rintro m2 s h ⟨x15,hr2,hg⟩
 refine aVV hg ?_
 clear hg hL2
 rw[mW]at hr2
 refine zz ?_
 refine aVT ?_
 refine zk hr2 rfl (fun h2 hr2=> ?_) (fun h2 hr2=> ?_)
 ·refine zz ?_
  refine aVT<|aVR ?_
  obtain⟨x17,h_3,hr2⟩:=aC hr2
  refine zz ?_
  refine zk hr2 rfl (fun h4 hr2=> ?_) (fun h4 hr2=> ?_)
  ·refine zz ?_
   obtain rfl:=sj hr2
   obtain rfl:=sj hr
   exact bI Tryz.results13 []
  refine zz ?_
  exact⟨aVP.wrap (x15+1),hr2,(zG [])⟩
 refine zz ?_
 obtain rfl:=sj hr2
 refine zz ?_
 exact hG1 _ _ _ _ (zG []) (J1 hr)
theorem aIL {N:Nat}{aD:Int}{aA:List aK}{aB:List aG}{aE:Int}{r:Bool}(hr:aEA N aD aA aB aE=some r):
  Vm.Fn Tryz.prog 6 [] [(.agg [(eI .u32 aD),(.row none 35 (aA.map aO)),(.row none 2 (aB.map aP)),(eI .u32 aE)])] (eB r) []:=by
 refine zf Tryz.func6 Tryz.ntmps6 ?_
 unfold aEA at hr
 refine zz ?_
 refine aVT ?_
 refine aVU fun K1 hK1 hG1=> ?_
 have J1: ∀(x16:Bool),aA8 N aD aA aB aE x16=some r→K1 (aI 41 [(1,(.ptr 0 0)),(16,(eB x16))]) [some ⟨26,[(eI .u32 aD),(.row none 35 (aA.map aO)),(.row none 2 (aB.map aP)),(eI .u32 aE)]⟩]:=by
  intro x16 hr
  unfold aA8 at hr
  refine hK1 _ _ ?_
  refine zk hr rfl (fun h1 hr=> ?_) (fun h1 hr=> ?_)
  ·refine zz ?_
   obtain rfl:=sj hr
   exact bI Tryz.results6 []
  refine zz ?_
  refine aVU fun K2 hK2 hG2=> ?_
  have J2:aCK N aD aA aB aE=some r→K2 (aI 41 [(1,(.ptr 0 0))]) [some ⟨26,[(eI .u32 aD),(.row none 35 (aA.map aO)),(.row none 2 (aB.map aP)),(eI .u32 aE)]⟩]:=by
   intro hr
   unfold aCK at hr
   refine hK2 _ _ ?_
   refine aVU fun K3 hK3 hG3=> ?_
   have J3:aE0 N=some r→K3 (aI 41 []) []:=by
    intro hr
    unfold aE0 at hr
    refine hK3 _ _ ?_
    refine zz ?_
    obtain rfl:=sj hr
    exact bI Tryz.results6 []
   obtain⟨res4,hL4,hr⟩:=aC hr
   refine zz ?_
   refine aVR<|aVW (fun m s h=> ∃(nW:Int),sA N aB m nW=some res4∧Ghost 0 s h (aI 41 [(30,(.row none 2 (aB.map aP))),(31,(eI .i64 (aB.length:Int))),(32,(eI .i64 nW))]) []) (n:=N) ⟨0,hL4,(zG [])⟩ (by rintro s h ⟨_,h0,_⟩;simp[sA]at h0) ?_
   rintro m4 s h ⟨nW,hr4,hg⟩
   refine aVV hg ?_
   clear hg hL4
   rw[sA]at hr4
   refine zz ?_
   refine aVT ?_
   refine zk hr4 rfl (fun h2 hr4=> ?_) (fun h2 hr4=> ?_)
   ·refine zz ?_
    refine aVT<|aVR ?_
    obtain⟨cV,h_3,hr4⟩:=aC hr4
    refine zz ?_
    refine zk hr4 rfl (fun h4 hr4=> ?_) (fun h4 hr4=> ?_)
    ·refine zz ?_
     obtain rfl:=sj hr4
     obtain rfl:=sj hr
     exact bI Tryz.results6 []
    refine zz ?_
    exact⟨aVP.wrap (nW+1),hr4,(zG [])⟩
   refine zz ?_
   obtain rfl:=sj hr4
   refine zz ?_
   exact hG3 _ _ _ _ (zG []) (J3 hr)
  obtain⟨res5,hL5,hr⟩:=aC hr
  refine zz ?_
  refine aVR<|aVW (fun m s h=> ∃(bS:Int),r8 N aD aA aB aE m bS=some res5∧Ghost 0 s h (aI 41 [(1,(.ptr 0 0)),(18,(.row none 35 (aA.map aO))),(19,(eI .i64 (aA.length:Int))),(20,(eI .i64 bS))]) [some ⟨26,[(eI .u32 aD),(.row none 35 (aA.map aO)),(.row none 2 (aB.map aP)),(eI .u32 aE)]⟩]) (n:=N) ⟨0,hL5,(zG [0])⟩ (by rintro s h ⟨_,h0,_⟩;simp[r8]at h0) ?_
  rintro m5 s h ⟨bS,hr5,hg⟩
  refine aVV hg ?_
  clear hg hL5
  rw[r8]at hr5
  refine zz ?_
  refine aVT ?_
  refine zk hr5 rfl (fun h5 hr5=> ?_) (fun h5 hr5=> ?_)
  ·refine zz ?_
   refine aVT<|aVR ?_
   obtain⟨bX,h_6,hr5⟩:=aC hr5
   refine zz ?_
   refine xw (v:=(.ptr 1 0)) (h':=[some ⟨26,[(eI .u32 aD),(.row none 35 (aA.map aO)),(.row none 2 (aB.map aP)),(eI .u32 aE)]⟩,some ⟨48,(bG (eI .u8) (aVO 32 0) [(eI .u32 0),(eI .u32 0),(.row (some true) 1 [])])⟩]) (dR tY rfl rfl rfl) ?_
   obtain⟨x26,h_7,hr5⟩:=aC hr5
   refine zz ?_
   refine xp (aKG h_7) ?_
   refine zz ?_
   refine zk hr5 rfl (fun h8 hr5=> ?_) (fun h8 hr5=> ?_)
   ·refine zz ?_
    obtain rfl:=sj hr5
    obtain rfl:=sj hr
    exact bI Tryz.results6 []
   refine zz ?_
   exact⟨aVP.wrap (bS+1),hr5,(zG [0])⟩
  refine zz ?_
  obtain rfl:=sj hr5
  refine zz ?_
  exact hG2 _ _ _ _ (zG [0]) (J2 hr)
 rcases aVS (decide (70<(aA.length:Int)))with h9|h9
 ·replace hr:=dD hr h9
  refine xr ?_
  refine zz ?_
  exact hG1 _ _ _ _ (zG [0]) (J1 true hr)
 replace hr:=dA hr h9
 refine xr ?_
 refine zz ?_
 exact hG1 _ _ _ _ (zG [0]) (J1 (decide (70<(aB.length:Int))) hr)
theorem aLi {N:Nat}{aD:Int}{aA:List aK}{aB:List aG}{aE:Int}{bJ:Bool}{r:(List Int)×Int}(hr:aD1 N aD aA aB aE bJ=some r):
  Vm.Fn Tryz.prog 48 [] [(.agg [(eI .u32 aD),(.row none 35 (aA.map aO)),(.row none 2 (aB.map aP)),(eI .u32 aE)]),(eB bJ)] (.tup [(.sl 0 0 r.1.length 1 false),(eI .i64 r.2)]) [some ⟨5,r.1.map (eI .u8)⟩]:=by
 refine zf Tryz.func48 Tryz.ntmps48 ?_
 unfold aD1 at hr
 refine zz ?_
 refine aVT ?_
 obtain⟨x7,h_1,hr⟩:=aC hr
 refine zz ?_
 refine xp (aIH h_1) ?_
 refine zz ?_
 refine zk hr rfl (fun h2 hr=> ?_) (fun h2 hr=> ?_)
 ·refine zz ?_
  obtain rfl:=sj hr
  exact nX Tryz.results48 bH bH (zW 5 [1])
 obtain⟨b4,h_3,hr⟩:=aC hr
 refine zz ?_
 refine zc (aFM h_3) [] ?_
 refine zz ?_
 obtain rfl:=sj hr
 exact sZ Tryz.results48 [1]
theorem aCA {N:Nat}{aD:Int}{aA:List aK}{aB:List aG}{aE:Int}{r:Bool}(hr:aBq N aD aA aB aE=some r):
  Vm.Fn Tryz.prog 25 [] [(.agg [(eI .u32 aD),(.row none 35 (aA.map aO)),(.row none 2 (aB.map aP)),(eI .u32 aE)])] (eB r) []:=by
 refine zf Tryz.func25 Tryz.ntmps25 ?_
 unfold aBq at hr
 obtain⟨x7,h_1,hr⟩:=aC hr
 refine zz ?_
 refine zc (aLi h_1) [] ?_
 refine zz ?_
 obtain rfl:=sj hr
 exact bI Tryz.results25 []
theorem vU {N:Nat}{vn:Int}{r:(List Int)}(hr:oK N vn=some r):
  Vm.Fn Tryz.prog 27 [] [(eI .u32 vn)] (.sl 0 0 r.length 1 false) [some ⟨5,r.map (eI .u8)⟩]:=by
 refine zf Tryz.func27 Tryz.ntmps27 ?_
 unfold oK at hr
 obtain⟨x4,h_1,hr⟩:=aC hr
 refine zz ?_
 refine zc (lF h_1) [] ?_
 refine zz ?_
 obtain rfl:=sj hr
 exact bI Tryz.results27 [0]
theorem aFC {N:Nat}{parts:List (List Int)}{r:(List Int)}(hr:wY N parts=some r):
  Vm.Fn Tryz.prog 30 [] [(.row none 1 (parts.map (eL 1 (eI .u8))))] (.sl 0 0 r.length 1 false) [some ⟨5,r.map (eI .u8)⟩]:=by
 refine zf Tryz.func30 Tryz.ntmps30 ?_
 unfold wY at hr
 refine zz ?_
 refine aVU fun K1 hK1 hG1=> ?_
 have J1: ∀(l0:List Int),aDL N l0=some r→K1 (aI 17 [(3,(.sl 0 0 l0.length 1 false))]) [some ⟨5,l0.map (eI .u8)⟩]:=by
  intro l0 hr
  unfold aDL at hr
  refine hK1 _ _ ?_
  refine zz ?_
  obtain rfl:=sj hr
  exact bI Tryz.results30 [0]
 obtain⟨bQ,hL2,hr⟩:=aC hr
 refine zz ?_
 refine aVR<|aVW (fun m s h=> ∃(x8:Int)(aS:List Int),oN N parts m x8 aS=some bQ∧Ghost 0 s h (aI 17 [(3,(.sl 0 0 aS.length 1 false)),(6,(.row none 1 (parts.map (eL 1 (eI .u8))))),(7,(eI .i64 (parts.length:Int))),(8,(eI .i64 x8))]) [some ⟨5,aS.map (eI .u8)⟩]) (n:=N) ⟨0,[],hL2,(zW 5 [0])⟩ (by rintro s h ⟨_,_,h0,_⟩;simp[oN]at h0) ?_
 rintro m2 s h ⟨x8,aS,hr2,hg⟩
 refine aVV hg ?_
 clear hg hL2
 rw[oN]at hr2
 refine zz ?_
 refine aVT ?_
 refine zk hr2 rfl (fun h1 hr2=> ?_) (fun h1 hr2=> ?_)
 ·refine zz ?_
  refine aVT<|aVR ?_
  obtain⟨cD,h_2,hr2⟩:=aC hr2
  obtain⟨bR,h_3,hr2⟩:=aC hr2
  refine zz ?_
  exact⟨aVP.wrap (x8+1),bR,hr2,(zG [1])⟩
 refine zz ?_
 obtain rfl:=sj hr2
 refine zz ?_
 exact hG1 _ _ _ _ (zG [0]) (J1 aS hr)
theorem aD0 {N:Nat}{bF:Int}{aZ:List Int}{r:(List Int)}(hr:tM N bF aZ=some r):
  Vm.Fn Tryz.prog 28 [] [(.agg [(eI .i64 bF),(.row none 1 (aZ.map (eI .u8)))])] (.sl 0 0 r.length 1 false) [some ⟨5,r.map (eI .u8)⟩]:=by
 refine zf Tryz.func28 Tryz.ntmps28 ?_
 unfold tM at hr
 refine zz ?_
 refine aVT ?_
 obtain⟨x6,h_1,hr⟩:=aC hr
 obtain⟨x9,h_3,hr⟩:=aC hr
 obtain⟨b4,h_5,hr⟩:=aC hr
 refine aV8 mixed [] [30,51,52] [[0,1,2,3,4,5,6],[7,8,9]] ?_
 refine zz ?_
 refine zg (xE h_1) [] ?_
 refine zz ?_
 refine zg (uU h_3) [] ?_
 refine zz ?_
 refine⟨_,_,(aV6 (zv 1) (zv 2)), ?_⟩
 refine zz ?_
 refine zgL (aFC h_5) [] [3] ?_
 refine zz ?_
 obtain rfl:=sj hr
 exact bI Tryz.results28 [4]
theorem aN4 {N:Nat}{vn:Int}{r:(List Int)}(hr:aEu N vn=some r):
  Vm.Fn Tryz.prog 80 [] [(eI .u64 vn)] (.sl 0 0 r.length 1 false) [some ⟨5,r.map (eI .u8)⟩]:=by
 refine zf Tryz.func80 Tryz.ntmps80 ?_
 unfold aEu at hr
 obtain⟨x15,h_1,hr⟩:=aC hr
 refine zz ?_
 refine xw (v:=(.sl 0 0 x15.length 1 false)) (h':=[some ⟨5,x15.map (eI .u8)⟩]) (aIR rfl rfl (mkL (E:=(eI .u8)) (y:=0) dC dO ⟨zl,rfl,rfl⟩ rfl rfl rfl h_1 rfl rfl)) ?_
 obtain⟨x17,h_2,hr⟩:=aC hr
 refine zz ?_
 refine aVU fun K1 hK1 hG1=> ?_
 have J1: ∀(l0:List Int),aE9 N l0=some r→K1 (aI 33 [(4,(.sl 0 0 l0.length 1 false))]) [some ⟨5,l0.map (eI .u8)⟩]:=by
  intro l0 hr
  unfold aE9 at hr
  refine hK1 _ _ ?_
  refine zz ?_
  obtain rfl:=sj hr
  exact bI Tryz.results80 [0]
 obtain⟨bQ,hL2,hr⟩:=aC hr
 refine zz ?_
 refine aVR<|aVW (fun m s h=> ∃(x18:Int)(aS:List Int),rU N vn m x18 aS=some bQ∧Ghost 0 s h (aI 33 [(0,(eI .u64 vn)),(4,(.sl 0 0 aS.length 1 false)),(18,(eI .i64 x18))]) [some ⟨5,aS.map (eI .u8)⟩]) (n:=N) ⟨0,x15.set (aV1 0) 128,hL2,(lK [0])⟩ (by rintro s h ⟨_,_,h0,_⟩;simp[rU]at h0) ?_
 rintro m2 s h ⟨x18,aS,hr2,hg⟩
 refine aVV hg ?_
 clear hg hL2
 rw[rU]at hr2
 refine zz ?_
 refine aVT ?_
 refine zk hr2 rfl (fun h3 hr2=> ?_) (fun h3 hr2=> ?_)
 ·refine zz ?_
  refine aVT<|aVR ?_
  obtain⟨x27,h_4,hr2⟩:=aC hr2
  obtain⟨lL,h_5,hr2⟩:=aC hr2
  refine zz ?_
  exact⟨aVP.wrap (x18+1),lL,hr2,(zG [2])⟩
 refine zz ?_
 obtain rfl:=sj hr2
 refine zz ?_
 exact hG1 _ _ _ _ (zG [0]) (J1 aS hr)
theorem aIC {N:Nat}{parts:List (List Int)}{r:(List Int)}(hr:aC3 N parts=some r):
  Vm.Fn Tryz.prog 54 [] [(.row none 1 (parts.map (eL 1 (eI .u8))))] (.sl 0 0 r.length 1 false) [some ⟨5,r.map (eI .u8)⟩]:=by
 refine zf Tryz.func54 Tryz.ntmps54 ?_
 unfold aC3 at hr
 refine zz ?_
 refine aVU fun K1 hK1 hG1=> ?_
 have J1: ∀(l0:List Int),aEP N l0=some r→K1 (aI 17 [(3,(.sl 0 0 l0.length 1 false))]) [some ⟨5,l0.map (eI .u8)⟩]:=by
  intro l0 hr
  unfold aEP at hr
  refine hK1 _ _ ?_
  refine zz ?_
  obtain rfl:=sj hr
  exact bI Tryz.results54 [0]
 obtain⟨bQ,hL2,hr⟩:=aC hr
 refine zz ?_
 refine aVR<|aVW (fun m s h=> ∃(x8:Int)(aS:List Int),rQ N parts m x8 aS=some bQ∧Ghost 0 s h (aI 17 [(3,(.sl 0 0 aS.length 1 false)),(6,(.row none 1 (parts.map (eL 1 (eI .u8))))),(7,(eI .i64 (parts.length:Int))),(8,(eI .i64 x8))]) [some ⟨5,aS.map (eI .u8)⟩]) (n:=N) ⟨0,[],hL2,(zW 5 [0])⟩ (by rintro s h ⟨_,_,h0,_⟩;simp[rQ]at h0) ?_
 rintro m2 s h ⟨x8,aS,hr2,hg⟩
 refine aVV hg ?_
 clear hg hL2
 rw[rQ]at hr2
 refine zz ?_
 refine aVT ?_
 refine zk hr2 rfl (fun h1 hr2=> ?_) (fun h1 hr2=> ?_)
 ·refine zz ?_
  refine aVT<|aVR ?_
  obtain⟨cD,h_2,hr2⟩:=aC hr2
  obtain⟨bR,h_3,hr2⟩:=aC hr2
  refine zz ?_
  exact⟨aVP.wrap (x8+1),bR,hr2,(zG [1])⟩
 refine zz ?_
 obtain rfl:=sj hr2
 refine zz ?_
 exact hG1 _ _ _ _ (zG [0]) (J1 aS hr)
theorem vT {N:Nat}{x k r:Int}(hr:kS N x k=some r):
  Vm.Fn Tryz.prog 115 [] [(eI .u32 x),(eI .i64 k)] (eI .u32 r) []:=by
 refine zf Tryz.func115 Tryz.ntmps115 ?_
 unfold kS at hr
 obtain⟨b4,h_1,hr⟩:=aC hr
 obtain⟨x15,h_2,hr⟩:=aC hr
 refine zz ?_
 obtain rfl:=sj hr
 exact bI Tryz.results115 []
theorem lM {N:Nat}{x vn r:Int}(hr:dS N x vn=some r):
  Vm.Fn Tryz.prog 105 [] [(eI .u32 x),(eI .i64 vn)] (eI .u32 r) []:=by
 refine zf Tryz.func105 Tryz.ntmps105 ?_
 unfold dS at hr
 obtain⟨x8,h_1,hr⟩:=aC hr
 refine zz ?_
 refine xw (aLO rfl (aOt ..))<|xp (vT h_1) ?_
 refine zz ?_
 obtain rfl:=sj hr
 exact bI Tryz.results105 []
theorem aIF {N:Nat}{block:List Int}{r:(List Int)}(hr:qI N block=some r):
  Vm.Fn Tryz.prog 104 [] [(.agg (block.map (eI .u8)))] (.agg (r.map (eI .u32))) []:=by
 refine zf Tryz.func104 Tryz.ntmps104 ?_
 unfold qI at hr
 refine zz ?_
 refine aVU fun K1 hK1 hG1=> ?_
 have J1: ∀(l1:List Int),rM N l1=some r→K1 (aI 85 [(2,(.ptr 0 0)),(3,(.ptr 1 0))]) [some ⟨116,(aVO 64 0).map (eI .u32)⟩,some ⟨116,l1.map (eI .u32)⟩]:=by
  intro l1 hr
  unfold rM at hr
  refine hK1 _ _ ?_
  refine aVU fun K2 hK2 hG2=> ?_
  have J2: ∀(cS:List Int),rX N cS=some r→K2 (aI 85 [(2,(.ptr 0 0)),(3,(.ptr 1 0))]) [some ⟨116,(aVO 64 0).map (eI .u32)⟩,some ⟨116,cS.map (eI .u32)⟩]:=by
   intro cS hr
   unfold rX at hr
   refine hK2 _ _ ?_
   obtain⟨q,h_1,hr⟩:=aC hr
   refine zz ?_
   obtain rfl:=sj hr
   exact iA Tryz.results104 bH (zG [])
  obtain⟨vK,hL3,hr⟩:=aC hr
  refine zz ?_
  refine aVR<|aVW (fun m s h=> ∃(vi:Int)(l1_2:List Int),i4 N m vi l1_2=some vK∧Ghost 0 s h (aI 85 [(2,(.ptr 0 0)),(3,(.ptr 1 0)),(6,(eI .i64 vi))]) [some ⟨116,(aVO 64 0).map (eI .u32)⟩,some ⟨116,l1_2.map (eI .u32)⟩]) (n:=N) ⟨16,l1,hL3,(zG [0,1])⟩ (by rintro s h ⟨_,_,h0,_⟩;simp[i4]at h0) ?_
  rintro m3 s h ⟨vi,l1_2,hr3,hg⟩
  refine aVV hg ?_
  clear hg hL3
  rw[i4]at hr3
  refine aVT ?_
  refine zz ?_
  refine zk hr3 rfl (fun h2 hr3=> ?_) (fun h2 hr3=> ?_)
  ·refine zz ?_
   refine aVT<|aVR<|aVT ?_
   obtain⟨x37,h_3,hr3⟩:=aC hr3
   obtain⟨x39,h_4,hr3⟩:=aC hr3
   obtain⟨x44,h_6,hr3⟩:=aC hr3
   obtain⟨x50,h_8,hr3⟩:=aC hr3
   refine aV8 mixed [105] [] [[0,1,2,3,4,5,6,7,8,9,10,11,12,13,14,15,16,17]] ?_
   refine zz ?_
   refine xu (lM h_4) ?_
   refine zz ?_
   refine xu (lM h_6) ?_
   refine zz ?_
   refine aVT ?_
   obtain⟨x54,h_9,hr3⟩:=aC hr3
   obtain⟨x56,h_10,hr3⟩:=aC hr3
   obtain⟨x61,h_12,hr3⟩:=aC hr3
   obtain⟨x67,h_14,hr3⟩:=aC hr3
   refine aV8 mixed [105] [] [[0,1,2,3,4,5,6,7,8,9,10,11,12,13,14,15,16,17]] ?_
   refine zz ?_
   refine xu (lM h_10) ?_
   refine zz ?_
   refine xu (lM h_12) ?_
   obtain⟨x72,h_15,hr3⟩:=aC hr3
   obtain⟨x78,h_16,hr3⟩:=aC hr3
   obtain⟨x83,h_17,hr3⟩:=aC hr3
   refine zz ?_
   refine aV8 mixed [] [] [[0,1,2,3,4,5,6,7,8,9,10,11,12,13,14,15]] ?_
   refine zz ?_
   exact⟨aVP.wrap (vi+1),l1_2.set (aV1 vi) (aVY.wrap ((aVY.wrap ((aVY.wrap (x72+(bits .xor .u32 (bits .xor .u32 x39 x44) x50)))+x78))+(bits .xor .u32 (bits .xor .u32 x56 x61) x67))),hr3,(zG [0,1])⟩
  refine zz ?_
  obtain rfl:=sj hr3
  refine zz ?_
  exact hG2 _ _ _ _ (zG [0,1]) (J2 l1_2 hr)
 obtain⟨res4,hL4,hr⟩:=aC hr
 refine zz ?_
 refine aVR<|aVW (fun m s h=> ∃(x9:Int)(l2:List Int),gZ N block m x9 l2=some res4∧Ghost 0 s h (aI 85 [(1,(.ptr 0 0)),(2,(.ptr 1 0)),(3,(.ptr 2 0)),(9,(eI .i64 x9))]) [some ⟨97,block.map (eI .u8)⟩,some ⟨116,(aVO 64 0).map (eI .u32)⟩,some ⟨116,l2.map (eI .u32)⟩]) (n:=N) ⟨0,aVO 64 0,hL4,(zG [0,1,2])⟩ (by rintro s h ⟨_,_,h0,_⟩;simp[gZ]at h0) ?_
 rintro m4 s h ⟨x9,l2,hr4,hg⟩
 refine aVV hg ?_
 clear hg hL4
 rw[gZ]at hr4
 refine zz ?_
 refine aVT ?_
 refine zk hr4 rfl (fun h18 hr4=> ?_) (fun h18 hr4=> ?_)
 ·refine zz ?_
  refine aVU fun K5 hK5 hG5=> ?_
  have J5: ∀(i9:List Int),wA N block x9 (gZ N block m4) i9=some res4→K5 (aI 85 [(1,(.ptr 0 0)),(2,(.ptr 1 0)),(3,(.ptr 2 0)),(9,(eI .i64 x9))]) [some ⟨97,block.map (eI .u8)⟩,some ⟨116,(aVO 64 0).map (eI .u32)⟩,some ⟨116,i9.map (eI .u32)⟩]:=by
   intro i9 hr4
   unfold wA at hr4
   refine hK5 _ _ ?_
   refine zz ?_
   exact⟨aVP.wrap (x9+1),i9,hr4,(zG [0,1,2])⟩
  refine aVR ?_
  obtain⟨res6,hL6,hr4⟩:=aC hr4
  refine zz ?_
  refine aVR<|aVW (fun m s h=> ∃(fC:Int)(j5:List Int),eP N block x9 m fC j5=some res6∧Ghost 0 s h (aI 85 [(1,(.ptr 0 0)),(2,(.ptr 1 0)),(3,(.ptr 2 0)),(4,(eI .i64 x9)),(9,(eI .i64 x9)),(12,(eI .i64 fC))]) [some ⟨97,block.map (eI .u8)⟩,some ⟨116,(aVO 64 0).map (eI .u32)⟩,some ⟨116,j5.map (eI .u32)⟩]) (n:=N) ⟨0,l2,hL6,(zG [0,1,2])⟩ (by rintro s h ⟨_,_,h0,_⟩;simp[eP]at h0) ?_
  rintro m6 s h ⟨fC,j5,hr6,hg⟩
  refine aVV hg ?_
  clear hg hL6
  rw[eP]at hr6
  refine zz ?_
  refine aVT ?_
  refine zk hr6 rfl (fun h19 hr6=> ?_) (fun h19 hr6=> ?_)
  ·refine zz ?_
   refine aVT<|aVR ?_
   obtain⟨x17,h_20,hr6⟩:=aC hr6
   obtain⟨x19,h_21,hr6⟩:=aC hr6
   obtain⟨fG,h_22,hr6⟩:=aC hr6
   refine zz ?_
   refine aV8 mixed [] [] [[0,1,2,3,4,5,6,7,8,9,10,11,12,13,14]] ?_
   refine zz ?_
   exact⟨aVP.wrap (fC+1),j5.set (aV1 x9) (bits .or .u32 x19 (aVY.wrap fG)),hr6,(zG [0,1,2])⟩
  refine zz ?_
  obtain rfl:=sj hr6
  refine zz ?_
  exact hG5 _ _ _ _ (zG [0,1,2]) (J5 j5 hr4)
 refine zz ?_
 obtain rfl:=sj hr4
 refine zz ?_
 exact hG1 _ _ _ _ (zG [1,2]) (J1 l2 hr)
theorem aIn {N:Nat}{cT block:List Int}{r:(List Int)}(hr:lQ N cT block=some r):
  Vm.Fn Tryz.prog 81 [] [(.agg (cT.map (eI .u32))),(.agg (block.map (eI .u8)))] (.agg (r.map (eI .u32))) []:=by
 refine zf Tryz.func81 Tryz.ntmps81 ?_
 unfold lQ at hr
 obtain⟨q,h_1,hr⟩:=aC hr
 obtain⟨x18,h_2,hr⟩:=aC hr
 obtain⟨q_1,h_3,hr⟩:=aC hr
 refine zz ?_
 refine xp (aIF h_2) ?_
 refine zz ?_
 refine aVT ?_
 obtain⟨x19,h_4,hr⟩:=aC hr
 obtain⟨d9,h_5,hr⟩:=aC hr
 obtain⟨iB,h_6,hr⟩:=aC hr
 obtain⟨x25,h_7,hr⟩:=aC hr
 refine aV8 mixed [] [] [[0,1,2,3,4,5,6,7,8,9,10,11]] ?_
 refine zz ?_
 refine aVT ?_
 obtain⟨x27,h_8,hr⟩:=aC hr
 obtain⟨x29,h_9,hr⟩:=aC hr
 obtain⟨e9,h_10,hr⟩:=aC hr
 obtain⟨jY,h_11,hr⟩:=aC hr
 refine aV8 mixed [] [] [[0,1,2,3,4,5,6,7,8,9,10,11]] ?_
 refine zz ?_
 refine aVU fun K1 hK1 hG1=> ?_
 have J1: ∀(va b c d ve f g vh:Int),rS N cT va b c d ve f g vh=some r→K1 (aI 131 [(2,(.ptr 0 0)),(4,(.ptr 1 0)),(6,(eI .u32 va)),(7,(eI .u32 b)),(8,(eI .u32 c)),(9,(eI .u32 d)),(10,(eI .u32 ve)),(11,(eI .u32 f)),(12,(eI .u32 g)),(13,(eI .u32 vh))]) [some ⟨95,cT.map (eI .u32)⟩,some ⟨95,(aVO 8 0).map (eI .u32)⟩]:=by
  intro va b c d ve f g vh hr
  unfold rS at hr
  refine hK1 _ _ ?_
  obtain⟨x98,h_12,hr⟩:=aC hr
  obtain⟨aIU,h_13,hr⟩:=aC hr
  obtain⟨xL,h_14,hr⟩:=aC hr
  obtain⟨aQr,h_15,hr⟩:=aC hr
  obtain⟨aJJ,h_16,hr⟩:=aC hr
  obtain⟨aCE,h_17,hr⟩:=aC hr
  obtain⟨aPR,h_18,hr⟩:=aC hr
  obtain⟨aGa,h_19,hr⟩:=aC hr
  refine zz ?_
  refine xw (v:=(.agg ([aVY.wrap (x98+va),aVY.wrap (aIU+b),aVY.wrap (xL+c),aVY.wrap (aQr+d),aVY.wrap (aJJ+ve),aVY.wrap (aCE+f),aVY.wrap (aPR+g),aVY.wrap (aGa+vh)].map (eI .u32)))) (cE rfl (nB aJA vJ rfl)) ?_
  refine zz ?_
  obtain rfl:=sj hr
  exact iA Tryz.results81 bH (zG [])
 obtain⟨bQ,hL2,hr⟩:=aC hr
 refine zz ?_
 refine aVR<|aVW (fun m s h=> ∃(va_1 b_1 c_1 d_1 ve_1 f_1 g_1 vh_1 x35:Int),i6 N cT x18 m va_1 b_1 c_1 d_1 ve_1 f_1 g_1 vh_1 x35=some bQ∧Ghost 0 s h (aI 131 [(2,(.ptr 0 0)),(4,(.ptr 1 0)),(5,(.ptr 2 0)),(6,(eI .u32 va_1)),(7,(eI .u32 b_1)),(8,(eI .u32 c_1)),(9,(eI .u32 d_1)),(10,(eI .u32 ve_1)),(11,(eI .u32 f_1)),(12,(eI .u32 g_1)),(13,(eI .u32 vh_1)),(35,(eI .i64 x35))]) [some ⟨95,cT.map (eI .u32)⟩,some ⟨95,(aVO 8 0).map (eI .u32)⟩,some ⟨116,x18.map (eI .u32)⟩]) (n:=N) ⟨x19,d9,iB,x25,x27,x29,e9,jY,0,hL2,(zG [0,2,3])⟩ (by rintro s h ⟨_,_,_,_,_,_,_,_,_,h0,_⟩;simp[i6]at h0) ?_
 rintro m2 s h ⟨va_1,b_1,c_1,d_1,ve_1,f_1,g_1,vh_1,x35,hr2,hg⟩
 refine aVV hg ?_
 clear hg hL2
 rw[i6]at hr2
 refine zz ?_
 refine aVT ?_
 refine zk hr2 rfl (fun h20 hr2=> ?_) (fun h20 hr2=> ?_)
 ·refine zz ?_
  refine aVT<|aVR ?_
  refine zz ?_
  refine aVT ?_
  obtain⟨x40,h_21,hr2⟩:=aC hr2
  obtain⟨x42,h_23,hr2⟩:=aC hr2
  obtain⟨x45,h_25,hr2⟩:=aC hr2
  obtain⟨x58,h_27,hr2⟩:=aC hr2
  obtain⟨x62,h_28,hr2⟩:=aC hr2
  refine aV8 mixed [105] [] [[0,1,2,3,4,5,6,7,8,9,10,11,12,13,14,15,16,17,18,19,20,21,22,23,24,25,26,27]] ?_
  refine zz ?_
  refine xu (lM h_21) ?_
  refine zz ?_
  refine xu (lM h_23) ?_
  refine zz ?_
  refine xu (lM h_25) ?_
  refine zz ?_
  refine xw (v:=(eI .u32 (bits .xor .u32 (aWc .u32) ve_1))) (aLO rfl (aMT rfl _)) ?_
  refine zz ?_
  refine xw (v:=(.eptr [(.agg (aD7.map (eI .u32)))] 0 (aV1 x35))) (aCF rfl rfl (iaG aNV vJ rfl h_27))<|xw (v:=(eI .u32 x58)) (cA rfl (ldG (E:=(eI .u32)) (y:=x58) vJ rfl (rL h_27))) ?_
  obtain⟨x66,h_29,hr2⟩:=aC hr2
  obtain⟨x68,h_30,hr2⟩:=aC hr2
  obtain⟨x71,h_31,hr2⟩:=aC hr2
  refine zz ?_
  refine xp (lM h_29) ?_
  refine zz ?_
  refine xp (lM h_30) ?_
  refine zz ?_
  refine xp (lM h_31) ?_
  refine zz ?_
  exact⟨aVY.wrap ((aVY.wrap ((aVY.wrap ((aVY.wrap ((aVY.wrap (vh_1+(bits .xor .u32 (bits .xor .u32 x40 x42) x45)))+(bits .xor .u32 (bits .and .u32 ve_1 f_1) (bits .and .u32 (bits .xor .u32 (aWc .u32) ve_1) g_1))))+x58))+x62))+(aVY.wrap ((bits .xor .u32 (bits .xor .u32 x66 x68) x71)+(bits .xor .u32 (bits .xor .u32 (bits .and .u32 va_1 b_1) (bits .and .u32 va_1 c_1)) (bits .and .u32 b_1 c_1))))),va_1,b_1,c_1,aVY.wrap (d_1+(aVY.wrap ((aVY.wrap ((aVY.wrap ((aVY.wrap (vh_1+(bits .xor .u32 (bits .xor .u32 x40 x42) x45)))+(bits .xor .u32 (bits .and .u32 ve_1 f_1) (bits .and .u32 (bits .xor .u32 (aWc .u32) ve_1) g_1))))+x58))+x62))),ve_1,f_1,g_1,aVP.wrap (x35+1),hr2,(zG [0,1,2])⟩
 refine zz ?_
 obtain rfl:=sj hr2
 refine zz ?_
 exact hG1 _ _ _ _ (zG [0,1]) (J1 va_1 b_1 c_1 d_1 ve_1 f_1 g_1 vh_1 hr)
theorem aCQ {N:Nat}{b:List Int}{r:(List Int)}(hr:aAA N b=some r):
  Vm.Fn Tryz.prog 53 [] [(.row none 1 (b.map (eI .u8)))] (.agg (r.map (eI .u8))) []:=by
 refine zf Tryz.func53 Tryz.ntmps53 ?_
 unfold aAA at hr
 obtain⟨fC,h_1,hr⟩:=aC hr
 obtain⟨bR,h_2,hr⟩:=aC hr
 refine zz ?_
 refine zc (aN4 h_1) [] ?_
 refine aWa (zv 1) ?_
 refine zz ?_
 refine jD (aIC h_2) [] [2] ?_
 refine zz ?_
 refine xw (v:=(.agg (yY.map (eI .u32)))) (cA rfl (aLK (E:=(eI .u32)) (l:=yY) aJA rfl rfl)) ?_
 refine zz ?_
 refine aVU fun K1 hK1 hG1=> ?_
 have J1: ∀(l1:List Int),aCT N l1=some r→K1 (aI 48 [(2,(.ptr 0 0)),(4,(.ptr 1 0))]) [some ⟨28,(aVO 32 0).map (eI .u8)⟩,some ⟨95,l1.map (eI .u32)⟩]:=by
  intro l1 hr
  unfold aCT at hr
  refine hK1 _ _ ?_
  refine zz ?_
  refine aVU fun K2 hK2 hG2=> ?_
  have J2: ∀(cS:List Int),aCX N cS=some r→K2 (aI 48 [(2,(.ptr 0 0)),(6,(.ptr 1 0))]) [some ⟨28,(aVO 32 0).map (eI .u8)⟩,some ⟨28,cS.map (eI .u8)⟩]:=by
   intro cS hr
   unfold aCX at hr
   refine hK2 _ _ ?_
   obtain⟨q,h_3,hr⟩:=aC hr
   refine zz ?_
   obtain rfl:=sj hr
   exact iA Tryz.results53 bH (zG [])
  obtain⟨vK,hL3,hr⟩:=aC hr
  refine zz ?_
  refine aVR<|aVW (fun m s h=> ∃(e9:Int)(l2:List Int),uV N l1 m e9 l2=some vK∧Ghost 0 s h (aI 48 [(2,(.ptr 0 0)),(4,(.ptr 1 0)),(6,(.ptr 2 0)),(31,(eI .i64 e9))]) [some ⟨28,(aVO 32 0).map (eI .u8)⟩,some ⟨95,l1.map (eI .u32)⟩,some ⟨28,l2.map (eI .u8)⟩]) (n:=N) ⟨0,aVO 32 0,hL3,(zG [0,1,2])⟩ (by rintro s h ⟨_,_,h0,_⟩;simp[uV]at h0) ?_
  rintro m3 s h ⟨e9,l2,hr3,hg⟩
  refine aVV hg ?_
  clear hg hL3
  rw[uV]at hr3
  refine zz ?_
  refine aVT ?_
  refine zk hr3 rfl (fun h4 hr3=> ?_) (fun h4 hr3=> ?_)
  ·refine zz ?_
   refine aVT<|aVR ?_
   obtain⟨x37,h_5,hr3⟩:=aC hr3
   obtain⟨x43,h_6,hr3⟩:=aC hr3
   obtain⟨x45,h_7,hr3⟩:=aC hr3
   refine zz ?_
   exact⟨aVP.wrap (e9+1),l2.set (aV1 e9) (IntKind.u8.wrap x43),hr3,(zG [0,1,2])⟩
  refine zz ?_
  obtain rfl:=sj hr3
  refine zz ?_
  exact hG2 _ _ _ _ (zG [0,2]) (J2 l2 hr)
 refine zz ?_
 refine aVV (zv 3) ?_
 obtain⟨res4,hL4,hr⟩:=aC hr
 refine aVR<|aVW (fun m s h=> ∃(x19:Int)(l1_2:List Int),uG N bR m x19 l1_2=some res4∧Ghost 0 s h (aI 48 [(2,(.ptr 0 0)),(3,(.row none 1 (bR.map (eI .u8)))),(4,(.ptr 1 0)),(18,(eI .i64 (aVP.wrap (Int.tdiv (bR.length:Int) 64)))),(19,(eI .i64 x19))]) [some ⟨28,(aVO 32 0).map (eI .u8)⟩,some ⟨95,l1_2.map (eI .u32)⟩]) (n:=N) ⟨0,yY,hL4,(zG [0,4])⟩ (by rintro s h ⟨_,_,h0,_⟩;simp[uG]at h0) ?_
 rintro m4 s h ⟨x19,l1_2,hr4,hg⟩
 refine aVV hg ?_
 clear hg hL4
 rw[uG]at hr4
 refine zz ?_
 refine aVT ?_
 refine zk hr4 rfl (fun h8 hr4=> ?_) (fun h8 hr4=> ?_)
 ·refine zz ?_
  refine aVT<|aVR ?_
  obtain⟨q_1,h_9,hr4⟩:=aC hr4
  obtain⟨x26,h_10,hr4⟩:=aC hr4
  obtain⟨x27,h_11,hr4⟩:=aC hr4
  obtain⟨x29,h_12,hr4⟩:=aC hr4
  obtain⟨q_2,h_14,hr4⟩:=aC hr4
  refine zz ?_
  refine aV8 mixed [81] [] [[0,1,2,3,4,5,6,7,8]] ?_
  refine zz ?_
  refine xw (v:=(.eptr [.agg (x27.map (eI .u8))] 0 0)) (aFm rfl (apR (E:=(eI .u8)) aPl (fun _=>rfl) zl h_11))<|xw (v:=(.agg (x27.map (eI .u8)))) (cA rfl (aLK (E:=(eI .u8)) (l:=x27) aPl rfl (cQ h_11)))<|xu (aIn h_12) ?_
  refine zz ?_
  exact⟨aVP.wrap (x19+1),x29,hr4,(zG [0,1])⟩
 refine zz ?_
 obtain rfl:=sj hr4
 refine zz ?_
 exact hG1 _ _ _ _ (zG [0,1]) (J1 l1_2 hr)
theorem aBb {N:Nat}{b:List Int}{r:(List Int)}(hr:qG N b=some r):
  Vm.Fn Tryz.prog 31 [] [(.row none 1 (b.map (eI .u8)))] (.row none 1 (r.map (eI .u8))) []:=by
 refine zf Tryz.func31 Tryz.ntmps31 ?_
 unfold qG at hr
 obtain⟨x5,h_1,hr⟩:=aC hr
 obtain⟨q,h_2,hr⟩:=aC hr
 refine zz ?_
 refine xp (aCQ h_1) ?_
 refine zz ?_
 obtain rfl:=sj hr
 exact iA Tryz.results31 bH (aV6 (zv 0) (zG []))
theorem aFw {N:Nat}{tag:ByteArray}{b:List Int}{r:(List Int)}(hr:yI N tag b=some r):
  Vm.Fn Tryz.prog 29 [] [(eS tag),(.row none 1 (b.map (eI .u8)))] (.agg (r.map (eI .u8))) []:=by
 refine zf Tryz.func29 Tryz.ntmps29 ?_
 unfold yI at hr
 obtain⟨x7,h_1,hr⟩:=aC hr
 obtain⟨x8,h_2,hr⟩:=aC hr
 obtain⟨q,h_3,hr⟩:=aC hr
 refine zz ?_
 refine aTs (h':=[some ⟨28,(aVO 32 0).map (eI .u8)⟩,some ⟨5,x7.map (eI .u8)⟩]) rfl ti9 dC dO h_1 rfl rfl<|jD (aCQ h_2) [] [1] ?_
 refine zz ?_
 refine aVT ?_
 obtain⟨d5,h_4,hr⟩:=aC hr
 obtain⟨bR,h_6,hr⟩:=aC hr
 obtain⟨q_1,h_8,hr⟩:=aC hr
 refine aV8 mixed [] [53,54] [[0,1,2],[3,4,5,6]] ?_
 refine zz ?_
 refine⟨_,_,(zv 2), ?_⟩
 refine zz ?_
 refine zgL (aIC h_4) [] [3] ?_
 refine zgL (aCQ h_6) [] [4] ?_
 refine zz ?_
 obtain rfl:=sj hr
 exact iA Tryz.results29 bH (zG [])
theorem aHq {N:Nat}{aD:Int}{aA:List aK}{aB:List aG}{aE vi bF:Int}{aZ:List Int}{r:(List Int)×Int}(hr:u5 N aD aA aB aE vi bF aZ=some r):
  Vm.Fn Tryz.prog 14 [] [(.agg [(eI .u32 aD),(.row none 35 (aA.map aO)),(.row none 2 (aB.map aP)),(eI .u32 aE)]),(eI .i64 vi),(.agg [(eI .i64 bF),(.row none 1 (aZ.map (eI .u8)))])] (.tup [(.agg (r.1.map (eI .u8))),(eI .i64 r.2)]) []:=by
 refine zf Tryz.func14 Tryz.ntmps14 ?_
 unfold u5 at hr
 refine zz ?_
 refine aVT ?_
 refine aVU fun K1 hK1 hG1=> ?_
 have J1: ∀(x28:Bool),nS N aD aA aB aE vi bF aZ x28=some r→K1 (aI 90 [(1,(eI .i64 vi)),(3,(.ptr 0 0)),(5,(.ptr 1 0)),(6,(.ptr 2 0)),(28,(eB x28))]) [some ⟨26,[(eI .u32 aD),(.row none 35 (aA.map aO)),(.row none 2 (aB.map aP)),(eI .u32 aE)]⟩,some ⟨33,[(eI .i64 bF),(.row none 1 (aZ.map (eI .u8)))]⟩,some ⟨28,(aVO 32 0).map (eI .u8)⟩]:=by
  intro x28 hr
  unfold nS at hr
  refine hK1 _ _ ?_
  refine zk hr rfl (fun h1 hr=> ?_) (fun h1 hr=> ?_)
  ·refine zz ?_
   refine xw (v:=(.agg ([0,0,0,0,0,0,0,0,0,0,0,0,0,0,0,0,0,0,0,0,0,0,0,0,0,0,0,0,0,0,0,0].map (eI .u8)))) (cE rfl (nB vL dO rfl)) ?_
   refine zz ?_
   obtain rfl:=sj hr
   exact nX Tryz.results14 bH bH (lK [])
  refine zz ?_
  refine aVT ?_
  refine aVU fun K2 hK2 hG2=> ?_
  have J2: ∀(x38:Bool),nV N aD aA aB aE vi bF aZ x38=some r→K2 (aI 90 [(1,(eI .i64 vi)),(3,(.ptr 0 0)),(5,(.ptr 1 0)),(6,(.ptr 2 0)),(38,(eB x38))]) [some ⟨26,[(eI .u32 aD),(.row none 35 (aA.map aO)),(.row none 2 (aB.map aP)),(eI .u32 aE)]⟩,some ⟨33,[(eI .i64 bF),(.row none 1 (aZ.map (eI .u8)))]⟩,some ⟨28,(aVO 32 0).map (eI .u8)⟩]:=by
   intro x38 hr
   unfold nV at hr
   refine hK2 _ _ ?_
   refine zk hr rfl (fun h2 hr=> ?_) (fun h2 hr=> ?_)
   ·refine zz ?_
    refine xw (v:=(.agg ([0,0,0,0,0,0,0,0,0,0,0,0,0,0,0,0,0,0,0,0,0,0,0,0,0,0,0,0,0,0,0,0].map (eI .u8)))) (cE rfl (nB vL dO rfl)) ?_
    refine zz ?_
    obtain rfl:=sj hr
    exact nX Tryz.results14 bH bH (lK [])
   refine zz ?_
   refine aVU fun K3 hK3 hG3=> ?_
   have J3: ∀(l3 l4:List Int),uH N aD aA aB aE vi bF aZ l3 l4=some r→K3 (aI 90 [(1,(eI .i64 vi)),(3,(.ptr 0 0)),(5,(.ptr 1 0)),(6,(.ptr 2 0)),(8,(.sl 3 0 l3.length 1 false)),(9,(.sl 4 0 l4.length 1 false)),(10,(.row (some true) 1 []))]) [some ⟨26,[(eI .u32 aD),(.row none 35 (aA.map aO)),(.row none 2 (aB.map aP)),(eI .u32 aE)]⟩,some ⟨33,[(eI .i64 bF),(.row none 1 (aZ.map (eI .u8)))]⟩,some ⟨28,(aVO 32 0).map (eI .u8)⟩,some ⟨5,l3.map (eI .u8)⟩,some ⟨5,l4.map (eI .u8)⟩]:=by
    intro l3 l4 hr
    unfold uH at hr
    refine hK3 _ _ ?_
    refine aVU fun K4 hK4 hG4=> ?_
    have J4: ∀(l5:List Int),uJ N aD aA aB aE vi bF aZ l3 l4 l5=some r→K4 (aI 90 [(1,(eI .i64 vi)),(3,(.ptr 0 0)),(5,(.ptr 1 0)),(6,(.ptr 2 0)),(8,(.sl 3 0 l3.length 1 false)),(9,(.sl 4 0 l4.length 1 false)),(10,(.sl 5 0 l5.length 1 false))]) [some ⟨26,[(eI .u32 aD),(.row none 35 (aA.map aO)),(.row none 2 (aB.map aP)),(eI .u32 aE)]⟩,some ⟨33,[(eI .i64 bF),(.row none 1 (aZ.map (eI .u8)))]⟩,some ⟨28,(aVO 32 0).map (eI .u8)⟩,some ⟨5,l3.map (eI .u8)⟩,some ⟨5,l4.map (eI .u8)⟩,some ⟨5,l5.map (eI .u8)⟩]:=by
     intro l5 hr
     unfold uJ at hr
     refine hK4 _ _<|aVT<|aVV (zv 3) ?_
     refine aVV (zv 4) ?_
     refine aVV (zv 5) ?_
     obtain⟨x72,h_3,hr⟩:=aC hr
     obtain⟨x74,h_5,hr⟩:=aC hr
     obtain⟨x76,h_7,hr⟩:=aC hr
     obtain⟨x78,h_9,hr⟩:=aC hr
     obtain⟨x81,h_11,hr⟩:=aC hr
     obtain⟨x84,h_13,hr⟩:=aC hr
     obtain⟨x86,h_15,hr⟩:=aC hr
     obtain⟨x88,h_17,hr⟩:=aC hr
     obtain⟨x89,h_19,hr⟩:=aC hr
     obtain⟨q,h_21,hr⟩:=aC hr
     refine aV8 mixed [31] [27,28,29,30] [[0,1,2,3,4,5,6,7,8,9,10,11,12,13,14,15,16],[17,18,19,20,21]] ?_
     refine zz ?_
     refine zg (vU h_3) [] ?_
     refine zz ?_
     refine xu (aBb h_5) ?_
     refine zz ?_
     refine xu (aBb h_7) ?_
     refine zz ?_
     refine xu (aBb h_9) ?_
     refine zz ?_
     refine zg (vU h_11) [] ?_
     refine zz ?_
     refine zg (vU h_13) [] ?_
     refine zz ?_
     refine zg (aD0 h_15) [] ?_
     refine zz ?_
     refine⟨_,_,(aV6 (aV6 (aV6 (zv 6) (zv 7)) (zv 8)) (zv 9)), ?_⟩
     refine zz ?_
     refine zgL (aFC h_17) [] [10] ?_
     refine zgL (aFw h_19) [] [11] ?_
     refine zz ?_
     obtain rfl:=sj hr
     exact nX Tryz.results14 bH bH (lK [])
    obtain⟨res5,hL5,hr⟩:=aC hr
    refine zz ?_
    refine aVR<|aVW (fun m s h=> ∃(x61:Int)(l5_1:List Int),iG N aD aA aB aE vi bF aZ l3 l4 m x61 l5_1=some res5∧Ghost 0 s h (aI 90 [(1,(eI .i64 vi)),(3,(.ptr 0 0)),(5,(.ptr 1 0)),(6,(.ptr 2 0)),(8,(.sl 3 0 l3.length 1 false)),(9,(.sl 4 0 l4.length 1 false)),(10,(.sl 5 0 l5_1.length 1 false)),(59,(.row none 2 (aB.map aP))),(60,(eI .i64 (aB.length:Int))),(61,(eI .i64 x61))]) [some ⟨26,[(eI .u32 aD),(.row none 35 (aA.map aO)),(.row none 2 (aB.map aP)),(eI .u32 aE)]⟩,some ⟨33,[(eI .i64 bF),(.row none 1 (aZ.map (eI .u8)))]⟩,some ⟨28,(aVO 32 0).map (eI .u8)⟩,some ⟨5,l3.map (eI .u8)⟩,some ⟨5,l4.map (eI .u8)⟩,some ⟨5,l5_1.map (eI .u8)⟩]) (n:=N) ⟨0,[],hL5,(zW 5 [0,1,2,3,4,5])⟩ (by rintro s h ⟨_,_,h0,_⟩;simp[iG]at h0) ?_
    rintro m5 s h ⟨x61,l5_1,hr5,hg⟩
    refine aVV hg ?_
    clear hg hL5
    rw[iG]at hr5
    refine zz ?_
    refine aVT ?_
    refine zk hr5 rfl (fun h22 hr5=> ?_) (fun h22 hr5=> ?_)
    ·refine zz ?_
     refine aVT<|aVR ?_
     obtain⟨x63,h_23,hr5⟩:=aC hr5
     obtain⟨x67,h_24,hr5⟩:=aC hr5
     obtain⟨x68,h_25,hr5⟩:=aC hr5
     refine zz ?_
     refine zc (aD0 h_24) [] ?_
     refine zz ?_
     exact⟨aVP.wrap (x61+1),x68,hr5,(zG [0,1,2,3,4,8])⟩
    refine zz ?_
    obtain rfl:=sj hr5
    refine zz ?_
    exact hG4 _ _ _ _ (zG [0,1,2,3,4,5]) (J4 l5_1 hr)
   obtain⟨res6,hL6,hr⟩:=aC hr
   refine zz ?_
   refine aVR<|aVW (fun m s h=> ∃(x43:Int)(eZ hY:List Int),k9 N aD aA aB aE vi bF aZ m x43 eZ hY=some res6∧Ghost 0 s h (aI 90 [(1,(eI .i64 vi)),(3,(.ptr 0 0)),(5,(.ptr 1 0)),(6,(.ptr 2 0)),(8,(.sl 3 0 eZ.length 1 false)),(9,(.sl 4 0 hY.length 1 false)),(10,(.row (some true) 1 [])),(41,(.row none 35 (aA.map aO))),(42,(eI .i64 (aA.length:Int))),(43,(eI .i64 x43))]) [some ⟨26,[(eI .u32 aD),(.row none 35 (aA.map aO)),(.row none 2 (aB.map aP)),(eI .u32 aE)]⟩,some ⟨33,[(eI .i64 bF),(.row none 1 (aZ.map (eI .u8)))]⟩,some ⟨28,(aVO 32 0).map (eI .u8)⟩,some ⟨5,eZ.map (eI .u8)⟩,some ⟨5,hY.map (eI .u8)⟩]) (n:=N) ⟨0,[],[],hL6,(aV6 (aWf (fr':=[(1,(eI .i64 vi)),(3,(.ptr 0 0)),(5,(.ptr 1 0)),(6,(.ptr 2 0)),(8,(.sl 3 0 0 1 false)),(9,(.row (some true) 1 [])),(10,(.row (some true) 1 [])),(41,(.row none 35 (aA.map aO))),(42,(eI .i64 (aA.length:Int))),(43,(eI .i64 0))]) (h1:=[some ⟨26,[(eI .u32 aD),(.row none 35 (aA.map aO)),(.row none 2 (aB.map aP)),(eI .u32 aE)]⟩,some ⟨33,[(eI .i64 bF),(.row none 1 (aZ.map (eI .u8)))]⟩,some ⟨28,(aVO 32 0).map (eI .u8)⟩]) 5 (FLe.same rfl (FLe.same rfl (FLe.same rfl (FLe.same rfl (FLe.le rfl (V.le_virt rfl) (FLe.same rfl (FLe.same rfl (FLe.same rfl (FLe.same rfl (FLe.same rfl FLe.nil)))))))))) (HLv.live (V.les_refl _ _) rfl (HLv.live (V.les_refl _ _) rfl (HLv.live (V.les_refl _ _) (all_map (fun _=>rfl) _) HLv.nil)))) (zW 5 [0,1,2,3,4]))⟩ (by rintro s h ⟨_,_,_,h0,_⟩;simp[k9]at h0) ?_
   rintro m6 s h ⟨x43,eZ,hY,hr6,hg⟩
   refine aVV hg ?_
   clear hg hL6
   rw[k9]at hr6
   refine zz ?_
   refine aVT ?_
   refine zk hr6 rfl (fun h26 hr6=> ?_) (fun h26 hr6=> ?_)
   ·refine zz ?_
    refine aVT<|aVR ?_
    obtain⟨x45,h_27,hr6⟩:=aC hr6
    refine zz ?_
    refine xw (v:=(.ptr 5 0)) (h':=[some ⟨26,[(eI .u32 aD),(.row none 35 (aA.map aO)),(.row none 2 (aB.map aP)),(eI .u32 aE)]⟩,some ⟨33,[(eI .i64 bF),(.row none 1 (aZ.map (eI .u8)))]⟩,some ⟨28,(aVO 32 0).map (eI .u8)⟩,some ⟨5,eZ.map (eI .u8)⟩,some ⟨5,hY.map (eI .u8)⟩,some ⟨48,(bG (eI .u8) (aVO 32 0) [(eI .u32 0),(eI .u32 0),(.row (some true) 1 [])])⟩]) (dR tY rfl rfl rfl) ?_
    obtain⟨x50,h_28,hr6⟩:=aC hr6
    obtain⟨x51,h_29,hr6⟩:=aC hr6
    refine zz ?_
    refine zc (aGX h_28) [] ?_
    obtain⟨x55,h_30,hr6⟩:=aC hr6
    obtain⟨x56,h_31,hr6⟩:=aC hr6
    refine zz ?_
    refine zc (vU h_30) [] ?_
    refine zz ?_
    exact⟨aVP.wrap (x43+1),x51,x56,hr6,(zG [0,1,2,7,9])⟩
   refine zz ?_
   obtain rfl:=sj hr6
   refine zz ?_
   exact hG3 _ _ _ _ (zG [0,1,2,3,4]) (J3 eZ hY hr)
  rcases aVS (decide (vi<0))with h32|h32
  ·replace hr:=dD hr h32
   refine xr ?_
   refine zz ?_
   exact hG2 _ _ _ _ (zG [0,1,2]) (J2 true hr)
  replace hr:=dA hr h32
  refine xr ?_
  refine zz ?_
  exact hG2 _ _ _ _ (zG [0,1,2]) (J2 (decide ((aA.length:Int)≤vi)) hr)
 obtain⟨x16,h_33,hr⟩:=aC hr
 rcases aVS (!x16)with h34|h34
 ·replace hr:=dD hr h34
  refine xr ?_
  refine zz ?_
  refine xp (aCA h_33) ?_
  refine zz ?_
  refine xX rfl<|xX rfl<|xX rfl<|xX rfl ?_
  refine zz ?_
  exact hG1 _ _ _ _ (zG [0,1,2]) (J1 true hr)
 replace hr:=dA hr h34
 rcases aVS (decide (bF<0))with h35|h35
 ·replace hr:=dD hr h35
  refine xr ?_
  refine zz ?_
  refine xp (aCA h_33) ?_
  refine zz ?_
  exact hG1 _ _ _ _ (zG [0,1,2]) (J1 true hr)
 replace hr:=dA hr h35
 refine xr ?_
 refine zz ?_
 refine xp (aCA h_33) ?_
 refine zz ?_
 exact hG1 _ _ _ _ (zG [0,1,2]) (J1 (decide (520<(aZ.length:Int))) hr)
theorem aH3 {N:Nat}{code:Int}{r:Bool}(hr:w8 N code=some r):
  Vm.Fn Tryz.prog 106 [] [(eI .i64 code)] (eB r) []:=by
 refine zf Tryz.func106 Tryz.ntmps106 ?_
 unfold w8 at hr
 refine zz ?_
 refine aVU fun K1 hK1 hG1=> ?_
 have J1: ∀(x2:Bool),rR N x2=some r→K1 (aI 9 [(2,(eB x2))]) []:=by
  intro x2 hr
  unfold rR at hr
  refine hK1 _ _ ?_
  refine zz ?_
  obtain rfl:=sj hr
  exact bI Tryz.results106 []
 rcases aVS (decide (1≤code))with h1|h1
 ·replace hr:=dD hr h1
  refine xr ?_
  refine zz ?_
  exact hG1 _ _ _ _ (zG []) (J1 (decide (code≤17)) hr)
 replace hr:=dA hr h1
 refine xr ?_
 refine zz ?_
 exact hG1 _ _ _ _ (zG []) (J1 false hr)
theorem aFq {N:Nat}{parts:List (List Int)}{r:(List Int)}(hr:uL N parts=some r):
  Vm.Fn Tryz.prog 83 [] [(.row none 1 (parts.map (eL 1 (eI .u8))))] (.sl 0 0 r.length 1 false) [some ⟨5,r.map (eI .u8)⟩]:=by
 refine zf Tryz.func83 Tryz.ntmps83 ?_
 unfold uL at hr
 refine zz ?_
 refine aVU fun K1 hK1 hG1=> ?_
 have J1: ∀(l0:List Int),aCt N l0=some r→K1 (aI 17 [(3,(.sl 0 0 l0.length 1 false))]) [some ⟨5,l0.map (eI .u8)⟩]:=by
  intro l0 hr
  unfold aCt at hr
  refine hK1 _ _ ?_
  refine zz ?_
  obtain rfl:=sj hr
  exact bI Tryz.results83 [0]
 obtain⟨bQ,hL2,hr⟩:=aC hr
 refine zz ?_
 refine aVR<|aVW (fun m s h=> ∃(x8:Int)(aS:List Int),mU N parts m x8 aS=some bQ∧Ghost 0 s h (aI 17 [(3,(.sl 0 0 aS.length 1 false)),(6,(.row none 1 (parts.map (eL 1 (eI .u8))))),(7,(eI .i64 (parts.length:Int))),(8,(eI .i64 x8))]) [some ⟨5,aS.map (eI .u8)⟩]) (n:=N) ⟨0,[],hL2,(zW 5 [0])⟩ (by rintro s h ⟨_,_,h0,_⟩;simp[mU]at h0) ?_
 rintro m2 s h ⟨x8,aS,hr2,hg⟩
 refine aVV hg ?_
 clear hg hL2
 rw[mU]at hr2
 refine zz ?_
 refine aVT ?_
 refine zk hr2 rfl (fun h1 hr2=> ?_) (fun h1 hr2=> ?_)
 ·refine zz ?_
  refine aVT<|aVR ?_
  obtain⟨cD,h_2,hr2⟩:=aC hr2
  obtain⟨bR,h_3,hr2⟩:=aC hr2
  refine zz ?_
  exact⟨aVP.wrap (x8+1),bR,hr2,(zG [1])⟩
 refine zz ?_
 obtain rfl:=sj hr2
 refine zz ?_
 exact hG1 _ _ _ _ (zG [0]) (J1 aS hr)
theorem aGO {N:Nat}{vm vn:Int}{r:Bool}(hr:tK N vm vn=some r):
  Vm.Fn Tryz.prog 107 [] [(eI .i64 vm),(eI .i64 vn)] (eB r) []:=by
 refine zf Tryz.func107 Tryz.ntmps107 ?_
 unfold tK at hr
 refine zz ?_
 refine aVU fun K1 hK1 hG1=> ?_
 have J1: ∀(x4:Bool),kD N x4=some r→K1 (aI 20 [(4,(eB x4))]) []:=by
  intro x4 hr
  unfold kD at hr
  refine hK1 _ _ ?_
  refine zz ?_
  obtain rfl:=sj hr
  exact bI Tryz.results107 []
 rcases aVS (decide (1≤vn))with h1|h1
 ·replace hr:=dD hr h1
  rcases aVS (decide (vn≤15))with h2|h2
  ·replace hr:=dD hr h2
   rcases aVS (decide (1≤vm))with h3|h3
   ·replace hr:=dD hr h3
    refine xr ?_
    refine zz ?_
    exact hG1 _ _ _ _ (zG []) (J1 (decide (vm≤vn)) hr)
   replace hr:=dA hr h3
   refine xr ?_
   refine zz ?_
   exact hG1 _ _ _ _ (zG []) (J1 false hr)
  replace hr:=dA hr h2
  refine xr ?_
  refine zz ?_
  refine xX rfl<|xX rfl<|xX rfl ?_
  refine zz ?_
  exact hG1 _ _ _ _ (zG []) (J1 false hr)
 replace hr:=dA hr h1
 refine xr ?_
 refine zz ?_
 refine xX rfl<|xX rfl ?_
 refine zz ?_
 refine xX rfl<|xX rfl<|xX rfl ?_
 refine zz ?_
 exact hG1 _ _ _ _ (zG []) (J1 false hr)
theorem aJg {N:Nat}{b:List Int}{r:Int×(List Int)×Int×Int×(List Int)×Int}(hr:zO N b=some r):
  Vm.Fn Tryz.prog 82 [] [(.row none 1 (b.map (eI .u8)))] (.tup [(.agg [(eI .i64 r.1),(.sl 0 0 r.2.1.length 1 false),(eI .i64 r.2.2.1),(eI .i64 r.2.2.2.1)]),(.row none 1 (r.2.2.2.2.1.map (eI .u8))),(eI .i64 r.2.2.2.2.2)]) [some ⟨5,r.2.1.map (eI .u8)⟩]:=by
 refine zf Tryz.func82 Tryz.ntmps82 ?_
 unfold zO at hr
 obtain⟨x8,h_1,hr⟩:=aC hr
 refine zz ?_
 refine aVT ?_
 obtain⟨bR,h_2,hr⟩:=aC hr
 refine zz ?_
 refine xp (aH3 h_2) ?_
 refine zz ?_
 refine zk hr rfl (fun h3 hr=> ?_) (fun h3 hr=> ?_)
 ·refine zz ?_
  obtain rfl:=sj hr
  exact wP Tryz.results82 bH bH bH (zW 5 [2])
 obtain⟨x18,h_4,hr⟩:=aC hr
 refine zz ?_
 refine aVU fun K1 hK1 hG1=> ?_
 have J1: ∀(b_1:List Int)(c1 aBP:Int)(l2:List Int),nJ N x8 b_1 c1 aBP l2=some r→K1 (aI 78 [(0,(.row none 1 (b_1.map (eI .u8)))),(2,(.ptr 0 0)),(5,(.ptr 1 0))]) [some ⟨90,[(eI .i64 0),(.row (some true) 1 []),(eI .i64 0),(eI .i64 0)]⟩,some ⟨90,[(eI .i64 (aVP.wrap x8)),(.sl 2 0 l2.length 1 false),(eI .i64 c1),(eI .i64 aBP)]⟩,some ⟨5,l2.map (eI .u8)⟩]:=by
  intro b_1 c1 aBP l2 hr
  unfold nJ at hr
  refine hK1 _ _ ?_
  refine zz ?_
  obtain rfl:=sj hr
  exact wP Tryz.results82 bH bH bH (zG [2])
 refine zz ?_
 refine aVR ?_
 refine zz ?_
 refine zk hr rfl (fun h5 hr=> ?_) (fun h5 hr=> ?_)
 ·refine aVT ?_
  refine aVU fun K2 hK2 hG2=> ?_
  have J2: ∀(x35:Bool),tR N x8 x18 x35=some r→K2 (aI 78 [(0,(.row none 1 (x18.map (eI .u8)))),(2,(.ptr 0 0)),(5,(.ptr 1 0)),(35,(eB x35))]) [some ⟨90,[(eI .i64 0),(.row (some true) 1 []),(eI .i64 0),(eI .i64 0)]⟩,some ⟨90,[(eI .i64 (aVP.wrap x8)),(.row (some true) 1 []),(eI .i64 0),(eI .i64 0)]⟩]:=by
   intro x35 hr
   unfold tR at hr
   refine hK2 _ _ ?_
   refine zk hr rfl (fun h6 hr=> ?_) (fun h6 hr=> ?_)
   ·refine zz ?_
    obtain rfl:=sj hr
    exact wP Tryz.results82 bH bH bH (zW 5 [2])
   obtain⟨x38,h_7,hr⟩:=aC hr
   obtain⟨x44,h_8,hr⟩:=aC hr
   obtain⟨x46,h_9,hr⟩:=aC hr
   obtain⟨x49,h_11,hr⟩:=aC hr
   refine zz ?_
   refine AB.rd (fQ []) (fQ [83]) mixed<|aVQ (n:=10) (i:=0) (by decide +kernel) rfl (gS (v:=(.row none 1 (x18.map (eI .u8)))) (sv (mI rfl)))<|aVQ (n:=9) (i:=1) (by decide +kernel) rfl (gS (v:=(eI .i64 (aVP.wrap (1+(aVP.wrap x38))))) (sv (mI rfl)))<|aVQ (n:=8) (i:=2) (by decide +kernel) rfl (gS (v:=(.row none 1 (x44.map (eI .u8)))) (sv (cZ rfl rfl rfl (u6 dC dO rfl rfl h_8))))<|aVQ (n:=7) (i:=3) (by decide +kernel) rfl (gS (v:=(.sl 2 0 1 1 false)) (h':=[some ⟨90,[(eI .i64 0),(.row (some true) 1 []),(eI .i64 0),(eI .i64 0)]⟩,some ⟨90,[(eI .i64 (aVP.wrap x8)),(.row (some true) 1 []),(eI .i64 0),(eI .i64 0)]⟩,some ⟨31,[x44].map (eL 1 (eI .u8))⟩]) (sv (pD rfl (aNH (xs:=[x44].map (eL 1 (eI .u8))) aAZ dC zl zl rfl rfl rfl rfl rfl rfl rfl)))) ?_
   refine aVQ (n:=6) (i:=4) (by decide +kernel) rfl (gC (v:=(.sl 3 0 x46.length 1 false)) (h':=[some ⟨90,[(eI .i64 0),(.row (some true) 1 []),(eI .i64 0),(eI .i64 0)]⟩,some ⟨90,[(eI .i64 (aVP.wrap x8)),(.row (some true) 1 []),(eI .i64 0),(eI .i64 0)]⟩,some ⟨31,[x44].map (eL 1 (eI .u8))⟩,some ⟨5,x46.map (eI .u8)⟩]) (zL (aFq h_9) [] [2]) rfl (fun _=>⟨_,rfl⟩) (sv (lS rfl o7)))<|aVQ (n:=5) (i:=5) (by decide +kernel) rfl (gS (v:=(.row none 1 (x18.map (eI .u8)))) (sv (mI rfl)))<|aVQ (n:=4) (i:=6) (by decide +kernel) rfl (gS (v:=(eI .i64 (aVP.wrap (1+(aVP.wrap x38))))) (sv (mI rfl))) ?_
   refine aVQ (n:=3) (i:=8) (by decide +kernel) rfl (gS (v:=(.ptr 1 1)) (sv (nL rfl (aJF ..)))) ?_
   refine aWg (m:=1) (L:=lst [0,1,2,3,4,5,6,7,8,9] 11) (s1:=aI 78 [(0,(.row none 1 (x18.map (eI .u8)))),(2,(.ptr 0 0)),(5,(.ptr 1 0)),(49,(.row none 1 (x49.map (eI .u8))))]) (h1:=[some ⟨90,[(eI .i64 0),(.row (some true) 1 []),(eI .i64 0),(eI .i64 0)]⟩,some ⟨90,[(eI .i64 (aVP.wrap x8)),(.sl 2 0 x46.length 1 false),(eI .i64 0),(eI .i64 0)]⟩,some ⟨5,x46.map (eI .u8)⟩]) ?_ (fun J=> ?_)
   ·refine aVQ (n:=0) (i:=10) (by decide +kernel) rfl (gS (v:=(.row none 1 (x49.map (eI .u8)))) (sv (pA rfl)))<|aWd (by decide +kernel) ?_
    refine zz ?_
    exact hG1 _ _ _ _ (zG [0,1,2]) (J1 x49 0 0 x46 hr)
   refine aV3 (n:=2) [7,9] (by decide +kernel) (by decide) ?_
   refine(aV0 rfl (gS (v:=(.row none 1 (x49.map (eI .u8)))) (sv (cZ rfl rfl rfl (u6 dC dO rfl rfl h_11)))) ?_ (aV0 rfl (gN (h':=[some ⟨90,[(eI .i64 0),(.row (some true) 1 []),(eI .i64 0),(eI .i64 0)]⟩,some ⟨90,[(eI .i64 (aVP.wrap x8)),(.sl 3 0 x46.length 1 false),(eI .i64 0),(eI .i64 0)]⟩,some ⟨31,[x44].map (eL 1 (eI .u8))⟩,some ⟨5,x46.map (eI .u8)⟩]) (sv (bN rfl rfl (jB dC rfl rfl rfl zl rfl)))) ?_ aV5))
   ·refine aVQ (n:=1) (i:=9) (by decide +kernel) rfl (gN (h':=[some ⟨90,[(eI .i64 0),(.row (some true) 1 []),(eI .i64 0),(eI .i64 0)]⟩,some ⟨90,[(eI .i64 (aVP.wrap x8)),(.sl 3 0 x46.length 1 false),(eI .i64 0),(eI .i64 0)]⟩,some ⟨31,[x44].map (eL 1 (eI .u8))⟩,some ⟨5,x46.map (eI .u8)⟩]) (sv (bN rfl rfl (jB dC rfl rfl rfl zl rfl)))) ?_
    exact aV2 (by decide +kernel) (by decide +kernel) (zG [0,1,3]) J
   refine aVQ (n:=1) (i:=7) (by decide +kernel) rfl (gS (v:=(.row none 1 (x49.map (eI .u8)))) (sv (cZ rfl rfl rfl (u6 dC dO rfl rfl h_11)))) ?_
   exact aV2 (by decide +kernel) (by decide +kernel) (zG [0,1,3]) J
  rcases aVS ((x18.length:Int) == 0)with h12|h12
  ·replace hr:=dD hr h12
   refine xr ?_
   refine zz ?_
   exact hG2 _ _ _ _ (zG [0,1]) (J2 true hr)
  replace hr:=dA hr h12
  obtain⟨e9,h_13,hr⟩:=aC hr
  refine xr ?_
  refine zz ?_
  exact hG2 _ _ _ _ (zG [0,1]) (J2 (decide ((aVP.wrap ((x18.length:Int)-1))<(aVP.wrap e9))) hr)
 refine zz ?_
 refine zk hr rfl (fun h14 hr=> ?_) (fun h14 hr=> ?_)
 ·refine aVT ?_
  refine zz ?_
  refine zk hr rfl (fun h15 hr=> ?_) (fun h15 hr=> ?_)
  ·refine zz ?_
   obtain rfl:=sj hr
   exact wP Tryz.results82 bH bH bH (zW 5 [2])
  refine zz ?_
  refine aVT ?_
  obtain⟨x58,h_16,hr⟩:=aC hr
  obtain⟨x62,h_17,hr⟩:=aC hr
  obtain⟨x66,h_18,hr⟩:=aC hr
  refine AB.rd (fQ []) (fQ []) mixed<|aVQ (n:=14) (i:=0) (by decide +kernel) rfl (gS (v:=(.row none 1 (x18.map (eI .u8)))) (sv (mI rfl)))<|aVQ (n:=13) (i:=1) (by decide +kernel) rfl (gS (sv (aCF rfl rfl (iaR dC dO h_16))))<|aVQ (n:=12) (i:=2) (by decide +kernel) rfl (gS (v:=(eI .u8 x58)) (sv (cA rfl (ldR h_16 (pH dO rfl rfl)))))<|aVQ (n:=11) (i:=3) (by decide +kernel) rfl (gS (v:=(eI .i64 (aVP.wrap x58))) (sv (jQ rfl (iH _ ⟨_,dO⟩ dW rfl))))<|aVQ (n:=10) (i:=4) (by decide +kernel) rfl (gS (v:=(.row none 1 (x18.map (eI .u8)))) (sv (mI rfl))) ?_
  refine aVQ (n:=9) (i:=5) (by decide +kernel) rfl (gS (sv (aCF rfl rfl (iaR dC dO h_17))))<|aVQ (n:=8) (i:=8) (by decide +kernel) rfl (gS (v:=(.row none 1 (x18.map (eI .u8)))) (sv (mI rfl)))<|aVQ (n:=7) (i:=10) (by decide +kernel) rfl (gS (v:=(.ptr 1 2)) (sv (nL rfl (aJo ..)))) ?_
  refine aWg (m:=1) (L:=lst [0,1,2,3,4,5,6,7,8,9,10,11,12,13] 15) (s1:=aI 78 [(0,(.row none 1 (x18.map (eI .u8)))),(2,(.ptr 0 0)),(5,(.ptr 1 0)),(66,(.row none 1 (x66.map (eI .u8))))]) (h1:=[some ⟨90,[(eI .i64 0),(.row (some true) 1 []),(eI .i64 0),(eI .i64 0)]⟩,some ⟨90,[(eI .i64 (aVP.wrap x8)),(.row (some true) 1 []),(eI .i64 (aVP.wrap x58)),(eI .i64 (aVP.wrap x62))]⟩]) ?_ (fun J=> ?_)
  ·refine aVQ (n:=0) (i:=14) (by decide +kernel) rfl (gS (v:=(.row none 1 (x66.map (eI .u8)))) (sv (pA rfl)))<|aWd (by decide +kernel) ?_
   obtain⟨x73,h_19,hr⟩:=aC hr
   refine zz ?_
   refine xp (aGO h_19) ?_
   refine zz ?_
   refine zk hr rfl (fun h20 hr=> ?_) (fun h20 hr=> ?_)
   ·refine zz ?_
    obtain rfl:=sj hr
    exact wP Tryz.results82 bH bH bH (zW 5 [2])
   refine zz ?_
   exact hG1 _ _ _ _ (aV6 (aWf (fr':=[(0,(.row none 1 (x66.map (eI .u8)))),(2,(.ptr 0 0)),(5,(.ptr 1 0))]) (h1:=[some ⟨90,[(eI .i64 0),(.row (some true) 1 []),(eI .i64 0),(eI .i64 0)]⟩,some ⟨90,[(eI .i64 (aVP.wrap x8)),(.sl 2 0 0 1 false),(eI .i64 (aVP.wrap x58)),(eI .i64 (aVP.wrap x62))]⟩]) 5 (FLe.same rfl (FLe.same rfl (FLe.same rfl FLe.nil))) (HLv.live (V.les_refl _ _) rfl (HLv.live (V.les_cons (V.le_refl _ _) (V.les_cons (V.le_virt rfl) (V.les_cons (V.le_refl _ _) (V.les_cons (V.le_refl _ _) V.les_nil)))) rfl HLv.nil))) (lK [0,1,2])) (J1 x66 (aVP.wrap x58) (aVP.wrap x62) [] hr)
  refine aV3 (n:=6) [6,9,11] (by decide +kernel) (by decide) ?_
  refine(aV0 rfl (gS (v:=(eI .u8 x62)) (sv (cA rfl (ldR h_17 (pH dO rfl rfl))))) ?_ (aV0 rfl (gS (v:=(.row none 1 (x66.map (eI .u8)))) (sv (cZ rfl rfl rfl (u6 dC dO rfl rfl h_18)))) ?_ (aV0 rfl (gN (h':=[some ⟨90,[(eI .i64 0),(.row (some true) 1 []),(eI .i64 0),(eI .i64 0)]⟩,some ⟨90,[(eI .i64 (aVP.wrap x8)),(.row (some true) 1 []),(eI .i64 (aVP.wrap x58)),(eI .i64 0)]⟩]) (sv (bN rfl rfl (jB dW rfl rfl rfl zl rfl)))) ?_ aV5)))
  ·refine aV3 (n:=5) [7,9,11] (by decide +kernel) (by decide) ?_
   refine(aV0 rfl (gS (v:=(eI .i64 (aVP.wrap x62))) (sv (jQ rfl (iH _ ⟨_,dO⟩ dW rfl)))) ?_ (aV0 rfl (gS (v:=(.row none 1 (x66.map (eI .u8)))) (sv (cZ rfl rfl rfl (u6 dC dO rfl rfl h_18)))) ?_ (aV0 rfl (gN (h':=[some ⟨90,[(eI .i64 0),(.row (some true) 1 []),(eI .i64 0),(eI .i64 0)]⟩,some ⟨90,[(eI .i64 (aVP.wrap x8)),(.row (some true) 1 []),(eI .i64 (aVP.wrap x58)),(eI .i64 0)]⟩]) (sv (bN rfl rfl (jB dW rfl rfl rfl zl rfl)))) ?_ aV5)))
   ·refine aV3 (n:=4) [9,11] (by decide +kernel) (by decide) ?_
    refine(aV0 rfl (gS (v:=(.row none 1 (x66.map (eI .u8)))) (sv (cZ rfl rfl rfl (u6 dC dO rfl rfl h_18)))) ?_ (aV0 rfl (gN (h':=[some ⟨90,[(eI .i64 0),(.row (some true) 1 []),(eI .i64 0),(eI .i64 0)]⟩,some ⟨90,[(eI .i64 (aVP.wrap x8)),(.row (some true) 1 []),(eI .i64 (aVP.wrap x58)),(eI .i64 0)]⟩]) (sv (bN rfl rfl (jB dW rfl rfl rfl zl rfl)))) ?_ aV5))
    ·refine aVQ (n:=3) (i:=11) (by decide +kernel) rfl (gN (h':=[some ⟨90,[(eI .i64 0),(.row (some true) 1 []),(eI .i64 0),(eI .i64 0)]⟩,some ⟨90,[(eI .i64 (aVP.wrap x8)),(.row (some true) 1 []),(eI .i64 (aVP.wrap x58)),(eI .i64 0)]⟩]) (sv (bN rfl rfl (jB dW rfl rfl rfl zl rfl))))<|aVQ (n:=2) (i:=12) (by decide +kernel) rfl (gS (v:=(.ptr 1 3)) (sv (nL rfl (jZ ..))))<|aVQ (n:=1) (i:=13) (by decide +kernel) rfl (gN (h':=[some ⟨90,[(eI .i64 0),(.row (some true) 1 []),(eI .i64 0),(eI .i64 0)]⟩,some ⟨90,[(eI .i64 (aVP.wrap x8)),(.row (some true) 1 []),(eI .i64 (aVP.wrap x58)),(eI .i64 (aVP.wrap x62))]⟩]) (sv (bN rfl rfl (jB dW rfl rfl rfl zl rfl)))) ?_
     exact aV2 (by decide +kernel) (by decide +kernel) (zG [0,1]) J
    refine aVQ (n:=3) (i:=12) (by decide +kernel) rfl (gS (v:=(.ptr 1 3)) (sv (nL rfl (jZ ..))))<|aV3 (n:=2) [9,13] (by decide +kernel) (by decide) ?_
    refine(aV0 rfl (gS (v:=(.row none 1 (x66.map (eI .u8)))) (sv (cZ rfl rfl rfl (u6 dC dO rfl rfl h_18)))) ?_ (aV0 rfl (gN (h':=[some ⟨90,[(eI .i64 0),(.row (some true) 1 []),(eI .i64 0),(eI .i64 0)]⟩,some ⟨90,[(eI .i64 (aVP.wrap x8)),(.row (some true) 1 []),(eI .i64 (aVP.wrap x58)),(eI .i64 (aVP.wrap x62))]⟩]) (sv (bN rfl rfl (jB dW rfl rfl rfl zl rfl)))) ?_ aV5))
    ·refine aVQ (n:=1) (i:=13) (by decide +kernel) rfl (gN (h':=[some ⟨90,[(eI .i64 0),(.row (some true) 1 []),(eI .i64 0),(eI .i64 0)]⟩,some ⟨90,[(eI .i64 (aVP.wrap x8)),(.row (some true) 1 []),(eI .i64 (aVP.wrap x58)),(eI .i64 (aVP.wrap x62))]⟩]) (sv (bN rfl rfl (jB dW rfl rfl rfl zl rfl)))) ?_
     exact aV2 (by decide +kernel) (by decide +kernel) (zG [0,1]) J
    refine aVQ (n:=1) (i:=9) (by decide +kernel) rfl (gS (v:=(.row none 1 (x66.map (eI .u8)))) (sv (cZ rfl rfl rfl (u6 dC dO rfl rfl h_18)))) ?_
    exact aV2 (by decide +kernel) (by decide +kernel) (zG [0,1]) J
   ·refine aV3 (n:=4) [7,11] (by decide +kernel) (by decide) ?_
    refine(aV0 rfl (gS (v:=(eI .i64 (aVP.wrap x62))) (sv (jQ rfl (iH _ ⟨_,dO⟩ dW rfl)))) ?_ (aV0 rfl (gN (h':=[some ⟨90,[(eI .i64 0),(.row (some true) 1 []),(eI .i64 0),(eI .i64 0)]⟩,some ⟨90,[(eI .i64 (aVP.wrap x8)),(.row (some true) 1 []),(eI .i64 (aVP.wrap x58)),(eI .i64 0)]⟩]) (sv (bN rfl rfl (jB dW rfl rfl rfl zl rfl)))) ?_ aV5))
    ·refine aVQ (n:=3) (i:=11) (by decide +kernel) rfl (gN (h':=[some ⟨90,[(eI .i64 0),(.row (some true) 1 []),(eI .i64 0),(eI .i64 0)]⟩,some ⟨90,[(eI .i64 (aVP.wrap x8)),(.row (some true) 1 []),(eI .i64 (aVP.wrap x58)),(eI .i64 0)]⟩]) (sv (bN rfl rfl (jB dW rfl rfl rfl zl rfl))))<|aVQ (n:=2) (i:=12) (by decide +kernel) rfl (gS (v:=(.ptr 1 3)) (sv (nL rfl (jZ ..))))<|aVQ (n:=1) (i:=13) (by decide +kernel) rfl (gN (h':=[some ⟨90,[(eI .i64 0),(.row (some true) 1 []),(eI .i64 0),(eI .i64 0)]⟩,some ⟨90,[(eI .i64 (aVP.wrap x8)),(.row (some true) 1 []),(eI .i64 (aVP.wrap x58)),(eI .i64 (aVP.wrap x62))]⟩]) (sv (bN rfl rfl (jB dW rfl rfl rfl zl rfl)))) ?_
     exact aV2 (by decide +kernel) (by decide +kernel) (zG [0,1]) J
    refine aVQ (n:=3) (i:=7) (by decide +kernel) rfl (gS (v:=(eI .i64 (aVP.wrap x62))) (sv (jQ rfl (iH _ ⟨_,dO⟩ dW rfl))))<|aVQ (n:=2) (i:=12) (by decide +kernel) rfl (gS (v:=(.ptr 1 3)) (sv (nL rfl (jZ ..))))<|aVQ (n:=1) (i:=13) (by decide +kernel) rfl (gN (h':=[some ⟨90,[(eI .i64 0),(.row (some true) 1 []),(eI .i64 0),(eI .i64 0)]⟩,some ⟨90,[(eI .i64 (aVP.wrap x8)),(.row (some true) 1 []),(eI .i64 (aVP.wrap x58)),(eI .i64 (aVP.wrap x62))]⟩]) (sv (bN rfl rfl (jB dW rfl rfl rfl zl rfl)))) ?_
    exact aV2 (by decide +kernel) (by decide +kernel) (zG [0,1]) J
   refine aVQ (n:=4) (i:=7) (by decide +kernel) rfl (gS (v:=(eI .i64 (aVP.wrap x62))) (sv (jQ rfl (iH _ ⟨_,dO⟩ dW rfl))))<|aVQ (n:=3) (i:=12) (by decide +kernel) rfl (gS (v:=(.ptr 1 3)) (sv (nL rfl (jZ ..))))<|aV3 (n:=2) [9,13] (by decide +kernel) (by decide) ?_
   refine(aV0 rfl (gS (v:=(.row none 1 (x66.map (eI .u8)))) (sv (cZ rfl rfl rfl (u6 dC dO rfl rfl h_18)))) ?_ (aV0 rfl (gN (h':=[some ⟨90,[(eI .i64 0),(.row (some true) 1 []),(eI .i64 0),(eI .i64 0)]⟩,some ⟨90,[(eI .i64 (aVP.wrap x8)),(.row (some true) 1 []),(eI .i64 (aVP.wrap x58)),(eI .i64 (aVP.wrap x62))]⟩]) (sv (bN rfl rfl (jB dW rfl rfl rfl zl rfl)))) ?_ aV5))
   ·refine aVQ (n:=1) (i:=13) (by decide +kernel) rfl (gN (h':=[some ⟨90,[(eI .i64 0),(.row (some true) 1 []),(eI .i64 0),(eI .i64 0)]⟩,some ⟨90,[(eI .i64 (aVP.wrap x8)),(.row (some true) 1 []),(eI .i64 (aVP.wrap x58)),(eI .i64 (aVP.wrap x62))]⟩]) (sv (bN rfl rfl (jB dW rfl rfl rfl zl rfl)))) ?_
    exact aV2 (by decide +kernel) (by decide +kernel) (zG [0,1]) J
   refine aVQ (n:=1) (i:=9) (by decide +kernel) rfl (gS (v:=(.row none 1 (x66.map (eI .u8)))) (sv (cZ rfl rfl rfl (u6 dC dO rfl rfl h_18)))) ?_
   exact aV2 (by decide +kernel) (by decide +kernel) (zG [0,1]) J
  ·refine aV3 (n:=5) [6,11] (by decide +kernel) (by decide) ?_
   refine(aV0 rfl (gS (v:=(eI .u8 x62)) (sv (cA rfl (ldR h_17 (pH dO rfl rfl))))) ?_ (aV0 rfl (gN (h':=[some ⟨90,[(eI .i64 0),(.row (some true) 1 []),(eI .i64 0),(eI .i64 0)]⟩,some ⟨90,[(eI .i64 (aVP.wrap x8)),(.row (some true) 1 []),(eI .i64 (aVP.wrap x58)),(eI .i64 0)]⟩]) (sv (bN rfl rfl (jB dW rfl rfl rfl zl rfl)))) ?_ aV5))
   ·refine aV3 (n:=4) [7,11] (by decide +kernel) (by decide) ?_
    refine(aV0 rfl (gS (v:=(eI .i64 (aVP.wrap x62))) (sv (jQ rfl (iH _ ⟨_,dO⟩ dW rfl)))) ?_ (aV0 rfl (gN (h':=[some ⟨90,[(eI .i64 0),(.row (some true) 1 []),(eI .i64 0),(eI .i64 0)]⟩,some ⟨90,[(eI .i64 (aVP.wrap x8)),(.row (some true) 1 []),(eI .i64 (aVP.wrap x58)),(eI .i64 0)]⟩]) (sv (bN rfl rfl (jB dW rfl rfl rfl zl rfl)))) ?_ aV5))
    ·refine aVQ (n:=3) (i:=11) (by decide +kernel) rfl (gN (h':=[some ⟨90,[(eI .i64 0),(.row (some true) 1 []),(eI .i64 0),(eI .i64 0)]⟩,some ⟨90,[(eI .i64 (aVP.wrap x8)),(.row (some true) 1 []),(eI .i64 (aVP.wrap x58)),(eI .i64 0)]⟩]) (sv (bN rfl rfl (jB dW rfl rfl rfl zl rfl))))<|aVQ (n:=2) (i:=12) (by decide +kernel) rfl (gS (v:=(.ptr 1 3)) (sv (nL rfl (jZ ..))))<|aVQ (n:=1) (i:=13) (by decide +kernel) rfl (gN (h':=[some ⟨90,[(eI .i64 0),(.row (some true) 1 []),(eI .i64 0),(eI .i64 0)]⟩,some ⟨90,[(eI .i64 (aVP.wrap x8)),(.row (some true) 1 []),(eI .i64 (aVP.wrap x58)),(eI .i64 (aVP.wrap x62))]⟩]) (sv (bN rfl rfl (jB dW rfl rfl rfl zl rfl)))) ?_
     exact aV2 (by decide +kernel) (by decide +kernel) (zG [0,1]) J
    refine aVQ (n:=3) (i:=7) (by decide +kernel) rfl (gS (v:=(eI .i64 (aVP.wrap x62))) (sv (jQ rfl (iH _ ⟨_,dO⟩ dW rfl))))<|aVQ (n:=2) (i:=12) (by decide +kernel) rfl (gS (v:=(.ptr 1 3)) (sv (nL rfl (jZ ..))))<|aVQ (n:=1) (i:=13) (by decide +kernel) rfl (gN (h':=[some ⟨90,[(eI .i64 0),(.row (some true) 1 []),(eI .i64 0),(eI .i64 0)]⟩,some ⟨90,[(eI .i64 (aVP.wrap x8)),(.row (some true) 1 []),(eI .i64 (aVP.wrap x58)),(eI .i64 (aVP.wrap x62))]⟩]) (sv (bN rfl rfl (jB dW rfl rfl rfl zl rfl)))) ?_
    exact aV2 (by decide +kernel) (by decide +kernel) (zG [0,1]) J
   refine aVQ (n:=4) (i:=6) (by decide +kernel) rfl (gS (v:=(eI .u8 x62)) (sv (cA rfl (ldR h_17 (pH dO rfl rfl)))))<|aVQ (n:=3) (i:=7) (by decide +kernel) rfl (gS (v:=(eI .i64 (aVP.wrap x62))) (sv (jQ rfl (iH _ ⟨_,dO⟩ dW rfl))))<|aVQ (n:=2) (i:=12) (by decide +kernel) rfl (gS (v:=(.ptr 1 3)) (sv (nL rfl (jZ ..))))<|aVQ (n:=1) (i:=13) (by decide +kernel) rfl (gN (h':=[some ⟨90,[(eI .i64 0),(.row (some true) 1 []),(eI .i64 0),(eI .i64 0)]⟩,some ⟨90,[(eI .i64 (aVP.wrap x8)),(.row (some true) 1 []),(eI .i64 (aVP.wrap x58)),(eI .i64 (aVP.wrap x62))]⟩]) (sv (bN rfl rfl (jB dW rfl rfl rfl zl rfl)))) ?_
   exact aV2 (by decide +kernel) (by decide +kernel) (zG [0,1]) J
  refine aVQ (n:=5) (i:=6) (by decide +kernel) rfl (gS (v:=(eI .u8 x62)) (sv (cA rfl (ldR h_17 (pH dO rfl rfl)))))<|aVQ (n:=4) (i:=7) (by decide +kernel) rfl (gS (v:=(eI .i64 (aVP.wrap x62))) (sv (jQ rfl (iH _ ⟨_,dO⟩ dW rfl))))<|aVQ (n:=3) (i:=12) (by decide +kernel) rfl (gS (v:=(.ptr 1 3)) (sv (nL rfl (jZ ..))))<|aV3 (n:=2) [9,13] (by decide +kernel) (by decide) ?_
  refine(aV0 rfl (gS (v:=(.row none 1 (x66.map (eI .u8)))) (sv (cZ rfl rfl rfl (u6 dC dO rfl rfl h_18)))) ?_ (aV0 rfl (gN (h':=[some ⟨90,[(eI .i64 0),(.row (some true) 1 []),(eI .i64 0),(eI .i64 0)]⟩,some ⟨90,[(eI .i64 (aVP.wrap x8)),(.row (some true) 1 []),(eI .i64 (aVP.wrap x58)),(eI .i64 (aVP.wrap x62))]⟩]) (sv (bN rfl rfl (jB dW rfl rfl rfl zl rfl)))) ?_ aV5))
  ·refine aVQ (n:=1) (i:=13) (by decide +kernel) rfl (gN (h':=[some ⟨90,[(eI .i64 0),(.row (some true) 1 []),(eI .i64 0),(eI .i64 0)]⟩,some ⟨90,[(eI .i64 (aVP.wrap x8)),(.row (some true) 1 []),(eI .i64 (aVP.wrap x58)),(eI .i64 (aVP.wrap x62))]⟩]) (sv (bN rfl rfl (jB dW rfl rfl rfl zl rfl)))) ?_
   exact aV2 (by decide +kernel) (by decide +kernel) (zG [0,1]) J
  refine aVQ (n:=1) (i:=9) (by decide +kernel) rfl (gS (v:=(.row none 1 (x66.map (eI .u8)))) (sv (cZ rfl rfl rfl (u6 dC dO rfl rfl h_18)))) ?_
  exact aV2 (by decide +kernel) (by decide +kernel) (zG [0,1]) J
 refine zz ?_
 exact hG1 _ _ _ _ (aV6 (aWf (fr':=[(0,(.row none 1 (x18.map (eI .u8)))),(2,(.ptr 0 0)),(5,(.ptr 1 0))]) (h1:=[some ⟨90,[(eI .i64 0),(.row (some true) 1 []),(eI .i64 0),(eI .i64 0)]⟩,some ⟨90,[(eI .i64 (aVP.wrap x8)),(.sl 2 0 0 1 false),(eI .i64 0),(eI .i64 0)]⟩]) 5 (FLe.same rfl (FLe.same rfl (FLe.same rfl FLe.nil))) (HLv.live (V.les_refl _ _) rfl (HLv.live (V.les_cons (V.le_refl _ _) (V.les_cons (V.le_virt rfl) (V.les_cons (V.le_refl _ _) (V.les_cons (V.le_refl _ _) V.les_nil)))) rfl HLv.nil))) (lK [0,1,2])) (J1 x18 0 0 [] hr)
theorem aIi {N:Nat}{b:List Int}{r:(List aX)×Int}(hr:wB N b=some r):
  Vm.Fn Tryz.prog 55 [] [(.row none 1 (b.map (eI .u8)))] (.tup [(.sl 0 0 r.1.length 4 true),(eI .i64 r.2)]) [some ⟨90,r.1.flatMap cO⟩]:=by
 refine zf Tryz.func55 Tryz.ntmps55 ?_
 unfold wB at hr
 refine zz ?_
 refine aVT ?_
 refine zz ?_
 refine zk hr rfl (fun h1 hr=> ?_) (fun h1 hr=> ?_)
 ·refine zz ?_
  obtain rfl:=sj hr
  exact nX Tryz.results55 bH bH (zW 90 [0])
 refine zz ?_
 refine aVU fun K1 hK1 hG1=> ?_
 have J1: ∀(l0:List aX),aA9 N l0=some r→K1 (aI 29 [(4,(.sl 0 0 l0.length 4 true))]) [some ⟨90,l0.flatMap cO⟩]:=by
  intro l0 hr
  unfold aA9 at hr
  refine hK1 _ _ ?_
  refine zz ?_
  obtain rfl:=sj hr
  exact sZ Tryz.results55 [0]
 obtain⟨bQ,hL2,hr⟩:=aC hr
 refine aVR<|aVW (fun m s h=> ∃(b_1:List Int)(aS:List aX),lT N m b_1 aS=some bQ∧Ghost 0 s h (aI 29 [(0,(.row none 1 (b_1.map (eI .u8)))),(4,(.sl 0 0 aS.length 4 true))]) [some ⟨90,aS.flatMap cO⟩]) (n:=N) ⟨b,[],hL2,(zW 90 [0])⟩ (by rintro s h ⟨_,_,h0,_⟩;simp[lT]at h0) ?_
 rintro m2 s h ⟨b_1,aS,hr2,hg⟩
 refine aVV hg ?_
 clear hg hL2
 rw[lT]at hr2
 refine aVT ?_
 refine zz ?_
 refine zk hr2 rfl (fun h2 hr2=> ?_) (fun h2 hr2=> ?_)
 ·refine zz ?_
  refine aVR ?_
  obtain⟨x16,h_3,hr2⟩:=aC hr2
  refine zz ?_
  refine zc (aJg h_3) [] ?_
  refine zz ?_
  refine aVT ?_
  refine zz ?_
  refine zk hr2 rfl (fun h4 hr2=> ?_) (fun h4 hr2=> ?_)
  ·refine zz ?_
   obtain rfl:=sj hr2
   obtain rfl:=sj hr
   exact nX Tryz.results55 bH bH (zW 90 [3])
  obtain⟨x26,h_5,hr2⟩:=aC hr2
  refine zz ?_
  refine aWa (Ghost.conv (fr':=[(0,(.row none 1 (b_1.map (eI .u8)))),(4,(.sl 0 0 aS.length 4 true)),(5,(.ptr 2 0)),(6,(.row none 1 (x16.2.2.2.2.1.map (eI .u8)))),(7,(eI .i64 x16.2.2.2.2.2)),(11,(.row none 1 (b_1.map (eI .u8)))),(12,(eI .i64 (b_1.length:Int))),(13,(eB (decide (0<(b_1.length:Int))))),(14,(.tup [(.agg [(eI .i64 x16.1),(.row none 1 (x16.2.1.map (eI .u8))),(eI .i64 x16.2.2.1),(eI .i64 x16.2.2.2.1)]),(.row none 1 (x16.2.2.2.2.1.map (eI .u8))),(eI .i64 x16.2.2.2.2.2)])),(15,(.row none 1 (b_1.map (eI .u8)))),(16,(.tup [(.agg [(eI .i64 x16.1),(.row none 1 (x16.2.1.map (eI .u8))),(eI .i64 x16.2.2.1),(eI .i64 x16.2.2.2.1)]),(.row none 1 (x16.2.2.2.2.1.map (eI .u8))),(eI .i64 x16.2.2.2.2.2)])),(17,(.agg [(eI .i64 x16.1),(.row none 1 (x16.2.1.map (eI .u8))),(eI .i64 x16.2.2.1),(eI .i64 x16.2.2.2.1)])),(18,(.row none 1 (x16.2.2.2.2.1.map (eI .u8)))),(19,(eI .i64 x16.2.2.2.2.2)),(20,(eI .i64 x16.2.2.2.2.2)),(21,(eB (x16.2.2.2.2.2 != 0))),(23,(.sl 0 0 aS.length 4 true)),(24,(.agg [(eI .i64 x16.1),(.row none 1 (x16.2.1.map (eI .u8))),(eI .i64 x16.2.2.1),(eI .i64 x16.2.2.2.1)]))]) (h':=[some ⟨90,aS.flatMap cO⟩,none,some ⟨90,[(eI .i64 x16.1),(.row none 1 (x16.2.1.map (eI .u8))),(eI .i64 x16.2.2.1),(eI .i64 x16.2.2.2.1)]⟩]) (aV4 rfl (aVX (aQ rfl)) (aV4 rfl (aVX (aQ rfl)) (aV4 rfl (aVX (aQ rfl)) (aV4 rfl (aVX (aQ rfl)) (aV4 rfl (aVX (aQ rfl)) (aV4 rfl (aVX (aQ rfl)) (aV4 rfl (aVX (aQ rfl)) (aV4 rfl (aVX (aQ rfl)) (aV4 rfl (Conv.tup (aVZ (aWh (aVZ (aVX (aQ rfl)) (aVZ (aWb (aQ rfl) rfl rfl (gL (fun _=>rfl)) (by first|rfl|(simp only[aV7,b7,b6];done))) (aVZ (aVX (aQ rfl)) (aVZ (aVX (aQ rfl)) aV9))))) (aVZ (aVX (aQ rfl)) (aVZ (aVX (aQ rfl)) aV9)))) (aV4 rfl (aVX (aQ rfl)) (aV4 rfl (Conv.tup (aVZ (aWh (aVZ (aVX (aQ rfl)) (aVZ (aWb (aQ rfl) rfl rfl (gL (fun _=>rfl)) (by first|rfl|(simp only[aV7,b7,b6];done))) (aVZ (aVX (aQ rfl)) (aVZ (aVX (aQ rfl)) aV9))))) (aVZ (aVX (aQ rfl)) (aVZ (aVX (aQ rfl)) aV9)))) (aV4 rfl (aWh (aVZ (aVX (aQ rfl)) (aVZ (aWb (aQ rfl) rfl rfl (gL (fun _=>rfl)) (by first|rfl|(simp only[aV7,b7,b6];done))) (aVZ (aVX (aQ rfl)) (aVZ (aVX (aQ rfl)) aV9))))) (aV4 rfl (aVX (aQ rfl)) (aV4 rfl (aVX (aQ rfl)) (aV4 rfl (aVX (aQ rfl)) (aV4 rfl (aVX (aQ rfl)) (aV4 rfl (aVX (aQ rfl)) (aV4 rfl (aWh (aVZ (aVX (aQ rfl)) (aVZ (aWb (aQ rfl) rfl rfl (gL (fun _=>rfl)) (by first|rfl|(simp only[aV7,b7,b6];done))) (aVZ (aVX (aQ rfl)) (aVZ (aVX (aQ rfl)) aV9))))) FCv.nil)))))))))))))))))) (HCv.live (Convs.same (aQ rfl)) (q7 (fun _=>rfl) _) (HCv.dead (HCv.live (aVZ (aVX (aQ rfl)) (aVZ (aWb (aQ rfl) rfl rfl (gL (fun _=>rfl)) (by first|rfl|(simp only[aV7,b7,b6];done))) (aVZ (aVX (aQ rfl)) (aVZ (aVX (aQ rfl)) aV9)))) rfl HCv.nil)))) ?_
  refine xw (v:=(.sl 3 0 1 4 true)) (h':=[some ⟨90,aS.flatMap cO⟩,none,some ⟨90,[(eI .i64 x16.1),(.row none 1 (x16.2.1.map (eI .u8))),(eI .i64 x16.2.2.1),(eI .i64 x16.2.2.2.1)]⟩,some ⟨90,[(aX.mk x16.1 x16.2.1 x16.2.2.1 x16.2.2.2.1)].flatMap cO⟩]) (pD rfl (aCL (C:=cO) (xs:=[(aX.mk x16.1 x16.2.1 x16.2.2.1 x16.2.2.2.1)]) (K:=4) (fun _=>rfl) (fun _=>rfl) aQm aBM ⟨zl,zl,zl⟩ rfl rfl rfl rfl rfl rfl)) ?_
  refine zz ?_
  exact⟨x16.2.2.2.2.1,x26,hr2,(zG [4])⟩
 refine zz ?_
 obtain rfl:=sj hr2
 refine zz ?_
 exact hG1 _ _ _ _ (zG [0]) (J1 aS hr)
theorem aHA {N:Nat}{l:List aX}{r:Bool}(hr:u7 N l=some r):
  Vm.Fn Tryz.prog 56 [] [(.row none 4 (l.map wZ))] (eB r) []:=by
 refine zf Tryz.func56 Tryz.ntmps56 ?_
 unfold u7 at hr
 refine zz ?_
 refine aVU fun K1 hK1 hG1=> ?_
 have J1: ∀(l0:List Bool),aAu N l0=some r→K1 (aI 47 [(3,(.sl 0 0 l0.length 1 false))]) [some ⟨4,l0.map eB⟩]:=by
  intro l0 hr
  unfold aAu at hr
  refine hK1 _ _ ?_
  refine zz ?_
  obtain rfl:=sj hr
  exact bI Tryz.results56 []
 obtain⟨bQ,hL2,hr⟩:=aC hr
 refine zz ?_
 refine aVR<|aVW (fun m s h=> ∃(x9:Int)(aS:List Bool),eC N l m x9 aS=some bQ∧Ghost 0 s h (aI 47 [(3,(.sl 0 0 aS.length 1 false)),(7,(.row none 4 (l.map wZ))),(8,(eI .i64 (l.length:Int))),(9,(eI .i64 x9))]) [some ⟨4,aS.map eB⟩]) (n:=N) ⟨0,[],hL2,(zW 4 [0])⟩ (by rintro s h ⟨_,_,h0,_⟩;simp[eC]at h0) ?_
 rintro m2 s h ⟨x9,aS,hr2,hg⟩
 refine aVV hg ?_
 clear hg hL2
 rw[eC]at hr2
 refine zz ?_
 refine aVT ?_
 refine zk hr2 rfl (fun h1 hr2=> ?_) (fun h1 hr2=> ?_)
 ·refine zz ?_
  refine aVU fun K3 hK3 hG3=> ?_
  have J3: ∀(fM:List Bool),k4 N l x9 (eC N l m2) fM=some bQ→K3 (aI 47 [(3,(.sl 0 0 fM.length 1 false)),(7,(.row none 4 (l.map wZ))),(8,(eI .i64 (l.length:Int))),(9,(eI .i64 x9))]) [some ⟨4,fM.map eB⟩]:=by
   intro fM hr2
   unfold k4 at hr2
   refine hK3 _ _ ?_
   refine zz ?_
   exact⟨aVP.wrap (x9+1),fM,hr2,(zG [0])⟩
  refine aVR ?_
  obtain⟨b4,h_2,hr2⟩:=aC hr2
  refine zz ?_
  refine aVR ?_
  refine zz ?_
  refine zk hr2 rfl (fun h3 hr2=> ?_) (fun h3 hr2=> ?_)
  ·obtain⟨bX,h_4,hr2⟩:=aC hr2
   refine zz ?_
   exact hG3 _ _ _ _ (zG [3]) (J3 bX hr2)
  refine zz ?_
  refine zk hr2 rfl (fun h5 hr2=> ?_) (fun h5 hr2=> ?_)
  ·refine aVT ?_
   refine aVU fun K4 hK4 hG4=> ?_
   have J4: ∀(nW:Bool),qH N l x9 aS (eC N l m2) nW=some bQ→K4 (aI 47 [(3,(.sl 0 0 aS.length 1 false)),(6,(eI .i64 (aVP.wrap ((aS.length:Int)-1)))),(7,(.row none 4 (l.map wZ))),(8,(eI .i64 (l.length:Int))),(9,(eI .i64 x9)),(32,(eB nW))]) [some ⟨4,aS.map eB⟩]:=by
    intro nW hr2
    unfold qH at hr2
    refine hK4 _ _ ?_
    refine zk hr2 rfl (fun h6 hr2=> ?_) (fun h6 hr2=> ?_)
    ·refine zz ?_
     obtain rfl:=sj hr2
     obtain rfl:=sj hr
     exact bI Tryz.results56 []
    obtain⟨x35,h_7,hr2⟩:=aC hr2
    refine zz ?_
    exact hG3 _ _ _ _ (lK [0]) (J3 (aS.set (aV1 (aVP.wrap ((aS.length:Int)-1))) true) hr2)
   rcases aVS (decide ((aVP.wrap ((aS.length:Int)-1))<0))with h8|h8
   ·replace hr2:=dD hr2 h8
    refine xr ?_
    refine zz ?_
    exact hG4 _ _ _ _ (zG [0]) (J4 true hr2)
   replace hr2:=dA hr2 h8
   obtain⟨lL,h_9,hr2⟩:=aC hr2
   refine xr ?_
   refine zz ?_
   exact hG4 _ _ _ _ (zG [0]) (J4 lL hr2)
  refine zz ?_
  refine zk hr2 rfl (fun h10 hr2=> ?_) (fun h10 hr2=> ?_)
  ·refine aVT ?_
   refine zz ?_
   refine zk hr2 rfl (fun h11 hr2=> ?_) (fun h11 hr2=> ?_)
   ·refine zz ?_
    obtain rfl:=sj hr2
    obtain rfl:=sj hr
    exact bI Tryz.results56 []
   obtain⟨x42,h_12,hr2⟩:=aC hr2
   refine zz ?_
   refine xw (v:=(.sl 0 0 x42.length 1 false)) (cZ rfl rfl rfl (aIE (l:=aS) rfl aNZ ti4 rfl rfl rfl h_12)) ?_
   refine aWa (Ghost.cutM (t:=42) (E:=eB) (l:=aS) (h':=[some ⟨4,x42.map eB⟩,some ⟨90,[(eI .i64 b4.Code),(.row none 1 (b4.Data.map (eI .u8))),(eI .i64 b4.M),(eI .i64 b4.N)]⟩]) rfl rfl h_12 rfl) ?_
   refine zz ?_
   exact hG3 _ _ _ _ (zG [0]) (J3 x42 hr2)
  refine zz ?_
  exact hG3 _ _ _ _ (zG [0]) (J3 aS hr2)
 refine zz ?_
 obtain rfl:=sj hr2
 refine zz ?_
 exact hG1 _ _ _ _ (zG [0]) (J1 aS hr)
theorem aGM {N:Nat}{stack:List (List Int)}{r:Bool}(hr:t4 N stack=some r):
  Vm.Fn Tryz.prog 57 [] [(.row none 1 (stack.map (eL 1 (eI .u8))))] (eB r) []:=by
 refine zf Tryz.func57 Tryz.ntmps57 ?_
 unfold t4 at hr
 refine zz ?_
 refine aVT ?_
 refine zz ?_
 refine zk hr rfl (fun h1 hr=> ?_) (fun h1 hr=> ?_)
 ·refine zz ?_
  obtain rfl:=sj hr
  exact bI Tryz.results57 []
 refine zz ?_
 refine aVU fun K1 hK1 hG1=> ?_
 have J1:y5 N=some r→K1 (aI 18 []) []:=by
  intro hr
  unfold y5 at hr
  refine hK1 _ _ ?_
  refine zz ?_
  obtain rfl:=sj hr
  exact bI Tryz.results57 []
 obtain⟨bQ,hL2,hr⟩:=aC hr
 refine zz ?_
 refine aVR<|aVW (fun m s h=> ∃(cD:Int),iT N stack m cD=some bQ∧Ghost 0 s h (aI 18 [(8,(.row none 1 (stack.map (eL 1 (eI .u8))))),(9,(eI .i64 (stack.length:Int))),(10,(eI .i64 cD))]) []) (n:=N) ⟨0,hL2,(zG [])⟩ (by rintro s h ⟨_,h0,_⟩;simp[iT]at h0) ?_
 rintro m2 s h ⟨cD,hr2,hg⟩
 refine aVV hg ?_
 clear hg hL2
 rw[iT]at hr2
 refine zz ?_
 refine aVT ?_
 refine zk hr2 rfl (fun h2 hr2=> ?_) (fun h2 hr2=> ?_)
 ·refine zz ?_
  refine aVT<|aVR ?_
  obtain⟨fC,h_3,hr2⟩:=aC hr2
  refine zz ?_
  refine zk hr2 rfl (fun h4 hr2=> ?_) (fun h4 hr2=> ?_)
  ·refine zz ?_
   obtain rfl:=sj hr2
   obtain rfl:=sj hr
   exact bI Tryz.results57 []
  refine zz ?_
  exact⟨aVP.wrap (cD+1),hr2,(zG [])⟩
 refine zz ?_
 obtain rfl:=sj hr2
 refine zz ?_
 exact hG1 _ _ _ _ (zG []) (J1 hr)
theorem aAm {N:Nat}{stack:List (List Int)}{r:(List (List Int))}(hr:rH N stack=some r):
  Vm.Fn Tryz.prog 58 [] [(.row none 1 (stack.map (eL 1 (eI .u8))))] (.sl 0 0 r.length 1 false) [some ⟨31,r.map (eL 1 (eI .u8))⟩]:=by
 refine zf Tryz.func58 Tryz.ntmps58 ?_
 unfold rH at hr
 refine zz ?_
 refine aVU fun K1 hK1 hG1=> ?_
 have J1: ∀(l0:List (List Int)),uS N l0=some r→K1 (aI 20 [(3,(.sl 0 0 l0.length 1 false))]) [some ⟨31,l0.map (eL 1 (eI .u8))⟩]:=by
  intro l0 hr
  unfold uS at hr
  refine hK1 _ _ ?_
  refine zz ?_
  obtain rfl:=sj hr
  exact bI Tryz.results58 [0]
 obtain⟨bQ,hL2,hr⟩:=aC hr
 refine zz ?_
 refine aVR<|aVW (fun m s h=> ∃(x8:Int)(aS:List (List Int)),k6 N stack m x8 aS=some bQ∧Ghost 0 s h (aI 20 [(3,(.sl 0 0 aS.length 1 false)),(6,(.row none 1 (stack.map (eL 1 (eI .u8))))),(7,(eI .i64 (stack.length:Int))),(8,(eI .i64 x8))]) [some ⟨31,aS.map (eL 1 (eI .u8))⟩]) (n:=N) ⟨0,[],hL2,(zW 31 [0])⟩ (by rintro s h ⟨_,_,h0,_⟩;simp[k6]at h0) ?_
 rintro m2 s h ⟨x8,aS,hr2,hg⟩
 refine aVV hg ?_
 clear hg hL2
 rw[k6]at hr2
 refine zz ?_
 refine aVT ?_
 refine zk hr2 rfl (fun h1 hr2=> ?_) (fun h1 hr2=> ?_)
 ·refine zz ?_
  refine aVT<|aVR ?_
  obtain⟨cD,h_2,hr2⟩:=aC hr2
  obtain⟨x15,h_3,hr2⟩:=aC hr2
  obtain⟨x17,h_4,hr2⟩:=aC hr2
  refine zz ?_
  refine jD (aFq h_3) [] [1] ?_
  refine aWa (zv 2) ?_
  refine zz ?_
  exact⟨aVP.wrap (x8+1),x17,hr2,(zG [4])⟩
 refine zz ?_
 obtain rfl:=sj hr2
 refine zz ?_
 exact hG1 _ _ _ _ (zG [0]) (J1 aS hr)
theorem aDw {N:Nat}{aF:List Int}{aJ aN:Int}{aL:List (List Int)}{aH:List aM}{aY:Int}{r:Bool}(hr:oY N aF aJ aN aL aH aY=some r):
  Vm.Fn Tryz.prog 84 [some ⟨88,(bG (eI .u8) aF [(eI .i64 aJ),(eI .i64 aN),(.sl 1 0 aL.length 1 false),(.sl 2 0 aH.length 2 true),(eI .i64 aY)])⟩,some ⟨31,aL.map (eL 1 (eI .u8))⟩,some ⟨113,aH.flatMap aV⟩] [(.ptr 0 0)] (eB r) [some ⟨88,(bG (eI .u8) aF [(eI .i64 aJ),(eI .i64 aN),(.sl 1 0 aL.length 1 false),(.sl 2 0 aH.length 2 true),(eI .i64 aY)])⟩,some ⟨31,aL.map (eL 1 (eI .u8))⟩,some ⟨113,aH.flatMap aV⟩]:=by
 refine zf Tryz.func84 Tryz.ntmps84 ?_
 unfold oY at hr
 refine zz ?_
 refine aVT ?_
 refine zz ?_
 refine zk hr rfl (fun h1 hr=> ?_) (fun h1 hr=> ?_)
 ·refine zz ?_
  obtain rfl:=sj hr
  exact bI Tryz.results84 [0,1,2]
 refine zz ?_
 refine aVT ?_
 obtain⟨bS,h_2,hr⟩:=aC hr
 refine aV8 mixed [] [] [[0,1,2,3,4,5,6,7,8,9,10,11,12,13]] ?_
 refine zz ?_
 refine xw (v:=(.agg [(eB bS.outer),(eB bS.taken)])) (cA rfl (aNz (C:=aV) (K:=2) (fun _=>rfl) rfl h_2 (aCJ (ds:=[(eB bS.outer),(eB bS.taken)]) aCU rfl zl rfl))) ?_
 refine zz ?_
 refine aVU fun K1 hK1 hG1=> ?_
 have J1: ∀(x2:Bool),jH N aF aJ aN aL aH aY x2=some r→K1 (aI 28 [(2,(eB x2))]) [some ⟨88,(bG (eI .u8) aF [(eI .i64 aJ),(eI .i64 aN),(.sl 1 0 aL.length 1 false),(.sl 2 0 aH.length 2 true),(eI .i64 aY)])⟩,some ⟨31,aL.map (eL 1 (eI .u8))⟩,some ⟨113,aH.flatMap aV⟩]:=by
  intro x2 hr
  unfold jH at hr
  refine hK1 _ _ ?_
  refine zz ?_
  obtain rfl:=sj hr
  exact bI Tryz.results84 [0,1,2]
 rcases aVS bS.outer with h3|h3
 ·replace hr:=dD hr h3
  refine xr ?_
  refine zz ?_
  exact hG1 _ _ _ _ (zG [0,1,2]) (J1 bS.taken hr)
 replace hr:=dA hr h3
 refine xr ?_
 refine zz ?_
 exact hG1 _ _ _ _ (zG [0,1,2]) (J1 false hr)
theorem aH0 {N:Nat}{bA:Int}{cC:List Int}{eU eG r:Int}(hr:wJ N bA cC eU eG=some r):
  Vm.Fn Tryz.prog 85 [] [(.agg [(eI .i64 bA),(.row none 1 (cC.map (eI .u8))),(eI .i64 eU),(eI .i64 eG)])] (eI .i64 r) []:=by
 refine zf Tryz.func85 Tryz.ntmps85 ?_
 unfold wJ at hr
 refine zz ?_
 refine aVT ?_
 refine zz ?_
 refine aVR ?_
 refine zz ?_
 refine zk hr rfl (fun h1 hr=> ?_) (fun h1 hr=> ?_)
 ·refine zz ?_
  obtain rfl:=sj hr
  exact bI Tryz.results85 []
 refine zz ?_
 refine zk hr rfl (fun h2 hr=> ?_) (fun h2 hr=> ?_)
 ·refine zz ?_
  obtain rfl:=sj hr
  exact bI Tryz.results85 []
 refine zz ?_
 refine zk hr rfl (fun h3 hr=> ?_) (fun h3 hr=> ?_)
 ·refine zz ?_
  obtain rfl:=sj hr
  exact bI Tryz.results85 []
 refine zz ?_
 obtain rfl:=sj hr
 exact bI Tryz.results85 []
theorem aIe {N:Nat}{bA:Int}{cC:List Int}{eU eG r:Int}(hr:wQ N bA cC eU eG=some r):
  Vm.Fn Tryz.prog 86 [] [(.agg [(eI .i64 bA),(.row none 1 (cC.map (eI .u8))),(eI .i64 eU),(eI .i64 eG)])] (eI .i64 r) []:=by
 refine zf Tryz.func86 Tryz.ntmps86 ?_
 unfold wQ at hr
 refine zz ?_
 refine aVT ?_
 refine zz ?_
 refine aVR ?_
 refine aVU fun K1 hK1 hG1=> ?_
 have J1: ∀(x5:Bool),l9 N bA cC eU eG x5=some r→K1 (aI 19 [(1,(.ptr 0 0)),(4,(eI .i64 bA)),(5,(eB x5))]) [some ⟨90,[(eI .i64 bA),(.row none 1 (cC.map (eI .u8))),(eI .i64 eU),(eI .i64 eG)]⟩]:=by
  intro x5 hr
  unfold l9 at hr
  refine hK1 _ _ ?_
  refine zk hr rfl (fun h1 hr=> ?_) (fun h1 hr=> ?_)
  ·refine zz ?_
   obtain rfl:=sj hr
   exact bI Tryz.results86 []
  refine aVU fun K2 hK2 hG2=> ?_
  have J2: ∀(cD:Bool),oX N bA cC eU eG cD=some r→K2 (aI 19 [(1,(.ptr 0 0)),(4,(eI .i64 bA)),(10,(eB cD))]) [some ⟨90,[(eI .i64 bA),(.row none 1 (cC.map (eI .u8))),(eI .i64 eU),(eI .i64 eG)]⟩]:=by
   intro cD hr
   unfold oX at hr
   refine hK2 _ _ ?_
   refine zk hr rfl (fun h2 hr=> ?_) (fun h2 hr=> ?_)
   ·refine zz ?_
    obtain rfl:=sj hr
    exact bI Tryz.results86 []
   refine zz ?_
   refine zk hr rfl (fun h3 hr=> ?_) (fun h3 hr=> ?_)
   ·refine zz ?_
    obtain rfl:=sj hr
    exact bI Tryz.results86 []
   refine zz ?_
   obtain rfl:=sj hr
   exact bI Tryz.results86 []
  refine zz ?_
  refine zk hr rfl (fun h4 hr=> ?_) (fun h4 hr=> ?_)
  ·refine zz ?_
   exact hG2 _ _ _ _ (zG [0]) (J2 (bA == 4) hr)
  refine zz ?_
  refine zk hr rfl (fun h5 hr=> ?_) (fun h5 hr=> ?_)
  ·refine zz ?_
   exact hG2 _ _ _ _ (zG [0]) (J2 (bA == 5) hr)
  refine zz ?_
  exact hG2 _ _ _ _ (zG [0]) (J2 (bA == 10) hr)
 refine zz ?_
 refine zk hr rfl (fun h6 hr=> ?_) (fun h6 hr=> ?_)
 ·refine zz ?_
  exact hG1 _ _ _ _ (zG [0]) (J1 (bA == 1) hr)
 refine zz ?_
 refine zk hr rfl (fun h7 hr=> ?_) (fun h7 hr=> ?_)
 ·refine zz ?_
  exact hG1 _ _ _ _ (zG [0]) (J1 (bA == 15) hr)
 refine zz ?_
 refine zk hr rfl (fun h8 hr=> ?_) (fun h8 hr=> ?_)
 ·refine zz ?_
  exact hG1 _ _ _ _ (zG [0]) (J1 (bA == 16) hr)
 refine zz ?_
 exact hG1 _ _ _ _ (zG [0]) (J1 (bA == 17) hr)
theorem eN {N:Nat}{aF:List Int}{aJ aN:Int}{aL:List (List Int)}{aH:List aM}{aY:Int}{r:(List Int)}(hr:cW N aF aJ aN aL aH aY=some r):
  Vm.Fn Tryz.prog 87 [some ⟨88,(bG (eI .u8) aF [(eI .i64 aJ),(eI .i64 aN),(.sl 1 0 aL.length 1 false),(.sl 2 0 aH.length 2 true),(eI .i64 aY)])⟩,some ⟨31,aL.map (eL 1 (eI .u8))⟩,some ⟨113,aH.flatMap aV⟩] [(.ptr 0 0)] (.row none 1 (r.map (eI .u8))) [some ⟨88,(bG (eI .u8) aF [(eI .i64 aJ),(eI .i64 aN),(.sl 1 0 aL.length 1 false),(.sl 2 0 aH.length 2 true),(eI .i64 aY)])⟩,some ⟨31,aL.map (eL 1 (eI .u8))⟩,some ⟨113,aH.flatMap aV⟩]:=by
 refine zf Tryz.func87 Tryz.ntmps87 ?_
 unfold cW at hr
 refine zz ?_
 refine aVT ?_
 obtain⟨d5,h_1,hr⟩:=aC hr
 refine aV8 mixed [] [] [[0,1,2,3,4,5,6,7,8,9,10,11,12]] ?_
 refine zz ?_
 obtain rfl:=sj hr
 exact bI Tryz.results87 [0,1,2]
theorem vS {N:Nat}{gG:List Int}{r:Bool}(hr:kR N gG=some r):
  Vm.Fn Tryz.prog 33 [] [(.row none 1 (gG.map (eI .u8)))] (eB r) []:=by
 refine zf Tryz.func33 Tryz.ntmps33 ?_
 unfold kR at hr
 refine zz ?_
 refine aVU fun K1 hK1 hG1=> ?_
 have J1:aBx N=some r→K1 (aI 14 []) []:=by
  intro hr
  unfold aBx at hr
  refine hK1 _ _ ?_
  refine zz ?_
  obtain rfl:=sj hr
  exact bI Tryz.results33 []
 obtain⟨bQ,hL2,hr⟩:=aC hr
 refine zz ?_
 refine aVR<|aVW (fun m s h=> ∃(x7:Int),g8 N gG m x7=some bQ∧Ghost 0 s h (aI 14 [(5,(.row none 1 (gG.map (eI .u8)))),(6,(eI .i64 (gG.length:Int))),(7,(eI .i64 x7))]) []) (n:=N) ⟨0,hL2,(zG [])⟩ (by rintro s h ⟨_,h0,_⟩;simp[g8]at h0) ?_
 rintro m2 s h ⟨x7,hr2,hg⟩
 refine aVV hg ?_
 clear hg hL2
 rw[g8]at hr2
 refine zz ?_
 refine aVT ?_
 refine zk hr2 rfl (fun h1 hr2=> ?_) (fun h1 hr2=> ?_)
 ·refine zz ?_
  refine aVT<|aVR ?_
  obtain⟨x9,h_2,hr2⟩:=aC hr2
  refine zz ?_
  refine zk hr2 rfl (fun h3 hr2=> ?_) (fun h3 hr2=> ?_)
  ·refine zz ?_
   obtain rfl:=sj hr2
   obtain rfl:=sj hr
   exact bI Tryz.results33 []
  refine zz ?_
  exact⟨aVP.wrap (x7+1),hr2,(zG [])⟩
 refine zz ?_
 obtain rfl:=sj hr2
 refine zz ?_
 exact hG1 _ _ _ _ (zG []) (J1 hr)
theorem n7 {N:Nat}{aF:List Int}{aJ aN:Int}{aL:List (List Int)}{aH:List aM}{aY vn:Int}{r:(List Int)×Int×Int×(List (List Int))×(List aM)×Int}(hr:eQ N aF aJ aN aL aH aY vn=some r):
  Vm.Fn Tryz.prog 88 [some ⟨88,(bG (eI .u8) aF [(eI .i64 aJ),(eI .i64 aN),(.sl 1 0 aL.length 1 false),(.sl 2 0 aH.length 2 true),(eI .i64 aY)])⟩,some ⟨31,aL.map (eL 1 (eI .u8))⟩,some ⟨113,aH.flatMap aV⟩] [(.ptr 0 0),(eI .i64 vn)] (.tup []) [some ⟨88,(bG (eI .u8) r.1 [(eI .i64 r.2.1),(eI .i64 r.2.2.1),(.sl 3 0 r.2.2.2.1.length 1 false),(.sl 4 0 r.2.2.2.2.1.length 2 true),(eI .i64 r.2.2.2.2.2)])⟩,none,none,some ⟨31,r.2.2.2.1.map (eL 1 (eI .u8))⟩,some ⟨113,r.2.2.2.2.1.flatMap aV⟩]:=by
 refine zf Tryz.func88 Tryz.ntmps88 ?_
 unfold eQ at hr
 obtain⟨x16,h_1,hr⟩:=aC hr
 refine aV8 mixed [] [] [[0,1,2,3,4,5,6,7,8,9,10,11,12],[13,14,15]] ?_
 refine zz ?_
 refine xw (v:=(.sl 1 0 x16.length 1 false)) (cZ rfl rfl rfl (aIE (l:=aL) rfl aAZ dC rfl rfl rfl h_1)) ?_
 refine zz ?_
 refine⟨_,_,(Ghost.cutM (t:=16) (E:=(eL 1 (eI .u8))) (l:=aL) (h':=[some ⟨88,(bG (eI .u8) aF [(eI .i64 aJ),(eI .i64 aN),(.sl 1 0 aL.length 1 false),(.sl 2 0 aH.length 2 true),(eI .i64 aY)])⟩,some ⟨31,x16.map (eL 1 (eI .u8))⟩,some ⟨113,aH.flatMap aV⟩]) rfl rfl h_1 rfl), ?_⟩
 refine zz ?_
 obtain rfl:=sj hr
 exact zn0 Tryz.results88 (zG [0,1,2,1,2])
theorem sX {N:Nat}{aF:List Int}{aJ aN:Int}{aL:List (List Int)}{aH:List aM}{aY:Int}{gG:List Int}{r:Int×(List Int)×Int×Int×(List (List Int))×(List aM)×Int}(hr:iY N aF aJ aN aL aH aY gG=some r):
  Vm.Fn Tryz.prog 108 [some ⟨88,(bG (eI .u8) aF [(eI .i64 aJ),(eI .i64 aN),(.sl 1 0 aL.length 1 false),(.sl 2 0 aH.length 2 true),(eI .i64 aY)])⟩,some ⟨31,aL.map (eL 1 (eI .u8))⟩,some ⟨113,aH.flatMap aV⟩] [(.ptr 0 0),(.row none 1 (gG.map (eI .u8)))] (eI .i64 r.1) [some ⟨88,(bG (eI .u8) r.2.1 [(eI .i64 r.2.2.1),(eI .i64 r.2.2.2.1),(.sl 3 0 r.2.2.2.2.1.length 1 false),(.sl 4 0 r.2.2.2.2.2.1.length 2 true),(eI .i64 r.2.2.2.2.2.2)])⟩,none,none,some ⟨31,r.2.2.2.2.1.map (eL 1 (eI .u8))⟩,some ⟨113,r.2.2.2.2.2.1.flatMap aV⟩]:=by
 refine zf Tryz.func108 Tryz.ntmps108 ?_
 unfold iY at hr
 refine zz ?_
 refine aVT ?_
 refine zz ?_
 refine zk hr rfl (fun h1 hr=> ?_) (fun h1 hr=> ?_)
 ·refine zz ?_
  obtain rfl:=sj hr
  exact bI Tryz.results108 [0,1,2,1,2]
 obtain⟨x18,h_2,hr⟩:=aC hr
 refine zz ?_
 obtain rfl:=sj hr
 exact bI Tryz.results108 [0,1,2,4,2]
theorem aJs {N:Nat}{va b:List Int}{r:Bool}(hr:aB4 N va b=some r):
  Vm.Fn Tryz.prog 111 [] [(.row none 1 (va.map (eI .u8))),(.row none 1 (b.map (eI .u8)))] (eB r) []:=by
 refine zf Tryz.func111 Tryz.ntmps111 ?_
 unfold aB4 at hr
 refine zz ?_
 refine xw (v:=(eS (rV va))) (jQ rfl (aKO dC ti9 dO (aDH (fun _=>rfl)))) ?_
 refine zz ?_
 refine xw (v:=(eS (rV b))) (jQ rfl (aKO dC ti9 dO (aDH (fun _=>rfl))))<|xw (v5 rfl rfl (aK8 ..)) ?_
 refine zz ?_
 obtain rfl:=sj hr
 exact bI Tryz.results111 []
theorem aBC {N:Nat}{vn:Int}{r:(List Int)}(hr:iP N vn=some r):
  Vm.Fn Tryz.prog 112 [] [(eI .u32 vn)] (.sl 0 0 r.length 1 false) [some ⟨5,r.map (eI .u8)⟩]:=by
 refine zf Tryz.func112 Tryz.ntmps112 ?_
 unfold iP at hr
 refine zz ?_
 refine aVU fun K1 hK1 hG1=> ?_
 have J1: ∀(l0:List Int),yT N l0=some r→K1 (aI 14 [(3,(.sl 0 0 l0.length 1 false))]) [some ⟨5,l0.map (eI .u8)⟩]:=by
  intro l0 hr
  unfold yT at hr
  refine hK1 _ _ ?_
  refine zz ?_
  obtain rfl:=sj hr
  exact bI Tryz.results112 [0]
 obtain⟨bQ,hL2,hr⟩:=aC hr
 refine aVR<|aVW (fun m s h=> ∃(eD:Int)(aS:List Int),fF N m eD aS=some bQ∧Ghost 0 s h (aI 14 [(0,(eI .u32 eD)),(3,(.sl 0 0 aS.length 1 false))]) [some ⟨5,aS.map (eI .u8)⟩]) (n:=N) ⟨vn,[],hL2,(zW 5 [0])⟩ (by rintro s h ⟨_,_,h0,_⟩;simp[fF]at h0) ?_
 rintro m2 s h ⟨eD,aS,hr2,hg⟩
 refine aVV hg ?_
 clear hg hL2
 rw[fF]at hr2
 refine aVT ?_
 refine zz ?_
 refine zk hr2 rfl (fun h1 hr2=> ?_) (fun h1 hr2=> ?_)
 ·refine zz ?_
  refine aVT<|aVR ?_
  obtain⟨fC,h_2,hr2⟩:=aC hr2
  obtain⟨x7,h_3,hr2⟩:=aC hr2
  refine zz ?_
  exact⟨x7,fC,hr2,(zG [2])⟩
 refine zz ?_
 obtain rfl:=sj hr2
 refine zz ?_
 exact hG1 _ _ _ _ (zG [0]) (J1 aS hr)
theorem aBG {N:Nat}{v:Bool}{r:(List Int)}(hr:lN N v=some r):
  Vm.Fn Tryz.prog 110 [] [(eB v)] (.sl 0 0 r.length 1 false) [some ⟨5,r.map (eI .u8)⟩]:=by
 refine zf Tryz.func110 Tryz.ntmps110 ?_
 unfold lN at hr
 refine zz ?_
 refine aVT ?_
 refine zz ?_
 refine zk hr rfl (fun h1 hr=> ?_) (fun h1 hr=> ?_)
 ·obtain⟨x4,h_2,hr⟩:=aC hr
  refine zz ?_
  refine zc (aBC h_2) [] ?_
  refine zz ?_
  obtain rfl:=sj hr
  exact bI Tryz.results110 [0]
 obtain⟨x5,h_3,hr⟩:=aC hr
 refine zz ?_
 refine zc (aBC h_3) [] ?_
 refine zz ?_
 obtain rfl:=sj hr
 exact bI Tryz.results110 [0]
theorem lJ {N:Nat}{aF:List Int}{aJ aN:Int}{aL:List (List Int)}{aH:List aM}{aY vn:Int}{gG:List Int}{r:(List Int)×Int×Int×(List (List Int))×(List aM)×Int}(hr:dP N aF aJ aN aL aH aY vn gG=some r):
  Vm.Fn Tryz.prog 109 [some ⟨88,(bG (eI .u8) aF [(eI .i64 aJ),(eI .i64 aN),(.sl 1 0 aL.length 1 false),(.sl 2 0 aH.length 2 true),(eI .i64 aY)])⟩,some ⟨31,aL.map (eL 1 (eI .u8))⟩,some ⟨113,aH.flatMap aV⟩] [(.ptr 0 0),(eI .i64 vn),(.row none 1 (gG.map (eI .u8)))] (.tup []) [some ⟨88,(bG (eI .u8) r.1 [(eI .i64 r.2.1),(eI .i64 r.2.2.1),(.sl 3 0 r.2.2.2.1.length 1 false),(.sl 4 0 r.2.2.2.2.1.length 2 true),(eI .i64 r.2.2.2.2.2)])⟩,none,none,some ⟨31,r.2.2.2.1.map (eL 1 (eI .u8))⟩,some ⟨113,r.2.2.2.2.1.flatMap aV⟩]:=by
 refine zf Tryz.func109 Tryz.ntmps109 ?_
 unfold dP at hr
 obtain⟨x8,h_1,hr⟩:=aC hr
 refine zz ?_
 refine zc (n7 h_1) [0,1,2] ?_
 obtain⟨x16,h_2,hr⟩:=aC hr
 refine zz ?_
 obtain rfl:=sj hr
 exact zn0 Tryz.results109 (zG [0,1,2,6,4])
theorem s9 {N:Nat}{vh:List Int}{r:(List Int)}(hr:fU N vh=some r):
  Vm.Fn Tryz.prog 133 [] [(.agg (vh.map (eI .u8)))] (.agg (r.map (eI .u64))) []:=by
 refine zf Tryz.func133 Tryz.ntmps133 ?_
 unfold fU at hr
 refine zz ?_
 refine aVU fun K1 hK1 hG1=> ?_
 have J1: ∀(l1:List Int),pE N l1=some r→K1 (aI 26 [(2,(.ptr 0 0)),(3,(.ptr 1 0))]) [some ⟨135,(aVO 4 0).map (eI .u64)⟩,some ⟨135,l1.map (eI .u64)⟩]:=by
  intro l1 hr
  unfold pE at hr
  refine hK1 _ _ ?_
  obtain⟨q,h_1,hr⟩:=aC hr
  refine zz ?_
  obtain rfl:=sj hr
  exact iA Tryz.results133 bH (zG [])
 obtain⟨q_1,h_2,hr⟩:=aC hr
 obtain⟨bQ,hL2,hr⟩:=aC hr
 refine zz ?_
 refine aVR<|aVW (fun m s h=> ∃(x8:Int)(cS:List Int),gO N vh m x8 cS=some bQ∧Ghost 0 s h (aI 26 [(2,(.ptr 0 0)),(3,(.ptr 1 0)),(7,(.agg (vh.map (eI .u8)))),(8,(eI .i64 x8))]) [some ⟨135,(aVO 4 0).map (eI .u64)⟩,some ⟨135,cS.map (eI .u64)⟩]) (n:=N) ⟨0,aVO 4 0,hL2,(zG [1,2])⟩ (by rintro s h ⟨_,_,h0,_⟩;simp[gO]at h0) ?_
 rintro m2 s h ⟨x8,cS,hr2,hg⟩
 refine aVV hg ?_
 clear hg hL2
 rw[gO]at hr2
 refine zz ?_
 refine aVT ?_
 refine zk hr2 rfl (fun h3 hr2=> ?_) (fun h3 hr2=> ?_)
 ·refine zz ?_
  refine aVT<|aVR ?_
  obtain⟨b4,h_4,hr2⟩:=aC hr2
  refine zz ?_
  refine xw (v:=(eI .u8 b4)) (aPG rfl rfl (ixA (E:=(eI .u8)) vL dO rfl rfl h_4)) ?_
  obtain⟨x17,h_5,hr2⟩:=aC hr2
  obtain⟨x19,h_6,hr2⟩:=aC hr2
  refine zz ?_
  exact⟨aVP.wrap (x8+1),cS.set (aV1 (aVP.wrap (3-(aVP.wrap (Int.tdiv x8 8))))) (bits .or .u64 x19 (aWe.wrap b4)),hr2,(zG [0,1])⟩
 refine zz ?_
 obtain rfl:=sj hr2
 refine zz ?_
 exact hG1 _ _ _ _ (zG [0,1]) (J1 cS hr)
theorem q5 {N:Nat}{vn:Int}{r:(List Int)}(hr:fT N vn=some r):
  Vm.Fn Tryz.prog 147 [] [(eI .u64 vn)] (.agg (r.map (eI .u64))) []:=by
 refine zf Tryz.func147 Tryz.ntmps147 ?_
 unfold fT at hr
 refine zz ?_
 refine xw (v:=(.agg ([vn,0,0,0].map (eI .u64)))) (cE rfl (nB b8 nA rfl)) ?_
 refine zz ?_
 obtain rfl:=sj hr
 exact iA Tryz.results147 bH (zG [])
theorem aDv {N:Nat}{r:(List Int)}(hr:rI N=some r):
  Vm.Fn Tryz.prog 164 [] [] (.agg (r.map (eI .u64))) []:=by
 refine zf Tryz.func164 Tryz.ntmps164 ?_
 unfold rI at hr
 refine zz ?_
 refine xw (v:=(.agg ([18446744073709515503,18446744073709551615,18446744073709551615,18446744073709551615].map (eI .u64)))) (cE rfl (nB b8 nA rfl)) ?_
 refine zz ?_
 obtain rfl:=sj hr
 exact iA Tryz.results164 bH (zG [])
theorem vA {N:Nat}{va b:List Int}{r:Int}(hr:pC N va b=some r):
  Vm.Fn Tryz.prog 163 [] [(.agg (va.map (eI .u64))),(.agg (b.map (eI .u64)))] (eI .i64 r) []:=by
 refine zf Tryz.func163 Tryz.ntmps163 ?_
 unfold pC at hr
 refine zz ?_
 refine aVU fun K1 hK1 hG1=> ?_
 have J1:aB7 N=some r→K1 (aI 24 []) []:=by
  intro hr
  unfold aB7 at hr
  refine hK1 _ _ ?_
  refine zz ?_
  obtain rfl:=sj hr
  exact bI Tryz.results163 []
 obtain⟨bQ,hL2,hr⟩:=aC hr
 refine zz ?_
 refine aVR<|aVW (fun m s h=> ∃(vi:Int),oA N va b m vi=some bQ∧Ghost 0 s h (aI 24 [(2,(.ptr 0 0)),(3,(.ptr 1 0)),(5,(eI .i64 vi))]) [some ⟨135,va.map (eI .u64)⟩,some ⟨135,b.map (eI .u64)⟩]) (n:=N) ⟨3,hL2,(zG [0,1])⟩ (by rintro s h ⟨_,h0,_⟩;simp[oA]at h0) ?_
 rintro m2 s h ⟨vi,hr2,hg⟩
 refine aVV hg ?_
 clear hg hL2
 rw[oA]at hr2
 refine aVT ?_
 refine zz ?_
 refine zk hr2 rfl (fun h1 hr2=> ?_) (fun h1 hr2=> ?_)
 ·refine zz ?_
  refine aVT<|aVR<|aVT<|aVT ?_
  obtain⟨b4,h_2,hr2⟩:=aC hr2
  obtain⟨bR,h_3,hr2⟩:=aC hr2
  refine aV8 mixed [] [] [[0,1,2,3,4,5,6]] ?_
  refine zz ?_
  refine zk hr2 rfl (fun h4 hr2=> ?_) (fun h4 hr2=> ?_)
  ·refine zz ?_
   obtain rfl:=sj hr2
   obtain rfl:=sj hr
   exact bI Tryz.results163 []
  refine zz ?_
  refine aVT<|aV8 mixed [] [] [[0,1,2,3,4,5,6]] ?_
  refine zz ?_
  refine zk hr2 rfl (fun h5 hr2=> ?_) (fun h5 hr2=> ?_)
  ·refine zz ?_
   obtain rfl:=sj hr2
   obtain rfl:=sj hr
   exact bI Tryz.results163 []
  refine zz ?_
  exact⟨aVP.wrap (vi-1),hr2,(zG [0,1])⟩
 refine zz ?_
 obtain rfl:=sj hr2
 refine zz ?_
 exact hG1 _ _ _ _ (zG []) (J1 hr)
theorem yQ {N:Nat}{r:(List Int)}(hr:pO N=some r):
  Vm.Fn Tryz.prog 151 [] [] (.agg (r.map (eI .u64))) []:=by
 refine zf Tryz.func151 Tryz.ntmps151 ?_
 unfold pO at hr
 refine zz ?_
 refine xw (v:=(.agg ([18446744073709533559,18446744073709551615,18446744073709551615,9223372036854775807].map (eI .u64)))) (cE rfl (nB b8 nA rfl)) ?_
 refine zz ?_
 obtain rfl:=sj hr
 exact iA Tryz.results151 bH (zG [])
theorem aFF {N:Nat}{x r:Int}(hr:rT N x=some r):
  Vm.Fn Tryz.prog 177 [] [(eI .u64 x)] (eI .i64 r) []:=by
 refine zf Tryz.func177 Tryz.ntmps177 ?_
 unfold rT at hr
 refine zz ?_
 refine aVU fun K1 hK1 hG1=> ?_
 have J1: ∀(x_1 vn:Int),lH N x_1 vn=some r→K1 (aI 25 [(0,(eI .u64 x_1)),(2,(eI .i64 vn))]) []:=by
  intro x_1 vn hr
  unfold lH at hr
  refine hK1 _ _ ?_
  refine aVU fun K2 hK2 hG2=> ?_
  have J2: ∀(x_2 eD:Int),lC N x_2 eD=some r→K2 (aI 25 [(0,(eI .u64 x_2)),(2,(eI .i64 eD))]) []:=by
   intro x_2 eD hr
   unfold lC at hr
   refine hK2 _ _ ?_
   refine aVU fun K3 hK3 hG3=> ?_
   have J3: ∀(x_3 aCu:Int),jI N x_3 aCu=some r→K3 (aI 25 [(0,(eI .u64 x_3)),(2,(eI .i64 aCu))]) []:=by
    intro x_3 aCu hr
    unfold jI at hr
    refine hK3 _ _ ?_
    obtain⟨bX,h_1,hr⟩:=aC hr
    refine zz ?_
    refine xw (v:=(eI .u8 bX)) (aPG rfl rfl (ixT ti9 h_1)) ?_
    refine zz ?_
    obtain rfl:=sj hr
    exact bI Tryz.results177 []
   refine zz ?_
   refine zk hr rfl (fun h2 hr=> ?_) (fun h2 hr=> ?_)
   ·obtain⟨x16,h_3,hr⟩:=aC hr
    refine zz ?_
    exact hG3 _ _ _ _ (zG []) (J3 x16 (aVP.wrap (eD+8)) hr)
   refine zz ?_
   exact hG3 _ _ _ _ (zG []) (J3 x_2 eD hr)
  refine zz ?_
  refine zk hr rfl (fun h4 hr=> ?_) (fun h4 hr=> ?_)
  ·obtain⟨cD,h_5,hr⟩:=aC hr
   refine zz ?_
   exact hG2 _ _ _ _ (zG []) (J2 cD (aVP.wrap (vn+16)) hr)
  refine zz ?_
  exact hG2 _ _ _ _ (zG []) (J2 x_1 vn hr)
 refine zz ?_
 refine zk hr rfl (fun h6 hr=> ?_) (fun h6 hr=> ?_)
 ·obtain⟨x6,h_7,hr⟩:=aC hr
  refine zz ?_
  exact hG1 _ _ _ _ (zG []) (J1 x6 32 hr)
 refine zz ?_
 exact hG1 _ _ _ _ (zG []) (J1 x 0 hr)
theorem aMC {N:Nat}{va:List Int}{r:Int}(hr:aDd N va=some r):
  Vm.Fn Tryz.prog 166 [] [(.agg (va.map (eI .u64)))] (eI .i64 r) []:=by
 refine zf Tryz.func166 Tryz.ntmps166 ?_
 unfold aDd at hr
 refine zz ?_
 refine aVU fun K1 hK1 hG1=> ?_
 have J1:aB3 N=some r→K1 (aI 19 []) []:=by
  intro hr
  unfold aB3 at hr
  refine hK1 _ _ ?_
  refine zz ?_
  obtain rfl:=sj hr
  exact bI Tryz.results166 []
 obtain⟨bQ,hL2,hr⟩:=aC hr
 refine zz ?_
 refine aVR<|aVW (fun m s h=> ∃(vi:Int),sS N va m vi=some bQ∧Ghost 0 s h (aI 19 [(1,(.ptr 0 0)),(3,(eI .i64 vi))]) [some ⟨135,va.map (eI .u64)⟩]) (n:=N) ⟨3,hL2,(zG [0])⟩ (by rintro s h ⟨_,h0,_⟩;simp[sS]at h0) ?_
 rintro m2 s h ⟨vi,hr2,hg⟩
 refine aVV hg ?_
 clear hg hL2
 rw[sS]at hr2
 refine aVT ?_
 refine zz ?_
 refine zk hr2 rfl (fun h1 hr2=> ?_) (fun h1 hr2=> ?_)
 ·refine zz ?_
  refine aVT<|aVR ?_
  obtain⟨x9,h_2,hr2⟩:=aC hr2
  refine zz ?_
  refine zk hr2 rfl (fun h3 hr2=> ?_) (fun h3 hr2=> ?_)
  ·obtain⟨x17,h_4,hr2⟩:=aC hr2
   refine zz ?_
   refine xp (aFF h_4) ?_
   refine zz ?_
   obtain rfl:=sj hr2
   obtain rfl:=sj hr
   exact bI Tryz.results166 []
  refine zz ?_
  exact⟨aVP.wrap (vi-1),hr2,(zG [0])⟩
 refine zz ?_
 obtain rfl:=sj hr2
 refine zz ?_
 exact hG1 _ _ _ _ (zG []) (J1 hr)
theorem aCl {N:Nat}{x y:Int}{r:Int×Int}(hr:lU N x y=some r):
  Vm.Fn Tryz.prog 170 [] [(eI .u64 x),(eI .u64 y)] (.tup [(eI .u64 r.1),(eI .u64 r.2)]) []:=by
 refine zf Tryz.func170 Tryz.ntmps170 ?_
 unfold lU at hr
 obtain⟨x17,h_1,hr⟩:=aC hr
 obtain⟨d9,h_2,hr⟩:=aC hr
 obtain⟨x29,h_3,hr⟩:=aC hr
 obtain⟨cV,h_4,hr⟩:=aC hr
 obtain⟨x46,h_5,hr⟩:=aC hr
 refine zz ?_
 obtain rfl:=sj hr
 exact sZ Tryz.results170 []
theorem lD {N:Nat}{x y c:Int}{r:Int×Int}(hr:d8 N x y c=some r):Vm.Fn Tryz.prog 171 [] [(eI .u64 x),(eI .u64 y),(eI .u64 c)] (.tup [(eI .u64 r.1),(eI .u64 r.2)]) []:=
 aPY Tryz.func171 (by kernel_rfl) (by kernel_rfl) (by kernel_rfl) (by kernel_rfl) hr
theorem aMG {N:Nat}{va b:List Int}{r:(List Int)×(List Int)}(hr:aAs N va b=some r):
  Vm.Fn Tryz.prog 174 [] [(.agg (va.map (eI .u64))),(.agg (b.map (eI .u64)))] (.tup [(.agg (r.1.map (eI .u64))),(.agg (r.2.map (eI .u64)))]) []:=by
 refine zf Tryz.func174 Tryz.ntmps174 ?_
 unfold aAs at hr
 refine zz ?_
 refine aVU fun K1 hK1 hG1=> ?_
 have J1: ∀(l2:List Int),zQ N l2=some r→K1 (aI 69 [(4,(.ptr 0 0)),(5,(.ptr 1 0)),(6,(.ptr 2 0))]) [some ⟨135,(aVO 4 0).map (eI .u64)⟩,some ⟨135,(aVO 4 0).map (eI .u64)⟩,some ⟨167,l2.map (eI .u64)⟩]:=by
  intro l2 hr
  unfold zQ at hr
  refine hK1 _ _<|aVT ?_
  obtain⟨q,h_1,hr⟩:=aC hr
  obtain⟨x63,h_2,hr⟩:=aC hr
  obtain⟨x64,h_3,hr⟩:=aC hr
  obtain⟨x66,h_4,hr⟩:=aC hr
  obtain⟨x67,h_5,hr⟩:=aC hr
  refine AB.rd (fQ []) (fQ []) mixed<|aVQ (n:=7) (i:=0) (by decide +kernel) rfl (gS (v:=(.sl 2 (aV1 4*1) x63.length 1 false)) (sv (cZ rfl rfl rfl (aLM (E:=(eI .u64)) (l:=l2) aGG nA rfl rfl rfl (bE h_1) zl rfl rfl h_2))))<|aVQ (n:=6) (i:=1) (by decide +kernel) rfl (gS (v:=(.ptr 2 (aV1 4*1))) (sv (aFm rfl (apS b8 zl rfl h_3))))<|aVQ (n:=5) (i:=2) (by decide +kernel) rfl (gS (v:=(.agg (x64.map (eI .u64)))) (sv (cA rfl (aNQ (E:=(eI .u64)) (l:=l2) b8 rfl rfl h_2 h_3)))) ?_
  refine aWg (m:=1) (L:=lst [0,1,2,3,4,5,6] 8) (s1:=aI 69 [(4,(.ptr 0 0)),(5,(.ptr 1 0)),(68,(.agg (x67.map (eI .u64))))]) (h1:=[some ⟨135,x64.map (eI .u64)⟩,some ⟨135,(aVO 4 0).map (eI .u64)⟩]) ?_ (fun J=> ?_)
  ·refine aVQ (n:=0) (i:=7) (by decide +kernel) rfl (gN (h':=[some ⟨135,x64.map (eI .u64)⟩,some ⟨135,x67.map (eI .u64)⟩]) (sv (bN rfl rfl (zA (E:=(eI .u64)) (l:=aVO 4 0) b8 rfl rfl (fun _=>rfl) rfl (cQ h_5) rfl))))<|aWd (by decide +kernel) ?_
   refine zz ?_
   obtain rfl:=sj hr
   exact nX Tryz.results174 bH bH (lK [])
  refine aV3 (n:=4) [3,6] (by decide +kernel) (by decide) ?_
  refine(aV0 rfl (gS (v:=(.sl 2 (aV1 0*1) x66.length 1 false)) (sv (cZ rfl rfl rfl (aLM (E:=(eI .u64)) (l:=l2) aGG nA rfl rfl rfl (bE h_1) zl rfl rfl h_4)))) ?_ (aV0 rfl (gN (h':=[some ⟨135,x64.map (eI .u64)⟩,some ⟨135,(aVO 4 0).map (eI .u64)⟩,some ⟨167,l2.map (eI .u64)⟩]) (sv (bN rfl rfl (zA (E:=(eI .u64)) (l:=aVO 4 0) b8 rfl rfl (fun _=>rfl) rfl (cQ h_3) rfl)))) ?_ aV5))
  ·refine aVQ (n:=3) (i:=4) (by decide +kernel) rfl (gS (v:=(.ptr 2 (aV1 0*1))) (sv (aFm rfl (apS b8 zl rfl h_5))))<|aV3 (n:=2) [5,6] (by decide +kernel) (by decide) ?_
   refine(aV0 rfl (gS (v:=(.agg (x67.map (eI .u64)))) (sv (cA rfl (aNQ (E:=(eI .u64)) (l:=l2) b8 rfl rfl h_4 h_5)))) ?_ (aV0 rfl (gN (h':=[some ⟨135,x64.map (eI .u64)⟩,some ⟨135,(aVO 4 0).map (eI .u64)⟩,some ⟨167,l2.map (eI .u64)⟩]) (sv (bN rfl rfl (zA (E:=(eI .u64)) (l:=aVO 4 0) b8 rfl rfl (fun _=>rfl) rfl (cQ h_3) rfl)))) ?_ aV5))
   ·refine aVQ (n:=1) (i:=6) (by decide +kernel) rfl (gN (h':=[some ⟨135,x64.map (eI .u64)⟩,some ⟨135,(aVO 4 0).map (eI .u64)⟩,some ⟨167,l2.map (eI .u64)⟩]) (sv (bN rfl rfl (zA (E:=(eI .u64)) (l:=aVO 4 0) b8 rfl rfl (fun _=>rfl) rfl (cQ h_3) rfl)))) ?_
    exact aV2 (by decide +kernel) (by decide +kernel) (zG [0,1]) J
   refine aVQ (n:=1) (i:=5) (by decide +kernel) rfl (gS (v:=(.agg (x67.map (eI .u64)))) (sv (cA rfl (aNQ (E:=(eI .u64)) (l:=l2) b8 rfl rfl h_4 h_5)))) ?_
   exact aV2 (by decide +kernel) (by decide +kernel) (zG [0,1]) J
  refine aVQ (n:=3) (i:=3) (by decide +kernel) rfl (gS (v:=(.sl 2 (aV1 0*1) x66.length 1 false)) (sv (cZ rfl rfl rfl (aLM (E:=(eI .u64)) (l:=l2) aGG nA rfl rfl rfl (bE h_1) zl rfl rfl h_4))))<|aVQ (n:=2) (i:=4) (by decide +kernel) rfl (gS (v:=(.ptr 2 (aV1 0*1))) (sv (aFm rfl (apS b8 zl rfl h_5))))<|aVQ (n:=1) (i:=5) (by decide +kernel) rfl (gS (v:=(.agg (x67.map (eI .u64)))) (sv (cA rfl (aNQ (E:=(eI .u64)) (l:=l2) b8 rfl rfl h_4 h_5)))) ?_
  exact aV2 (by decide +kernel) (by decide +kernel) (zG [0,1]) J
 obtain⟨bQ,hL2,hr⟩:=aC hr
 refine zz ?_
 refine aVR<|aVW (fun m s h=> ∃(bR:Int)(l4:List Int),kP N va b m bR l4=some bQ∧Ghost 0 s h (aI 69 [(2,(.ptr 0 0)),(3,(.ptr 1 0)),(4,(.ptr 2 0)),(5,(.ptr 3 0)),(6,(.ptr 4 0)),(14,(eI .i64 bR))]) [some ⟨135,va.map (eI .u64)⟩,some ⟨135,b.map (eI .u64)⟩,some ⟨135,(aVO 4 0).map (eI .u64)⟩,some ⟨135,(aVO 4 0).map (eI .u64)⟩,some ⟨167,l4.map (eI .u64)⟩]) (n:=N) ⟨0,aVO 8 0,hL2,(zG [0,1,2,3,4])⟩ (by rintro s h ⟨_,_,h0,_⟩;simp[kP]at h0) ?_
 rintro m2 s h ⟨bR,l4,hr2,hg⟩
 refine aVV hg ?_
 clear hg hL2
 rw[kP]at hr2
 refine zz ?_
 refine aVT ?_
 refine zk hr2 rfl (fun h6 hr2=> ?_) (fun h6 hr2=> ?_)
 ·refine zz ?_
  refine aVU fun K3 hK3 hG3=> ?_
  have J3: ∀(hY:List Int),zX N va b bR (kP N va b m2) hY=some bQ→K3 (aI 69 [(2,(.ptr 0 0)),(3,(.ptr 1 0)),(4,(.ptr 2 0)),(5,(.ptr 3 0)),(6,(.ptr 4 0)),(14,(eI .i64 bR))]) [some ⟨135,va.map (eI .u64)⟩,some ⟨135,b.map (eI .u64)⟩,some ⟨135,(aVO 4 0).map (eI .u64)⟩,some ⟨135,(aVO 4 0).map (eI .u64)⟩,some ⟨167,hY.map (eI .u64)⟩]:=by
   intro hY hr2
   unfold zX at hr2
   refine hK3 _ _ ?_
   refine zz ?_
   exact⟨aVP.wrap (bR+1),hY,hr2,(zG [0,1,2,3,4])⟩
  refine aVR ?_
  refine zz ?_
  refine aVU fun K4 hK4 hG4=> ?_
  have J4: ∀(kY:Int)(aAp:List Int),zU N va b bR (kP N va b m2) kY aAp=some bQ→K4 (aI 69 [(2,(.ptr 0 0)),(3,(.ptr 1 0)),(4,(.ptr 2 0)),(5,(.ptr 3 0)),(6,(.ptr 4 0)),(7,(eI .i64 bR)),(8,(eI .u64 kY)),(14,(eI .i64 bR))]) [some ⟨135,va.map (eI .u64)⟩,some ⟨135,b.map (eI .u64)⟩,some ⟨135,(aVO 4 0).map (eI .u64)⟩,some ⟨135,(aVO 4 0).map (eI .u64)⟩,some ⟨167,aAp.map (eI .u64)⟩]:=by
   intro kY aAp hr2
   unfold zU at hr2
   refine hK4 _ _ ?_
   obtain⟨x61,h_7,hr2⟩:=aC hr2
   refine zz ?_
   exact hG3 _ _ _ _ (zG [0,1,2,3,4]) (J3 (aAp.set (aV1 (aVP.wrap (bR+4))) kY) hr2)
  obtain⟨res5,hL5,hr2⟩:=aC hr2
  refine zz ?_
  refine aVR<|aVW (fun m s h=> ∃(carry_1 x17:Int)(l4_3:List Int),dJ N va b bR m carry_1 x17 l4_3=some res5∧Ghost 0 s h (aI 69 [(2,(.ptr 0 0)),(3,(.ptr 1 0)),(4,(.ptr 2 0)),(5,(.ptr 3 0)),(6,(.ptr 4 0)),(7,(eI .i64 bR)),(8,(eI .u64 carry_1)),(14,(eI .i64 bR)),(17,(eI .i64 x17))]) [some ⟨135,va.map (eI .u64)⟩,some ⟨135,b.map (eI .u64)⟩,some ⟨135,(aVO 4 0).map (eI .u64)⟩,some ⟨135,(aVO 4 0).map (eI .u64)⟩,some ⟨167,l4_3.map (eI .u64)⟩]) (n:=N) ⟨0,0,l4,hL5,(zG [0,1,2,3,4])⟩ (by rintro s h ⟨_,_,_,h0,_⟩;simp[dJ]at h0) ?_
  rintro m5 s h ⟨carry_1,x17,l4_3,hr5,hg⟩
  refine aVV hg ?_
  clear hg hL5
  rw[dJ]at hr5
  refine zz ?_
  refine aVT ?_
  refine zk hr5 rfl (fun h8 hr5=> ?_) (fun h8 hr5=> ?_)
  ·refine zz ?_
   refine aVT<|aVR ?_
   refine zz ?_
   refine aVT ?_
   obtain⟨bX,h_9,hr5⟩:=aC hr5
   obtain⟨x25,h_10,hr5⟩:=aC hr5
   obtain⟨x27,h_11,hr5⟩:=aC hr5
   refine aV8 mixed [170] [] [[0,1,2,3,4,5,6,7,8,9,10,11]] ?_
   refine zz ?_
   refine xu (aCl h_11) ?_
   obtain⟨x35,h_13,hr5⟩:=aC hr5
   obtain⟨x37,h_14,hr5⟩:=aC hr5
   refine zz ?_
   refine xp (lD h_14) ?_
   obtain⟨x46,h_15,hr5⟩:=aC hr5
   refine zz ?_
   refine xp (lD h_15) ?_
   refine zz ?_
   exact⟨aWe.wrap ((aWe.wrap (x27.1+x37.2))+x46.2),aVP.wrap (x17+1),l4_3.set (aV1 (aVP.wrap (bR+x17))) x46.1,hr5,(zG [0,1,2,3,4])⟩
  refine zz ?_
  obtain rfl:=sj hr5
  refine zz ?_
  exact hG4 _ _ _ _ (zG [0,1,2,3,4]) (J4 carry_1 l4_3 hr2)
 refine zz ?_
 obtain rfl:=sj hr2
 refine zz ?_
 exact hG1 _ _ _ _ (zG [2,3,4]) (J1 l4 hr)
theorem aEt {N:Nat}{va:List Int}{low:Int}{r:(List Int)×Int}(hr:sQ N va low=some r):
  Vm.Fn Tryz.prog 179 [] [(.agg (va.map (eI .u64))),(eI .u64 low)] (.tup [(.agg (r.1.map (eI .u64))),(eI .u64 r.2)]) []:=by
 refine zf Tryz.func179 Tryz.ntmps179 ?_
 unfold sQ at hr
 refine zz ?_
 refine aVU fun K1 hK1 hG1=> ?_
 have J1: ∀(aHN:Int)(l0:List Int),yU N aHN l0=some r→K1 (aI 25 [(1,(eI .u64 aHN)),(2,(.ptr 0 0)),(4,(.ptr 1 0))]) [some ⟨135,l0.map (eI .u64)⟩,some ⟨135,(aVO 4 0).map (eI .u64)⟩]:=by
  intro aHN l0 hr
  unfold yU at hr
  refine hK1 _ _ ?_
  obtain⟨q,h_1,hr⟩:=aC hr
  refine zz ?_
  obtain rfl:=sj hr
  exact nX Tryz.results179 bH bH (lK [])
 obtain⟨bQ,hL2,hr⟩:=aC hr
 refine zz ?_
 refine aVR<|aVW (fun m s h=> ∃(low_2 x7:Int)(aS:List Int),nN N m low_2 x7 aS=some bQ∧Ghost 0 s h (aI 25 [(1,(eI .u64 low_2)),(2,(.ptr 0 0)),(4,(.ptr 1 0)),(7,(eI .i64 x7))]) [some ⟨135,aS.map (eI .u64)⟩,some ⟨135,(aVO 4 0).map (eI .u64)⟩]) (n:=N) ⟨low,0,va,hL2,(zG [0,1])⟩ (by rintro s h ⟨_,_,_,h0,_⟩;simp[nN]at h0) ?_
 rintro m2 s h ⟨low_2,x7,aS,hr2,hg⟩
 refine aVV hg ?_
 clear hg hL2
 rw[nN]at hr2
 refine zz ?_
 refine aVT ?_
 refine zk hr2 rfl (fun h2 hr2=> ?_) (fun h2 hr2=> ?_)
 ·refine zz ?_
  refine aVT<|aVR ?_
  obtain⟨fC,h_3,hr2⟩:=aC hr2
  obtain⟨bR,h_4,hr2⟩:=aC hr2
  obtain⟨bS,h_5,hr2⟩:=aC hr2
  refine zz ?_
  refine aV8 mixed [] [] [[0,1,2,3,4,5,6,7,8,9,10,11,12,13]] ?_
  refine zz ?_
  exact⟨bS,aVP.wrap (x7+1),aS.set (aV1 x7) (bits .or .u64 bR low_2),hr2,(zG [0,1])⟩
 refine zz ?_
 obtain rfl:=sj hr2
 refine zz ?_
 exact hG1 _ _ _ _ (zG [0,1]) (J1 low_2 aS hr)
theorem aCc {N:Nat}{x y c:Int}{r:Int×Int}(hr:sD N x y c=some r):Vm.Fn Tryz.prog 141 [] [(eI .u64 x),(eI .u64 y),(eI .u64 c)] (.tup [(eI .u64 r.1),(eI .u64 r.2)]) []:=
 aQD Tryz.func141 (by kernel_rfl) (by kernel_rfl) (by kernel_rfl) (by kernel_rfl) hr
theorem aEj {N:Nat}{va b:List Int}{r:(List Int)×Bool}(hr:sV N va b=some r):
  Vm.Fn Tryz.prog 150 [] [(.agg (va.map (eI .u64))),(.agg (b.map (eI .u64)))] (.tup [(.agg (r.1.map (eI .u64))),(eB r.2)]) []:=by
 refine zf Tryz.func150 Tryz.ntmps150 ?_
 unfold sV at hr
 refine zz ?_
 refine aVU fun K1 hK1 hG1=> ?_
 have J1: ∀(borrow:Int)(l1:List Int),zI N borrow l1=some r→K1 (aI 29 [(4,(.ptr 0 0)),(6,(.ptr 1 0)),(7,(eI .u64 borrow))]) [some ⟨135,(aVO 4 0).map (eI .u64)⟩,some ⟨135,l1.map (eI .u64)⟩]:=by
  intro borrow l1 hr
  unfold zI at hr
  refine hK1 _ _ ?_
  obtain⟨q,h_1,hr⟩:=aC hr
  refine zz ?_
  obtain rfl:=sj hr
  exact nX Tryz.results150 bH bH (lK [])
 obtain⟨bQ,hL2,hr⟩:=aC hr
 refine zz ?_
 refine aVR<|aVW (fun m s h=> ∃(borrow_1 x9:Int)(l3:List Int),kU N va b m borrow_1 x9 l3=some bQ∧Ghost 0 s h (aI 29 [(2,(.ptr 0 0)),(3,(.ptr 1 0)),(4,(.ptr 2 0)),(6,(.ptr 3 0)),(7,(eI .u64 borrow_1)),(9,(eI .i64 x9))]) [some ⟨135,va.map (eI .u64)⟩,some ⟨135,b.map (eI .u64)⟩,some ⟨135,(aVO 4 0).map (eI .u64)⟩,some ⟨135,l3.map (eI .u64)⟩]) (n:=N) ⟨0,0,aVO 4 0,hL2,(zG [0,1,2,3])⟩ (by rintro s h ⟨_,_,_,h0,_⟩;simp[kU]at h0) ?_
 rintro m2 s h ⟨borrow_1,x9,l3,hr2,hg⟩
 refine aVV hg ?_
 clear hg hL2
 rw[kU]at hr2
 refine zz ?_
 refine aVT ?_
 refine zk hr2 rfl (fun h2 hr2=> ?_) (fun h2 hr2=> ?_)
 ·refine zz ?_
  refine aVT<|aVR ?_
  obtain⟨x15,h_3,hr2⟩:=aC hr2
  obtain⟨x18,h_4,hr2⟩:=aC hr2
  obtain⟨d9,h_5,hr2⟩:=aC hr2
  obtain⟨fG,h_7,hr2⟩:=aC hr2
  refine zz ?_
  refine aV8 mixed [141] [] [[0,1,2,3,4,5,6,7,8,9,10,11,12,13,14]] ?_
  refine zz ?_
  refine xu (aCc h_5) ?_
  refine zz ?_
  exact⟨d9.2,aVP.wrap (x9+1),l3.set (aV1 x9) d9.1,hr2,(zG [0,1,2,3])⟩
 refine zz ?_
 obtain rfl:=sj hr2
 refine zz ?_
 exact hG1 _ _ _ _ (zG [2,3]) (J1 borrow_1 l3 hr)
theorem aGW {N:Nat}{hi lo b:List Int}{r:(List Int)×(List Int)×Bool}(hr:aBO N hi lo b=some r):
  Vm.Fn Tryz.prog 175 [] [(.agg (hi.map (eI .u64))),(.agg (lo.map (eI .u64))),(.agg (b.map (eI .u64)))] (.tup [(.agg (r.1.map (eI .u64))),(.agg (r.2.1.map (eI .u64))),(eB r.2.2)]) []:=by
 refine zf Tryz.func175 Tryz.ntmps175 ?_
 unfold aBO at hr
 refine zz ?_
 refine AB.scope<|aVT ?_
 obtain⟨q,h_1,hr⟩:=aC hr
 obtain⟨q_1,h_2,hr⟩:=aC hr
 obtain⟨x16,h_3,hr⟩:=aC hr
 refine zz ?_
 refine xp (vA h_3) ?_
 refine zz ?_
 refine zk hr rfl (fun h4 hr=> ?_) (fun h4 hr=> ?_)
 ·refine zz ?_
  refine xw (v:=(.agg ([0,0,0,0].map (eI .u64)))) (cE rfl (nB b8 nA rfl))<|xw (v:=(.agg ([0,0,0,0].map (eI .u64)))) (cE rfl (nB b8 nA rfl)) ?_
  refine zz ?_
  obtain rfl:=sj hr
  exact wP Tryz.results175 bH bH bH (lK [])
 refine zz ?_
 refine xw (v:=(.agg ([0,0,0,0].map (eI .u64)))) (cE rfl (nB b8 nA rfl)) ?_
 refine zz ?_
 refine aVT<|AB.label ?_
 refine zz ?_
 refine aVU fun K1 hK1 hG1=> ?_
 have J1: ∀(l0 l1:List Int),aBV N l0 l1=some r→K1 (aI 72 [(6,(.ptr 0 0)),(7,(.ptr 1 0))]) [some ⟨135,l0.map (eI .u64)⟩,some ⟨135,l1.map (eI .u64)⟩]:=by
  intro l0 l1 hr
  unfold aBV at hr
  refine hK1 _ _<|aVT ?_
  obtain⟨q_2,h_5,hr⟩:=aC hr
  obtain⟨q_3,h_6,hr⟩:=aC hr
  refine AB.rd (fQ []) (fQ []) mixed<|aVQ (n:=4) (i:=0) (by decide +kernel) rfl (gS (v:=(.agg (l0.map (eI .u64)))) (sv (cA rfl (ldA (E:=(eI .u64)) (l:=l0) b8 rfl rfl (bE h_5))))) ?_
  refine aWg (m:=2) (L:=lst [0,1,2] 5) (s1:=aI 72 [(6,(.ptr 0 0)),(7,(.ptr 1 0)),(71,(.agg (l1.map (eI .u64))))]) (h1:=[some ⟨135,l0.map (eI .u64)⟩,some ⟨135,l1.map (eI .u64)⟩]) ?_ (fun J=> ?_)
  ·refine aVQ (n:=1) (i:=3) (by decide +kernel) rfl (gN (h':=[some ⟨135,l0.map (eI .u64)⟩,some ⟨135,l1.map (eI .u64)⟩]) (sv (bN rfl rfl (zA (E:=(eI .u64)) (l:=l1) b8 rfl rfl (fun _=>rfl) (bE h_6) (bE h_6) rfl))))<|aVQ (n:=0) (i:=4) (by decide +kernel) rfl (gS (v:=(eB true)) (sv (pA rfl)))<|aWd (by decide +kernel) ?_
   refine zz ?_
   obtain rfl:=sj hr
   exact wP Tryz.results175 bH bH bH (lK [])
  refine aV3 (n:=3) [1,2] (by decide +kernel) (by decide) ?_
  refine(aV0 rfl (gS (v:=(.agg (l1.map (eI .u64)))) (sv (cA rfl (ldA (E:=(eI .u64)) (l:=l1) b8 rfl rfl (bE h_6))))) ?_ (aV0 rfl (gN (h':=[some ⟨135,l0.map (eI .u64)⟩,some ⟨135,l1.map (eI .u64)⟩]) (sv (bN rfl rfl (zA (E:=(eI .u64)) (l:=l0) b8 rfl rfl (fun _=>rfl) (bE h_5) (bE h_5) rfl)))) ?_ aV5))
  ·refine aVQ (n:=2) (i:=2) (by decide +kernel) rfl (gN (h':=[some ⟨135,l0.map (eI .u64)⟩,some ⟨135,l1.map (eI .u64)⟩]) (sv (bN rfl rfl (zA (E:=(eI .u64)) (l:=l0) b8 rfl rfl (fun _=>rfl) (bE h_5) (bE h_5) rfl)))) ?_
   exact aV2 (by decide +kernel) (by decide +kernel) (zG [0,1]) J
  refine aVQ (n:=2) (i:=1) (by decide +kernel) rfl (gS (v:=(.agg (l1.map (eI .u64)))) (sv (cA rfl (ldA (E:=(eI .u64)) (l:=l1) b8 rfl rfl (bE h_6))))) ?_
  exact aV2 (by decide +kernel) (by decide +kernel) (zG [0,1]) J
 obtain⟨bQ,hL2,hr⟩:=aC hr
 refine zz ?_
 refine aVR<|aVW (fun m s h=> ∃(dB:Int)(aS l2 l3:List Int),oC N b m dB aS l2 l3=some bQ∧Ghost 0 s h (aI 72 [(4,(.ptr 0 0)),(5,(.ptr 1 0)),(6,(.ptr 2 0)),(7,(.ptr 3 0)),(9,(.ptr 4 0)),(10,(eI .i64 dB))]) [some ⟨135,aS.map (eI .u64)⟩,some ⟨135,b.map (eI .u64)⟩,some ⟨135,l2.map (eI .u64)⟩,some ⟨135,l3.map (eI .u64)⟩,some ⟨135,[0,0,0,0].map (eI .u64)⟩]) (n:=N) ⟨3,lo,aVO 4 0,hi,hL2,(zG [1,2,3,4,5])⟩ (by rintro s h ⟨_,_,_,_,h0,_⟩;simp[oC]at h0) ?_
 rintro m2 s h ⟨dB,aS,l2,l3,hr2,hg⟩
 refine aVV hg ?_
 clear hg hL2
 rw[oC]at hr2
 refine aVT ?_
 refine zz ?_
 refine zk hr2 rfl (fun h7 hr2=> ?_) (fun h7 hr2=> ?_)
 ·refine zz ?_
  refine aVU fun K3 hK3 hG3=> ?_
  have J3: ∀(fM i9 eZ:List Int),aBW N b dB (oC N b m2) fM i9 eZ=some bQ→K3 (aI 72 [(4,(.ptr 0 0)),(5,(.ptr 1 0)),(6,(.ptr 2 0)),(7,(.ptr 3 0)),(9,(.ptr 4 0)),(10,(eI .i64 dB))]) [some ⟨135,fM.map (eI .u64)⟩,some ⟨135,b.map (eI .u64)⟩,some ⟨135,i9.map (eI .u64)⟩,some ⟨135,eZ.map (eI .u64)⟩,some ⟨135,[0,0,0,0].map (eI .u64)⟩]:=by
   intro fM i9 eZ hr2
   unfold aBW at hr2
   refine hK3 _ _ ?_
   refine zz ?_
   exact⟨aVP.wrap (dB-1),fM,i9,eZ,hr2,(zG [0,1,2,3,4])⟩
  refine aVR ?_
  obtain⟨res4,hL4,hr2⟩:=aC hr2
  refine zz ?_
  refine aVR<|aVW (fun m s h=> ∃(bit:Int)(fX j5 jU:List Int),dV N b dB m bit fX j5 jU=some res4∧Ghost 0 s h (aI 72 [(4,(.ptr 0 0)),(5,(.ptr 1 0)),(6,(.ptr 2 0)),(7,(.ptr 3 0)),(9,(.ptr 4 0)),(10,(eI .i64 dB)),(11,(eI .i64 bit))]) [some ⟨135,fX.map (eI .u64)⟩,some ⟨135,b.map (eI .u64)⟩,some ⟨135,j5.map (eI .u64)⟩,some ⟨135,jU.map (eI .u64)⟩,some ⟨135,[0,0,0,0].map (eI .u64)⟩]) (n:=N) ⟨63,aS,l2,l3,hL4,(zG [0,1,2,3,4])⟩ (by rintro s h ⟨_,_,_,_,h0,_⟩;simp[dV]at h0) ?_
  rintro m4 s h ⟨bit,fX,j5,jU,hr4,hg⟩
  refine aVV hg ?_
  clear hg hL4
  rw[dV]at hr4
  refine aVT ?_
  refine zz ?_
  refine zk hr4 rfl (fun h8 hr4=> ?_) (fun h8 hr4=> ?_)
  ·refine zz ?_
   refine aVU fun K5 hK5 hG5=> ?_
   have J5: ∀(aJr aI6 aJh:List Int),vD N b dB bit (dV N b dB m4) aJr aI6 aJh=some res4→K5 (aI 72 [(4,(.ptr 0 0)),(5,(.ptr 1 0)),(6,(.ptr 2 0)),(7,(.ptr 3 0)),(9,(.ptr 4 0)),(10,(eI .i64 dB)),(11,(eI .i64 bit))]) [some ⟨135,aJr.map (eI .u64)⟩,some ⟨135,b.map (eI .u64)⟩,some ⟨135,aI6.map (eI .u64)⟩,some ⟨135,aJh.map (eI .u64)⟩,some ⟨135,[0,0,0,0].map (eI .u64)⟩]:=by
    intro aJr aI6 aJh hr4
    unfold vD at hr4
    refine hK5 _ _ ?_
    refine zz ?_
    exact⟨aVP.wrap (bit-1),aJr,aI6,aJh,hr4,(zG [0,1,2,3,4])⟩
   refine aVR<|aVT ?_
   refine aVU fun K6 hK6 hG6=> ?_
   have J6: ∀(x37:Bool),vC N b dB bit fX j5 jU (dV N b dB m4) x37=some res4→K6 (aI 72 [(4,(.ptr 0 0)),(5,(.ptr 1 0)),(6,(.ptr 2 0)),(7,(.ptr 3 0)),(9,(.ptr 4 0)),(10,(eI .i64 dB)),(11,(eI .i64 bit)),(37,(eB x37))]) [some ⟨135,fX.map (eI .u64)⟩,some ⟨135,b.map (eI .u64)⟩,some ⟨135,j5.map (eI .u64)⟩,some ⟨135,jU.map (eI .u64)⟩,some ⟨135,[0,0,0,0].map (eI .u64)⟩]:=by
    intro x37 hr4
    unfold vC at hr4
    refine hK6 _ _ ?_
    refine zk hr4 rfl (fun h9 hr4=> ?_) (fun h9 hr4=> ?_)
    ·refine zz ?_
     obtain rfl:=sj hr4
     obtain rfl:=sj hr2
     refine zz ?_
     exact hG1 _ _ _ _ (zG [2,3]) (J1 j5 jU hr)
    obtain⟨q_4,h_10,hr4⟩:=aC hr4
    obtain⟨x40,h_11,hr4⟩:=aC hr4
    obtain⟨q_5,h_12,hr4⟩:=aC hr4
    refine zz ?_
    refine xp (aEt h_11) ?_
    obtain⟨q_6,h_13,hr4⟩:=aC hr4
    obtain⟨x46,h_14,hr4⟩:=aC hr4
    obtain⟨q_7,h_15,hr4⟩:=aC hr4
    refine zz ?_
    refine xp (aEt h_14) ?_
    refine zz ?_
    refine aVU fun K7 hK7 hG7=> ?_
    have J7: ∀(x56:Bool),sT N b dB bit j5 x40 x46 (dV N b dB m4) x56=some res4→K7 (aI 72 [(4,(.ptr 0 0)),(5,(.ptr 1 0)),(6,(.ptr 2 0)),(7,(.ptr 3 0)),(9,(.ptr 4 0)),(10,(eI .i64 dB)),(11,(eI .i64 bit)),(56,(eB x56))]) [some ⟨135,x40.1.map (eI .u64)⟩,some ⟨135,b.map (eI .u64)⟩,some ⟨135,j5.map (eI .u64)⟩,some ⟨135,x46.1.map (eI .u64)⟩,some ⟨135,[0,0,0,0].map (eI .u64)⟩]:=by
     intro x56 hr4
     unfold sT at hr4
     refine hK7 _ _ ?_
     refine zk hr4 rfl (fun h16 hr4=> ?_) (fun h16 hr4=> ?_)
     ·obtain⟨x60,h_17,hr4⟩:=aC hr4
      obtain⟨q_8,h_18,hr4⟩:=aC hr4
      refine zz ?_
      refine xp (aEj h_17) ?_
      obtain⟨x64,h_19,hr4⟩:=aC hr4
      obtain⟨x67,h_20,hr4⟩:=aC hr4
      refine zz ?_
      refine aV8 mixed [] [] [[0,1,2,3,4,5,6,7]] ?_
      refine zz ?_
      exact hG5 _ _ _ _ (zG [0,1,2,3,4]) (J5 x40.1 (j5.set (aV1 dB) (bits .or .u64 x64 x67)) x60.1 hr4)
     refine zz ?_
     exact hG5 _ _ _ _ (zG [0,1,2,3,4]) (J5 x40.1 j5 x46.1 hr4)
    rcases aVS (x46.2 != 0)with h21|h21
    ·replace hr4:=dD hr4 h21
     refine xr ?_
     refine zz ?_
     exact hG7 _ _ _ _ (zG [0,1,2,3,4]) (J7 true hr4)
    replace hr4:=dA hr4 h21
    obtain⟨x54,h_22,hr4⟩:=aC hr4
    refine xr ?_
    refine zz ?_
    refine xCg (v:=(eI .i64 x54)) (h':=[some ⟨135,x40.1.map (eI .u64)⟩,some ⟨135,b.map (eI .u64)⟩,some ⟨135,j5.map (eI .u64)⟩,some ⟨135,x46.1.map (eI .u64)⟩,some ⟨135,[0,0,0,0].map (eI .u64)⟩]) rfl rfl h21 rfl (Vm.Fn.pure (vA h_22) zR rfl) ?_
    refine zz ?_
    exact hG7 _ _ _ _ (zG [0,1,2,3,4]) (J7 (decide (0≤x54)) hr4)
   obtain⟨q_9,h_23,hr4⟩:=aC hr4
   rcases aVS (jU == [0,0,0,0])with h24|h24
   ·replace hr4:=dD hr4 h24
    obtain⟨aUH,h_25,hr4⟩:=aC hr4
    refine xr ?_
    refine zz ?_
    exact hG6 _ _ _ _ (zG [0,1,2,3,4]) (J6 (fX == [0,0,0,0]) hr4)
   replace hr4:=dA hr4 h24
   refine xr ?_
   refine zz ?_
   exact hG6 _ _ _ _ (zG [0,1,2,3,4]) (J6 false hr4)
  refine zz ?_
  obtain rfl:=sj hr4
  refine zz ?_
  exact hG3 _ _ _ _ (zG [0,1,2,3,4]) (J3 fX j5 jU hr2)
 refine zz ?_
 obtain rfl:=sj hr2
 refine zz ?_
 exact hG1 _ _ _ _ (zG [2,3]) (J1 l2 l3 hr)
theorem aBJ {N:Nat}{va vm:List Int}{r:(List Int)}(hr:sW N va vm=some r):
  Vm.Fn Tryz.prog 176 [] [(.agg (va.map (eI .u64))),(.agg (vm.map (eI .u64)))] (.agg (r.map (eI .u64))) []:=by
 refine zf Tryz.func176 Tryz.ntmps176 ?_
 unfold sW at hr
 refine zz ?_
 refine aVT ?_
 obtain⟨q,h_1,hr⟩:=aC hr
 obtain⟨q_1,h_2,hr⟩:=aC hr
 obtain⟨cD,h_3,hr⟩:=aC hr
 refine zz ?_
 refine xp (vA h_3) ?_
 refine zz ?_
 refine zk hr rfl (fun h4 hr=> ?_) (fun h4 hr=> ?_)
 ·refine zz ?_
  obtain rfl:=sj hr
  exact iA Tryz.results176 bH (zG [])
 obtain⟨x17,h_5,hr⟩:=aC hr
 obtain⟨q_2,h_6,hr⟩:=aC hr
 obtain⟨q_3,h_7,hr⟩:=aC hr
 refine zz ?_
 refine xw (v:=(.agg ([0,0,0,0].map (eI .u64)))) (cE rfl (nB b8 nA rfl)) ?_
 refine zz ?_
 refine xp (aGW h_5) ?_
 refine zz ?_
 obtain rfl:=sj hr
 exact iA Tryz.results176 bH (zG [])
end Go.Proofs.YtbjiaghljpoliaaGreatDoor
