/- Texts of ours, joined: Wk1. -/
import Derived.Test.YtbjiaghljpoliaaGreatDoorQSpendChecks5
open List renaming replicate → aXj,length_map → aXC
open Go.IntKind renaming i64 → aXk,u32 → aXt,max → aXH,u64 → aXJ
open Go.Vm.DrawG renaming pick → aXl,jg → aXx,fork → aXy,nil → aXI,jn → aXL
open Go.Vm.AB renaming block → aXm,seq → aXo,seq_g → aXp,ghost → aXq,loopN → aXr,rs → aXD
open Bool renaming eq_false_or_eq_true → aXn
open Go.Vm.Conv renaming same → aXs,row → aXG,agg → aXM
open Go.Vm.Convs renaming cons → aXu,nil → aXE
open Go.Vm.Fork renaming cons → aXv,nil → aXA
open Int renaming toNat → aXw
open Go.Vm.FCv renaming cons → aXz
open Go.Vm.Ghost renaming trans → aXB,virt → aXK
open Go.Vm.OpsX renaming ghost → aXF
set_option linter.unusedVariables false
set_option linter.unusedSimpArgs false
set_option maxRecDepth 20000
set_option maxHeartbeats 1000000
namespace Go.Proofs.YtbjiaghljpoliaaGreatDoor
open Go Go.Vm
theorem aBr {N:Nat}{vn d6:Int}{r:(List Int)}(hr:rO N vn d6=some r):
  Vm.Fn Tryz.prog 78 [] [(eI .u64 vn),(eI .i64 d6)] (.sl 0 0 r.length 1 false) [some ⟨5,r.map (eI .u8)⟩]:=by
 refine zf Tryz.func78 Tryz.ntmps78 ?_
 unfold rO at hr
 obtain⟨x8,h_1,hr⟩:=aD hr
 refine zz ?_
 refine xw (v:=(.sl 0 0 x8.length 1 false)) (h':=[some ⟨5,x8.map (eI .u8)⟩]) (aKf rfl rfl (mkS (E:=(eI .u8)) (y:=0) dB dO ⟨zl,rfl,rfl⟩ rfl rfl rfl h_1 rfl rfl)) ?_
 refine zz ?_
 refine aXp fun K1 hK1 hG1=> ?_
 have J1: ∀(l0:List Int),xE N l0=some r→K1 (aI 23 [(5,(.sl 0 0 l0.length 1 false))]) [some ⟨5,l0.map (eI .u8)⟩]:=by
  intro l0 hr
  unfold xE at hr
  refine hK1 _ _ ?_
  refine zz ?_
  obtain rfl:=sj hr
  exact bE Tryz.results78 [0]
 obtain⟨bL,hL2,hr⟩:=aD hr
 refine zz ?_
 refine aXm<|aXr (fun m s h=> ∃(cD:Int)(aS:List Int),kO N vn d6 m cD aS=some bL∧Ghost 0 s h (aI 23 [(0,(eI .u64 vn)),(5,(.sl 0 0 aS.length 1 false)),(9,(eI .i64 d6)),(10,(eI .i64 cD))]) [some ⟨5,aS.map (eI .u8)⟩]) (n:=N) ⟨0,x8,hL2,(zG [0])⟩ (by rintro s h ⟨_,_,h0,_⟩;simp[kO]at h0) ?_
 rintro m2 s h ⟨cD,aS,hr2,hg⟩
 refine aXq hg ?_
 clear hg hL2
 rw[kO]at hr2
 refine zz ?_
 refine aXo ?_
 refine zk hr2 rfl (fun h2 hr2=> ?_) (fun h2 hr2=> ?_)
 ·refine zz ?_
  refine aXo<|aXm ?_
  obtain⟨x18,h_3,hr2⟩:=aD hr2
  obtain⟨bT,h_4,hr2⟩:=aD hr2
  refine zz ?_
  exact⟨aXk.wrap (cD+1),aS.set (aXw cD) (IntKind.u8.wrap x18),hr2,(lU [0])⟩
 refine zz ?_
 obtain rfl:=sj hr2
 refine zz ?_
 exact hG1 _ _ _ _ (zG [0]) (J1 aS hr)
theorem i9 {N:Nat}{b vs:List Int}{r:(List Int)}(hr:gX N b vs=some r):
  Vm.Fn Tryz.prog 77 [] [(.row none 1 (b.map (eI .u8))),(.row none 1 (vs.map (eI .u8)))] (.sl 0 0 r.length 1 false) [some ⟨5,r.map (eI .u8)⟩]:=by
 refine zf Tryz.func77 Tryz.ntmps77 ?_
 unfold gX at hr
 obtain⟨b4,h_1,hr⟩:=aD hr
 refine zz ?_
 refine xw (v:=(.sl 0 0 0 1 false)) (h':=[some ⟨5,b4.map (eI .u8)⟩]) (aKf rfl rfl (mkC (E:=(eI .u8)) (y:=0) dB dO ⟨zl,rfl,rfl⟩ rfl rfl rfl h_1 rfl rfl)) ?_
 obtain⟨bQ,h_2,hr⟩:=aD hr
 refine zz ?_
 refine xw (v:=(.sl 1 0 bQ.length 1 false)) (h':=[none,some ⟨5,bQ.map (eI .u8)⟩]) (yC rfl rfl (aUL (E:=(eI .u8)) (Nat.zero_le _) dB dO ⟨rfl,rfl,zl⟩ rfl (aEA (fun _=>rfl)) h_2 rfl rfl)) ?_
 obtain⟨x17,h_3,hr⟩:=aD hr
 refine zz ?_
 obtain rfl:=sj hr
 exact bE Tryz.results77 [2]
theorem lP {N:Nat}{b:List Int}{vn:Int}{r:(List Int)}(hr:g9 N b vn=some r):
  Vm.Fn Tryz.prog 49 [] [(.row none 1 (b.map (eI .u8))),(eI .u32 vn)] (.sl 0 0 r.length 1 false) [some ⟨5,r.map (eI .u8)⟩]:=by
 refine zf Tryz.func49 Tryz.ntmps49 ?_
 unfold g9 at hr
 obtain⟨x8,h_1,hr⟩:=aD hr
 obtain⟨x9,h_2,hr⟩:=aD hr
 refine zz ?_
 refine zc (aBr h_1) [] ?_
 refine jI (i9 h_2) [] [0] ?_
 refine zz ?_
 obtain rfl:=sj hr
 exact bE Tryz.results49 [1]
theorem aG9 {N:Nat}{b:List Int}{vn:Int}{r:(List Int)}(hr:w8 N b vn=some r):
  Vm.Fn Tryz.prog 103 [] [(.row none 1 (b.map (eI .u8))),(eI .u16 vn)] (.sl 0 0 r.length 1 false) [some ⟨5,r.map (eI .u8)⟩]:=by
 refine zf Tryz.func103 Tryz.ntmps103 ?_
 unfold w8 at hr
 obtain⟨x8,h_1,hr⟩:=aD hr
 obtain⟨x9,h_2,hr⟩:=aD hr
 refine zz ?_
 refine zc (aBr h_1) [] ?_
 refine jI (i9 h_2) [] [0] ?_
 refine zz ?_
 obtain rfl:=sj hr
 exact bE Tryz.results103 [1]
theorem y7 {N:Nat}{b:List Int}{vn:Int}{r:(List Int)}(hr:mK N b vn=some r):
  Vm.Fn Tryz.prog 51 [] [(.row none 1 (b.map (eI .u8))),(eI .u64 vn)] (.sl 0 0 r.length 1 false) [some ⟨5,r.map (eI .u8)⟩]:=by
 refine zf Tryz.func51 Tryz.ntmps51 ?_
 unfold mK at hr
 obtain⟨x7,h_1,hr⟩:=aD hr
 obtain⟨x8,h_2,hr⟩:=aD hr
 refine zz ?_
 refine zc (aBr h_1) [] ?_
 refine jI (i9 h_2) [] [0] ?_
 refine zz ?_
 obtain rfl:=sj hr
 exact bE Tryz.results51 [1]
theorem r3 {N:Nat}{b:List Int}{vn:Int}{r:(List Int)}(hr:jP N b vn=some r):
  Vm.Fn Tryz.prog 79 [] [(.row none 1 (b.map (eI .u8))),(eI .u64 vn)] (.sl 0 0 r.length 1 false) [some ⟨5,r.map (eI .u8)⟩]:=by
 refine zf Tryz.func79 Tryz.ntmps79 ?_
 unfold jP at hr
 refine zz ?_
 refine aXo<|aXm ?_
 refine zz ?_
 refine zk hr rfl (fun h1 hr=> ?_) (fun h1 hr=> ?_)
 ·obtain⟨fR,h_2,hr⟩:=aD hr
  refine zz ?_
  refine jI (i9 h_2) [] [0] ?_
  refine zz ?_
  obtain rfl:=sj hr
  exact bE Tryz.results79 [1]
 refine zz ?_
 refine zk hr rfl (fun h3 hr=> ?_) (fun h3 hr=> ?_)
 ·obtain⟨x18,h_4,hr⟩:=aD hr
  obtain⟨d5,h_5,hr⟩:=aD hr
  refine zz ?_
  refine jI (i9 h_4) [] [0] ?_
  refine zz ?_
  refine jI (aG9 h_5) [] [1] ?_
  refine zz ?_
  obtain rfl:=sj hr
  exact bE Tryz.results79 [2]
 refine zz ?_
 refine zk hr rfl (fun h6 hr=> ?_) (fun h6 hr=> ?_)
 ·obtain⟨x27,h_7,hr⟩:=aD hr
  obtain⟨jL,h_8,hr⟩:=aD hr
  refine zz ?_
  refine jI (i9 h_7) [] [0] ?_
  refine zz ?_
  refine jI (lP h_8) [] [1] ?_
  refine zz ?_
  obtain rfl:=sj hr
  exact bE Tryz.results79 [2]
 obtain⟨iA,h_9,hr⟩:=aD hr
 obtain⟨x35,h_10,hr⟩:=aD hr
 refine zz ?_
 refine jI (i9 h_9) [] [0] ?_
 refine zz ?_
 refine jI (y7 h_10) [] [1] ?_
 refine zz ?_
 obtain rfl:=sj hr
 exact bE Tryz.results79 [2]
theorem aGu {N:Nat}{b vh:List Int}{r:(List Int)}(hr:vO N b vh=some r):
  Vm.Fn Tryz.prog 50 [] [(.row none 1 (b.map (eI .u8))),(.agg (vh.map (eI .u8)))] (.sl 0 0 r.length 1 false) [some ⟨5,r.map (eI .u8)⟩]:=by
 refine zf Tryz.func50 Tryz.ntmps50 ?_
 unfold vO at hr
 obtain⟨q,h_1,hr⟩:=aD hr
 obtain⟨x7,h_2,hr⟩:=aD hr
 refine zz ?_
 refine jI (i9 h_2) [] [0] ?_
 refine zz ?_
 obtain rfl:=sj hr
 exact bE Tryz.results50 [1]
theorem aHW {N:Nat}{tG:List Int}{j9:Int}{r:(List Int)}(hr:aCs N tG j9=some r):
  Vm.Fn Tryz.prog 26 [] [(.agg (bG (eI .u8) tG [(eI .u32 j9)]))] (.sl 0 0 r.length 1 false) [some ⟨5,r.map (eI .u8)⟩]:=by
 refine zf Tryz.func26 Tryz.ntmps26 ?_
 unfold aCs at hr
 refine zz ?_
 refine aXo ?_
 obtain⟨q,h_1,hr⟩:=aD hr
 obtain⟨x5,h_2,hr⟩:=aD hr
 obtain⟨x8,h_4,hr⟩:=aD hr
 refine aXD mixed [] [49,50] [[0,1,2,3,4,5,6]] ?_
 refine zz ?_
 refine zg (aGu h_2) [] ?_
 refine zz ?_
 refine zgL (lP h_4) [] [1] ?_
 refine zz ?_
 obtain rfl:=sj hr
 exact bE Tryz.results26 [2]
theorem vN {N:Nat}{b vs:List Int}{r:(List Int)}(hr:kM N b vs=some r):
  Vm.Fn Tryz.prog 52 [] [(.row none 1 (b.map (eI .u8))),(.row none 1 (vs.map (eI .u8)))] (.sl 0 0 r.length 1 false) [some ⟨5,r.map (eI .u8)⟩]:=by
 refine zf Tryz.func52 Tryz.ntmps52 ?_
 unfold kM at hr
 obtain⟨x9,h_1,hr⟩:=aD hr
 obtain⟨b4,h_2,hr⟩:=aD hr
 refine zz ?_
 refine zc (r3 h_1) [] ?_
 refine zz ?_
 refine jI (i9 h_2) [] [0] ?_
 refine zz ?_
 obtain rfl:=sj hr
 exact bE Tryz.results52 [1]
theorem aHf {N:Nat}{aC:Int}{aA:List aG}{aB:List aF}{aE:Int}{bK:Bool}{r:(List Int)}(hr:aA9 N aC aA aB aE bK=some r):
  Vm.Fn Tryz.prog 76 [] [(.agg [(eI .u32 aC),(.row none 35 (aA.map aL)),(.row none 2 (aB.map aM)),(eI .u32 aE)]),(eB bK)] (.sl 0 0 r.length 1 false) [some ⟨5,r.map (eI .u8)⟩]:=by
 refine zf Tryz.func76 Tryz.ntmps76 ?_
 unfold aA9 at hr
 obtain⟨x16,h_1,hr⟩:=aD hr
 refine zz ?_
 refine zc (lP h_1) [] ?_
 obtain⟨bV,h_2,hr⟩:=aD hr
 obtain⟨iD,h_3,hr⟩:=aD hr
 refine zz ?_
 refine zc (r3 h_2) [] ?_
 refine zz ?_
 refine aXp fun K1 hK1 hG1=> ?_
 have J1: ∀(l1:List Int),aBl N aC aA aB aE bK l1=some r→K1 (aI 104 [(1,(eB bK)),(2,(.ptr 0 0)),(5,(.sl 1 0 l1.length 1 false))]) [some ⟨26,[(eI .u32 aC),(.row none 35 (aA.map aL)),(.row none 2 (aB.map aM)),(eI .u32 aE)]⟩,some ⟨5,l1.map (eI .u8)⟩]:=by
  intro l1 hr
  unfold aBl at hr
  refine hK1 _ _ ?_
  obtain⟨x47,h_4,hr⟩:=aD hr
  obtain⟨x48,h_5,hr⟩:=aD hr
  refine zz ?_
  refine zc (r3 h_4) [] ?_
  refine zz ?_
  refine aXp fun K2 hK2 hG2=> ?_
  have J2: ∀(cS:List Int),aBK N aC aA aB aE bK cS=some r→K2 (aI 104 [(1,(eB bK)),(2,(.ptr 0 0)),(5,(.sl 1 0 cS.length 1 false))]) [some ⟨26,[(eI .u32 aC),(.row none 35 (aA.map aL)),(.row none 2 (aB.map aM)),(eI .u32 aE)]⟩,some ⟨5,cS.map (eI .u8)⟩]:=by
   intro cS hr
   unfold aBK at hr
   refine hK2 _ _ ?_
   obtain⟨x71,h_6,hr⟩:=aD hr
   obtain⟨x72,h_7,hr⟩:=aD hr
   refine zz ?_
   refine zc (lP h_6) [] ?_
   refine zz ?_
   refine aXo ?_
   refine zz ?_
   refine zk hr rfl (fun h8 hr=> ?_) (fun h8 hr=> ?_)
   ·refine zz ?_
    obtain rfl:=sj hr
    exact bE Tryz.results76 [3]
   refine zz ?_
   refine aXp fun K3 hK3 hG3=> ?_
   have J3: ∀(l0:List Int),aD4 N l0=some r→K3 (aI 104 [(5,(.sl 0 0 l0.length 1 false))]) [some ⟨5,l0.map (eI .u8)⟩]:=by
    intro l0 hr
    unfold aD4 at hr
    refine hK3 _ _ ?_
    refine zz ?_
    obtain rfl:=sj hr
    exact bE Tryz.results76 [0]
   obtain⟨res4,hL4,hr⟩:=aD hr
   refine zz ?_
   refine aXm<|aXr (fun m s h=> ∃(x79:Int)(aS:List Int),k5 N aA m x79 aS=some res4∧Ghost 0 s h (aI 104 [(5,(.sl 0 0 aS.length 1 false)),(77,(.row none 35 (aA.map aL))),(78,(eI .i64 (aA.length:Int))),(79,(eI .i64 x79))]) [some ⟨5,aS.map (eI .u8)⟩]) (n:=N) ⟨0,x72,hL4,(zG [3])⟩ (by rintro s h ⟨_,_,h0,_⟩;simp[k5]at h0) ?_
   rintro m4 s h ⟨x79,aS,hr4,hg⟩
   refine aXq hg ?_
   clear hg hL4
   rw[k5]at hr4
   refine zz ?_
   refine aXo ?_
   refine zk hr4 rfl (fun h9 hr4=> ?_) (fun h9 hr4=> ?_)
   ·refine zz ?_
    refine aXp fun K5 hK5 hG5=> ?_
    have J5: ∀(fL:List Int),aBZ N aA x79 (k5 N aA m4) fL=some res4→K5 (aI 104 [(5,(.sl 0 0 fL.length 1 false)),(77,(.row none 35 (aA.map aL))),(78,(eI .i64 (aA.length:Int))),(79,(eI .i64 x79))]) [some ⟨5,fL.map (eI .u8)⟩]:=by
     intro fL hr4
     unfold aBZ at hr4
     refine hK5 _ _ ?_
     refine zz ?_
     exact⟨aXk.wrap (x79+1),fL,hr4,(zG [0])⟩
    refine aXm ?_
    obtain⟨x81,h_10,hr4⟩:=aD hr4
    refine zz ?_
    refine xw (v:=(.ptr 1 0)) (h':=[some ⟨5,aS.map (eI .u8)⟩,some ⟨48,(bG (eI .u8) (aXj 32 0) [(eI .u32 0),(eI .u32 0),(.row (some true) 1 [])])⟩]) (cY rG rfl rfl rfl) ?_
    obtain⟨x88,h_11,hr4⟩:=aD hr4
    obtain⟨x89,h_12,hr4⟩:=aD hr4
    refine zz ?_
    refine zc (r3 h_11) [] ?_
    obtain⟨res6,hL6,hr4⟩:=aD hr4
    refine zz ?_
    refine aXm<|aXr (fun m s h=> ∃(x93:Int)(gE:List Int),lZ N aA x79 x81 m x93 gE=some res6∧Ghost 0 s h (aI 104 [(5,(.sl 0 0 gE.length 1 false)),(77,(.row none 35 (aA.map aL))),(78,(eI .i64 (aA.length:Int))),(79,(eI .i64 x79)),(91,(.row none 1 (x81.Witness.map (eL 1 (eI .u8))))),(92,(eI .i64 (x81.Witness.length:Int))),(93,(eI .i64 x93))]) [some ⟨5,gE.map (eI .u8)⟩]) (n:=N) ⟨0,x89,hL6,(zG [3])⟩ (by rintro s h ⟨_,_,h0,_⟩;simp[lZ]at h0) ?_
    rintro m6 s h ⟨x93,gE,hr6,hg⟩
    refine aXq hg ?_
    clear hg hL6
    rw[lZ]at hr6
    refine zz ?_
    refine aXo ?_
    refine zk hr6 rfl (fun h13 hr6=> ?_) (fun h13 hr6=> ?_)
    ·refine zz ?_
     refine aXo<|aXm ?_
     obtain⟨x95,h_14,hr6⟩:=aD hr6
     obtain⟨x99,h_15,hr6⟩:=aD hr6
     obtain⟨aIC,h_16,hr6⟩:=aD hr6
     refine zz ?_
     refine zc (vN h_15) [] ?_
     refine zz ?_
     exact⟨aXk.wrap (x93+1),aIC,hr6,(zG [2])⟩
    refine zz ?_
    obtain rfl:=sj hr6
    refine zz ?_
    exact hG5 _ _ _ _ (zG [0]) (J5 gE hr4)
   refine zz ?_
   obtain rfl:=sj hr4
   refine zz ?_
   exact hG3 _ _ _ _ (zG [0]) (J3 aS hr)
  obtain⟨res7,hL7,hr⟩:=aD hr
  refine zz ?_
  refine aXm<|aXr (fun m s h=> ∃(x52:Int)(l1_2:List Int),mI N aC aA aB aE bK m x52 l1_2=some res7∧Ghost 0 s h (aI 104 [(1,(eB bK)),(2,(.ptr 0 0)),(5,(.sl 1 0 l1_2.length 1 false)),(50,(.row none 2 (aB.map aM))),(51,(eI .i64 (aB.length:Int))),(52,(eI .i64 x52))]) [some ⟨26,[(eI .u32 aC),(.row none 35 (aA.map aL)),(.row none 2 (aB.map aM)),(eI .u32 aE)]⟩,some ⟨5,l1_2.map (eI .u8)⟩]) (n:=N) ⟨0,x48,hL7,(zG [0,3])⟩ (by rintro s h ⟨_,_,h0,_⟩;simp[mI]at h0) ?_
  rintro m7 s h ⟨x52,l1_2,hr7,hg⟩
  refine aXq hg ?_
  clear hg hL7
  rw[mI]at hr7
  refine zz ?_
  refine aXo ?_
  refine zk hr7 rfl (fun h17 hr7=> ?_) (fun h17 hr7=> ?_)
  ·refine zz ?_
   refine aXo<|aXm ?_
   obtain⟨x54,h_18,hr7⟩:=aD hr7
   obtain⟨x60,h_19,hr7⟩:=aD hr7
   obtain⟨x61,h_20,hr7⟩:=aD hr7
   refine zz ?_
   refine zc (y7 h_19) [] ?_
   obtain⟨x65,h_21,hr7⟩:=aD hr7
   obtain⟨x66,h_22,hr7⟩:=aD hr7
   refine zz ?_
   refine zc (vN h_21) [] ?_
   refine zz ?_
   exact⟨aXk.wrap (x52+1),x66,hr7,(zG [0,6])⟩
  refine zz ?_
  obtain rfl:=sj hr7
  refine zz ?_
  exact hG2 _ _ _ _ (zG [0,1]) (J2 l1_2 hr)
 obtain⟨res8,hL8,hr⟩:=aD hr
 refine zz ?_
 refine aXm<|aXr (fun m s h=> ∃(x27:Int)(l1_3:List Int),mB N aC aA aB aE bK m x27 l1_3=some res8∧Ghost 0 s h (aI 104 [(1,(eB bK)),(2,(.ptr 0 0)),(5,(.sl 1 0 l1_3.length 1 false)),(25,(.row none 35 (aA.map aL))),(26,(eI .i64 (aA.length:Int))),(27,(eI .i64 x27))]) [some ⟨26,[(eI .u32 aC),(.row none 35 (aA.map aL)),(.row none 2 (aB.map aM)),(eI .u32 aE)]⟩,some ⟨5,l1_3.map (eI .u8)⟩]) (n:=N) ⟨0,iD,hL8,(zG [0,3])⟩ (by rintro s h ⟨_,_,h0,_⟩;simp[mB]at h0) ?_
 rintro m8 s h ⟨x27,l1_3,hr8,hg⟩
 refine aXq hg ?_
 clear hg hL8
 rw[mB]at hr8
 refine zz ?_
 refine aXo ?_
 refine zk hr8 rfl (fun h23 hr8=> ?_) (fun h23 hr8=> ?_)
 ·refine zz ?_
  refine aXo<|aXm ?_
  obtain⟨x29,h_24,hr8⟩:=aD hr8
  refine zz ?_
  refine xw (v:=(.ptr 2 0)) (h':=[some ⟨26,[(eI .u32 aC),(.row none 35 (aA.map aL)),(.row none 2 (aB.map aM)),(eI .u32 aE)]⟩,some ⟨5,l1_3.map (eI .u8)⟩,some ⟨48,(bG (eI .u8) (aXj 32 0) [(eI .u32 0),(eI .u32 0),(.row (some true) 1 [])])⟩]) (cY rG rfl rfl rfl) ?_
  obtain⟨cU,h_25,hr8⟩:=aD hr8
  obtain⟨x35,h_26,hr8⟩:=aD hr8
  refine zz ?_
  refine zc (aHW h_25) [] ?_
  obtain⟨x39,h_27,hr8⟩:=aD hr8
  obtain⟨x40,h_28,hr8⟩:=aD hr8
  refine zz ?_
  refine zc (lP h_27) [] ?_
  refine zz ?_
  exact⟨aXk.wrap (x27+1),x40,hr8,(zG [0,6])⟩
 refine zz ?_
 obtain rfl:=sj hr8
 refine zz ?_
 exact hG1 _ _ _ _ (zG [0,1]) (J1 l1_3 hr)
theorem aJs {N:Nat}{aC:Int}{aA:List aG}{aB:List aF}{aE:Int}{r:Bool}(hr:aDW N aC aA aB aE=some r):
  Vm.Fn Tryz.prog 46 [] [(.agg [(eI .u32 aC),(.row none 35 (aA.map aL)),(.row none 2 (aB.map aM)),(eI .u32 aE)])] (eB r) []:=by
 refine zf Tryz.func46 Tryz.ntmps46 ?_
 unfold aDW at hr
 refine zz ?_
 refine aXo ?_
 refine aXp fun K1 hK1 hG1=> ?_
 have J1: ∀(x18:Bool),aBi N aC aA aB aE x18=some r→K1 (aI 63 [(1,(.ptr 0 0)),(18,(eB x18))]) [some ⟨26,[(eI .u32 aC),(.row none 35 (aA.map aL)),(.row none 2 (aB.map aM)),(eI .u32 aE)]⟩]:=by
  intro x18 hr
  unfold aBi at hr
  refine hK1 _ _ ?_
  refine zk hr rfl (fun h1 hr=> ?_) (fun h1 hr=> ?_)
  ·refine zz ?_
   obtain rfl:=sj hr
   exact bE Tryz.results46 []
  refine zz ?_
  refine aXp fun K2 hK2 hG2=> ?_
  have J2:aDK N aC aA aB aE=some r→K2 (aI 63 [(1,(.ptr 0 0))]) [some ⟨26,[(eI .u32 aC),(.row none 35 (aA.map aL)),(.row none 2 (aB.map aM)),(eI .u32 aE)]⟩]:=by
   intro hr
   unfold aDK at hr
   refine hK2 _ _ ?_
   refine aXp fun K3 hK3 hG3=> ?_
   have J3:aDP N aC aA aB aE=some r→K3 (aI 63 [(1,(.ptr 0 0))]) [some ⟨26,[(eI .u32 aC),(.row none 35 (aA.map aL)),(.row none 2 (aB.map aM)),(eI .u32 aE)]⟩]:=by
    intro hr
    unfold aDP at hr
    refine hK3 _ _ ?_
    obtain⟨x60,h_2,hr⟩:=aD hr
    refine zz ?_
    refine zc (aHf h_2) [] ?_
    refine zz ?_
    obtain rfl:=sj hr
    exact bE Tryz.results46 []
   obtain⟨res4,hL4,hr⟩:=aD hr
   refine zz ?_
   refine aXm<|aXr (fun m s h=> ∃(x39:Int),qD N aC aA aB aE m x39=some res4∧Ghost 0 s h (aI 63 [(1,(.ptr 0 0)),(37,(.row none 35 (aA.map aL))),(38,(eI .i64 (aA.length:Int))),(39,(eI .i64 x39))]) [some ⟨26,[(eI .u32 aC),(.row none 35 (aA.map aL)),(.row none 2 (aB.map aM)),(eI .u32 aE)]⟩]) (n:=N) ⟨0,hL4,(zG [0])⟩ (by rintro s h ⟨_,h0,_⟩;simp[qD]at h0) ?_
   rintro m4 s h ⟨x39,hr4,hg⟩
   refine aXq hg ?_
   clear hg hL4
   rw[qD]at hr4
   refine zz ?_
   refine aXo ?_
   refine zk hr4 rfl (fun h3 hr4=> ?_) (fun h3 hr4=> ?_)
   ·refine zz ?_
    refine aXp fun K5 hK5 hG5=> ?_
    have J5:aDJ N aC aA aB aE x39 (qD N aC aA aB aE m4)=some res4→K5 (aI 63 [(1,(.ptr 0 0)),(37,(.row none 35 (aA.map aL))),(38,(eI .i64 (aA.length:Int))),(39,(eI .i64 x39))]) [some ⟨26,[(eI .u32 aC),(.row none 35 (aA.map aL)),(.row none 2 (aB.map aM)),(eI .u32 aE)]⟩]:=by
     intro hr4
     unfold aDJ at hr4
     refine hK5 _ _ ?_
     refine zz ?_
     exact⟨aXk.wrap (x39+1),hr4,(zG [0])⟩
    refine aXm ?_
    obtain⟨x41,h_4,hr4⟩:=aD hr4
    refine zz ?_
    refine xw (v:=(.ptr 1 0)) (h':=[some ⟨26,[(eI .u32 aC),(.row none 35 (aA.map aL)),(.row none 2 (aB.map aM)),(eI .u32 aE)]⟩,some ⟨48,(bG (eI .u8) (aXj 32 0) [(eI .u32 0),(eI .u32 0),(.row (some true) 1 [])])⟩]) (cY rG rfl rfl rfl) ?_
    refine zz ?_
    refine aXo ?_
    refine zz ?_
    refine zk hr4 rfl (fun h5 hr4=> ?_) (fun h5 hr4=> ?_)
    ·refine zz ?_
     obtain rfl:=sj hr4
     obtain rfl:=sj hr
     exact bE Tryz.results46 []
    obtain⟨res6,hL6,hr4⟩:=aD hr4
    refine zz ?_
    refine aXm<|aXr (fun m s h=> ∃(x50:Int),qH N aC aA aB aE x39 x41 m x50=some res6∧Ghost 0 s h (aI 63 [(1,(.ptr 0 0)),(37,(.row none 35 (aA.map aL))),(38,(eI .i64 (aA.length:Int))),(39,(eI .i64 x39)),(48,(.row none 1 (x41.Witness.map (eL 1 (eI .u8))))),(49,(eI .i64 (x41.Witness.length:Int))),(50,(eI .i64 x50))]) [some ⟨26,[(eI .u32 aC),(.row none 35 (aA.map aL)),(.row none 2 (aB.map aM)),(eI .u32 aE)]⟩]) (n:=N) ⟨0,hL6,(zG [0])⟩ (by rintro s h ⟨_,h0,_⟩;simp[qH]at h0) ?_
    rintro m6 s h ⟨x50,hr6,hg⟩
    refine aXq hg ?_
    clear hg hL6
    rw[qH]at hr6
    refine zz ?_
    refine aXo ?_
    refine zk hr6 rfl (fun h6 hr6=> ?_) (fun h6 hr6=> ?_)
    ·refine zz ?_
     refine aXo<|aXm ?_
     obtain⟨x52,h_7,hr6⟩:=aD hr6
     refine zz ?_
     refine zk hr6 rfl (fun h8 hr6=> ?_) (fun h8 hr6=> ?_)
     ·refine zz ?_
      obtain rfl:=sj hr6
      obtain rfl:=sj hr4
      obtain rfl:=sj hr
      exact bE Tryz.results46 []
     refine zz ?_
     exact⟨aXk.wrap (x50+1),hr6,(zG [0])⟩
    refine zz ?_
    obtain rfl:=sj hr6
    refine zz ?_
    exact hG5 _ _ _ _ (zG [0]) (J5 hr4)
   refine zz ?_
   obtain rfl:=sj hr4
   refine zz ?_
   exact hG3 _ _ _ _ (zG [0]) (J3 hr)
  obtain⟨res7,hL7,hr⟩:=aD hr
  refine zz ?_
  refine aXm<|aXr (fun m s h=> ∃(bV:Int),oR N aC aA aB aE m bV=some res7∧Ghost 0 s h (aI 63 [(1,(.ptr 0 0)),(20,(.row none 2 (aB.map aM))),(21,(eI .i64 (aB.length:Int))),(22,(eI .i64 bV))]) [some ⟨26,[(eI .u32 aC),(.row none 35 (aA.map aL)),(.row none 2 (aB.map aM)),(eI .u32 aE)]⟩]) (n:=N) ⟨0,hL7,(zG [0])⟩ (by rintro s h ⟨_,h0,_⟩;simp[oR]at h0) ?_
  rintro m7 s h ⟨bV,hr7,hg⟩
  refine aXq hg ?_
  clear hg hL7
  rw[oR]at hr7
  refine zz ?_
  refine aXo ?_
  refine zk hr7 rfl (fun h9 hr7=> ?_) (fun h9 hr7=> ?_)
  ·refine zz ?_
   refine aXo<|aXm ?_
   obtain⟨fG,h_10,hr7⟩:=aD hr7
   refine zz ?_
   refine aXp fun K8 hK8 hG8=> ?_
   have J8: ∀(cU:Bool),aCh N aC aA aB aE bV (oR N aC aA aB aE m7) cU=some res7→K8 (aI 63 [(1,(.ptr 0 0)),(20,(.row none 2 (aB.map aM))),(21,(eI .i64 (aB.length:Int))),(22,(eI .i64 bV)),(34,(eB cU))]) [some ⟨26,[(eI .u32 aC),(.row none 35 (aA.map aL)),(.row none 2 (aB.map aM)),(eI .u32 aE)]⟩]:=by
    intro cU hr7
    unfold aCh at hr7
    refine hK8 _ _ ?_
    refine zk hr7 rfl (fun h11 hr7=> ?_) (fun h11 hr7=> ?_)
    ·refine zz ?_
     obtain rfl:=sj hr7
     obtain rfl:=sj hr
     exact bE Tryz.results46 []
    refine zz ?_
    exact⟨aXk.wrap (bV+1),hr7,(zG [0])⟩
   rcases aXn (decide (fG.Value<0))with h12|h12
   ·replace hr7:=cQ hr7 h12
    refine xr ?_
    refine zz ?_
    exact hG8 _ _ _ _ (zG [0]) (J8 true hr7)
   replace hr7:=cR hr7 h12
   refine xr ?_
   refine zz ?_
   exact hG8 _ _ _ _ (zG [0]) (J8 (decide (520<(fG.Script.length:Int))) hr7)
  refine zz ?_
  obtain rfl:=sj hr7
  refine zz ?_
  exact hG2 _ _ _ _ (zG [0]) (J2 hr)
 rcases aXn (decide (64<(aA.length:Int)))with h13|h13
 ·replace hr:=cQ hr h13
  refine xr ?_
  refine zz ?_
  exact hG1 _ _ _ _ (zG [0]) (J1 true hr)
 replace hr:=cR hr h13
 refine xr ?_
 refine zz ?_
 exact hG1 _ _ _ _ (zG [0]) (J1 (decide (64<(aB.length:Int))) hr)
theorem aNx {N:Nat}{l:List aF}{r:Bool}(hr:aEq N l=some r):
  Vm.Fn Tryz.prog 47 [] [(.row none 2 (l.map aM))] (eB r) []:=by
 refine zf Tryz.func47 Tryz.ntmps47 ?_
 unfold aEq at hr
 refine zz ?_
 refine aXp fun K1 hK1 hG1=> ?_
 have J1:aE8 N=some r→K1 (aI 22 []) []:=by
  intro hr
  unfold aE8 at hr
  refine hK1 _ _ ?_
  refine zz ?_
  obtain rfl:=sj hr
  exact bE Tryz.results47 []
 obtain⟨bL,hL2,hr⟩:=aD hr
 refine zz ?_
 refine aXm<|aXr (fun m s h=> ∃(sum x8:Int),tU N l m sum x8=some bL∧Ghost 0 s h (aI 22 [(3,(eI .i64 sum)),(6,(.row none 2 (l.map aM))),(7,(eI .i64 (l.length:Int))),(8,(eI .i64 x8))]) []) (n:=N) ⟨0,0,hL2,(zG [])⟩ (by rintro s h ⟨_,_,h0,_⟩;simp[tU]at h0) ?_
 rintro m2 s h ⟨sum,x8,hr2,hg⟩
 refine aXq hg ?_
 clear hg hL2
 rw[tU]at hr2
 refine zz ?_
 refine aXo ?_
 refine zk hr2 rfl (fun h1 hr2=> ?_) (fun h1 hr2=> ?_)
 ·refine zz ?_
  refine aXo<|aXm ?_
  obtain⟨cD,h_2,hr2⟩:=aD hr2
  refine zz ?_
  refine aXo ?_
  refine zz ?_
  refine zk hr2 rfl (fun h3 hr2=> ?_) (fun h3 hr2=> ?_)
  ·refine zz ?_
   obtain rfl:=sj hr2
   obtain rfl:=sj hr
   exact bE Tryz.results47 []
  refine zz ?_
  exact⟨aXk.wrap (sum+cD.Value),aXk.wrap (x8+1),hr2,(zG [])⟩
 refine zz ?_
 obtain rfl:=sj hr2
 refine zz ?_
 exact hG1 _ _ _ _ (zG []) (J1 hr)
theorem aOE {N:Nat}{tG:List Int}{j9:Int}{r:Bool}(hr:aKh N tG j9=some r):
  Vm.Fn Tryz.prog 43 [] [(.agg (bG (eI .u8) tG [(eI .u32 j9)]))] (eB r) []:=by
 refine zf Tryz.func43 Tryz.ntmps43 ?_
 unfold aKh at hr
 refine zz ?_
 refine xw (v:=(.agg (bG (eI .u8) (aXj 32 0) [(eI .u32 4294967295)]))) (cE rfl (tH pF aIz rfl))<|xw (tD rfl rfl (aIl (d:=9) pF rfl aG0 zl aH1 rfl rfl rfl rfl rfl)) ?_
 refine zz ?_
 obtain rfl:=sj hr
 exact bE Tryz.results43 []
theorem aFg {N:Nat}{aC:Int}{aA:List aG}{aB:List aF}{aE:Int}{r:Bool}(hr:wA N aC aA aB aE=some r):
  Vm.Fn Tryz.prog 18 [] [(.agg [(eI .u32 aC),(.row none 35 (aA.map aL)),(.row none 2 (aB.map aM)),(eI .u32 aE)])] (eB r) []:=by
 refine zf Tryz.func18 Tryz.ntmps18 ?_
 unfold wA at hr
 refine zz ?_
 refine aXp fun K1 hK1 hG1=> ?_
 have J1: ∀(x2:Bool),zU N x2=some r→K1 (aI 15 [(2,(eB x2))]) []:=by
  intro x2 hr
  unfold zU at hr
  refine hK1 _ _ ?_
  refine zz ?_
  obtain rfl:=sj hr
  exact bE Tryz.results18 []
 rcases aXn ((aA.length:Int) == 1)with h1|h1
 ·replace hr:=cQ hr h1
  obtain⟨cD,h_2,hr⟩:=aD hr
  obtain⟨dA,h_3,hr⟩:=aD hr
  refine xr ?_
  refine zz ?_
  refine xCg (v:=(eB dA)) (h':=[some ⟨26,[(eI .u32 aC),(.row none 35 (aA.map aL)),(.row none 2 (aB.map aM)),(eI .u32 aE)]⟩]) rfl rfl h1 rfl (Vm.Fn.pure (aOE h_3) rfl rfl) ?_
  refine zz ?_
  exact hG1 _ _ _ _ (zG []) (J1 dA hr)
 replace hr:=cR hr h1
 refine xr ?_
 refine zz ?_
 exact hG1 _ _ _ _ (zG []) (J1 false hr)
theorem aND {N:Nat}{aC:Int}{aA:List aG}{aB:List aF}{aE r:Int}(hr:aEa N aC aA aB aE=some r):
  Vm.Fn Tryz.prog 23 [] [(.agg [(eI .u32 aC),(.row none 35 (aA.map aL)),(.row none 2 (aB.map aM)),(eI .u32 aE)])] (eI .i64 r) []:=by
 refine zf Tryz.func23 Tryz.ntmps23 ?_
 unfold aEa at hr
 refine zz ?_
 refine aXo ?_
 obtain⟨x7,h_1,hr⟩:=aD hr
 refine zz ?_
 refine xp (aJs h_1) ?_
 refine zz ?_
 refine zk hr rfl (fun h2 hr=> ?_) (fun h2 hr=> ?_)
 ·refine zz ?_
  obtain rfl:=sj hr
  exact bE Tryz.results23 []
 refine zz ?_
 refine aXo ?_
 refine aXp fun K1 hK1 hG1=> ?_
 have J1: ∀(x18:Bool),aAm N aC aA aB aE x18=some r→K1 (aI 47 [(1,(.ptr 0 0)),(18,(eB x18))]) [some ⟨26,[(eI .u32 aC),(.row none 35 (aA.map aL)),(.row none 2 (aB.map aM)),(eI .u32 aE)]⟩]:=by
  intro x18 hr
  unfold aAm at hr
  refine hK1 _ _ ?_
  refine zk hr rfl (fun h3 hr=> ?_) (fun h3 hr=> ?_)
  ·refine zz ?_
   obtain rfl:=sj hr
   exact bE Tryz.results23 []
  refine zz ?_
  refine aXo ?_
  obtain⟨d5,h_4,hr⟩:=aD hr
  refine zz ?_
  refine xp (aNx h_4) ?_
  refine zz ?_
  refine zk hr rfl (fun h5 hr=> ?_) (fun h5 hr=> ?_)
  ·refine zz ?_
   obtain rfl:=sj hr
   exact bE Tryz.results23 []
  refine zz ?_
  refine xw (v:=(.mp 1)) (h':=[some ⟨26,[(eI .u32 aC),(.row none 35 (aA.map aL)),(.row none 2 (aB.map aM)),(eI .u32 aE)]⟩,some ⟨33000,[].flatMap aDr⟩]) (aTM aMF aMX rfl rfl) ?_
  refine zz ?_
  refine aXp fun K2 hK2 hG2=> ?_
  have J2: ∀(l1:List (aV×Bool)),aCR N aC aA aB aE l1=some r→K2 (aI 47 [(1,(.ptr 0 0)),(3,(.mp 1))]) [some ⟨26,[(eI .u32 aC),(.row none 35 (aA.map aL)),(.row none 2 (aB.map aM)),(eI .u32 aE)]⟩,some ⟨33000,l1.flatMap aDr⟩]:=by
   intro l1 hr
   unfold aCR at hr
   refine hK2 _ _<|aXo ?_
   refine aXp fun K3 hK3 hG3=> ?_
   have J3: ∀(x46:Bool),aCZ N x46=some r→K3 (aI 47 [(46,(eB x46))]) []:=by
    intro x46 hr
    unfold aCZ at hr
    refine hK3 _ _ ?_
    refine zk hr rfl (fun h6 hr=> ?_) (fun h6 hr=> ?_)
    ·refine zz ?_
     obtain rfl:=sj hr
     exact bE Tryz.results23 []
    refine zz ?_
    obtain rfl:=sj hr
    exact bE Tryz.results23 []
   rcases aXn (aEt vA l1 (aV.mk (aXj 32 0) 4294967295) false)with h7|h7
   ·replace hr:=cQ hr h7
    obtain⟨x44,h_8,hr⟩:=aD hr
    refine xr ?_
    refine zz ?_
    refine xw (v:=(.agg (bG (eI .u8) (aXj 32 0) [(eI .u32 4294967295)]))) (cE rfl (tH pF aIz rfl))<|xw (v:=(eB (aEt vA l1 (aV.mk (aXj 32 0) 4294967295) false))) (aRg rfl rfl (aQF aMX (C:=aDr) (CK:=fU) (K:=33) (E:=eB) (k:=(aV.mk (aXj 32 0) 4294967295)) (fun _=>rfl) (fun _=>rfl) (by decide) (fun _=>rfl) aMF aOV aOG aPi aR7 rfl)) ?_
    refine zz ?_
    refine xCg (v:=(eB x44)) (h':=[some ⟨26,[(eI .u32 aC),(.row none 35 (aA.map aL)),(.row none 2 (aB.map aM)),(eI .u32 aE)]⟩,some ⟨33000,l1.flatMap aDr⟩]) rfl rfl h7 rfl (Vm.Fn.pure (aFg h_8) rfl rfl) ?_
    refine zz ?_
    exact hG3 _ _ _ _ (zG []) (J3 (!x44) hr)
   replace hr:=cR hr h7
   refine xr ?_
   refine zz ?_
   refine xw (v:=(.agg (bG (eI .u8) (aXj 32 0) [(eI .u32 4294967295)]))) (cE rfl (tH pF aIz rfl))<|xw (v:=(eB (aEt vA l1 (aV.mk (aXj 32 0) 4294967295) false))) (aRg rfl rfl (aQF aMX (C:=aDr) (CK:=fU) (K:=33) (E:=eB) (k:=(aV.mk (aXj 32 0) 4294967295)) (fun _=>rfl) (fun _=>rfl) (by decide) (fun _=>rfl) aMF aOV aOG aPi aR7 rfl)) ?_
   refine zz ?_
   exact hG3 _ _ _ _ (zG []) (J3 false hr)
  obtain⟨res4,hL4,hr⟩:=aD hr
  refine zz ?_
  refine aXm<|aXr (fun m s h=> ∃(x27:Int)(cS:List (aV×Bool)),tO N aC aA aB aE m x27 cS=some res4∧Ghost 0 s h (aI 47 [(1,(.ptr 0 0)),(3,(.mp 1)),(25,(.row none 35 (aA.map aL))),(26,(eI .i64 (aA.length:Int))),(27,(eI .i64 x27))]) [some ⟨26,[(eI .u32 aC),(.row none 35 (aA.map aL)),(.row none 2 (aB.map aM)),(eI .u32 aE)]⟩,some ⟨33000,cS.flatMap aDr⟩]) (n:=N) ⟨0,[],hL4,(zG [0,1])⟩ (by rintro s h ⟨_,_,h0,_⟩;simp[tO]at h0) ?_
  rintro m4 s h ⟨x27,cS,hr4,hg⟩
  refine aXq hg ?_
  clear hg hL4
  rw[tO]at hr4
  refine zz ?_
  refine aXo ?_
  refine zk hr4 rfl (fun h9 hr4=> ?_) (fun h9 hr4=> ?_)
  ·refine zz ?_
   refine aXo<|aXm ?_
   obtain⟨x29,h_10,hr4⟩:=aD hr4
   refine zz ?_
   refine xw (v:=(.ptr 2 0)) (h':=[some ⟨26,[(eI .u32 aC),(.row none 35 (aA.map aL)),(.row none 2 (aB.map aM)),(eI .u32 aE)]⟩,some ⟨33000,cS.flatMap aDr⟩,some ⟨48,(bG (eI .u8) (aXj 32 0) [(eI .u32 0),(eI .u32 0),(.row (some true) 1 [])])⟩]) (cY rG rfl rfl rfl) ?_
   refine zz ?_
   refine aXo ?_
   refine zz ?_
   refine xw (v:=(eB (aEt vA cS x29.Prev false))) (aRg rfl rfl (aQF aMX (C:=aDr) (CK:=fU) (K:=33) (E:=eB) (k:=x29.Prev) (fun _=>rfl) (fun _=>rfl) (by decide) (fun _=>rfl) aMF aOV aOG aPi aR7 rfl)) ?_
   refine zz ?_
   refine zk hr4 rfl (fun h11 hr4=> ?_) (fun h11 hr4=> ?_)
   ·refine zz ?_
    obtain rfl:=sj hr4
    obtain rfl:=sj hr
    exact bE Tryz.results23 []
   refine zz ?_
   refine xy (h':=[some ⟨26,[(eI .u32 aC),(.row none 35 (aA.map aL)),(.row none 2 (aB.map aM)),(eI .u32 aE)]⟩,some ⟨33000,(aGA vA cS x29.Prev true).flatMap aDr⟩,some ⟨48,dJ x29⟩]) (aVj rfl rfl rfl (aWO aMX (C:=aDr) (CK:=fU) (K:=33) (E:=eB) (k:=x29.Prev) (v:=true) (fun _=>rfl) (fun _=>rfl) (by decide) (fun _=>rfl) (fun _=>rfl) (fun _=>rfl) aMF aOV aOG aPi rfl rfl)) ?_
   refine zz ?_
   exact⟨aXk.wrap (x27+1),aGA vA cS x29.Prev true,hr4,(zG [0,1])⟩
  refine zz ?_
  obtain rfl:=sj hr4
  refine zz ?_
  exact hG2 _ _ _ _ (zG [0,1]) (J2 cS hr)
 rcases aXn ((aA.length:Int) == 0)with h12|h12
 ·replace hr:=cQ hr h12
  refine xr ?_
  refine zz ?_
  exact hG1 _ _ _ _ (zG [0]) (J1 true hr)
 replace hr:=cR hr h12
 refine xr ?_
 refine zz ?_
 exact hG1 _ _ _ _ (zG [0]) (J1 ((aB.length:Int) == 0) hr)
theorem aMs {N:Nat}{l:List bA}{r:Int×Bool}(hr:aEJ N l=some r):
  Vm.Fn Tryz.prog 24 [] [(.row none 37 (l.map d9))] (.tup [(eI .i64 r.1),(eB r.2)]) []:=by
 refine zf Tryz.func24 Tryz.ntmps24 ?_
 unfold aEJ at hr
 refine zz ?_
 refine aXp fun K1 hK1 hG1=> ?_
 have J1: ∀(aJG:Int),aCg N aJG=some r→K1 (aI 32 [(4,(eI .i64 aJG))]) []:=by
  intro aJG hr
  unfold aCg at hr
  refine hK1 _ _ ?_
  refine zz ?_
  obtain rfl:=sj hr
  exact kG Tryz.results24 []
 obtain⟨bL,hL2,hr⟩:=aD hr
 refine zz ?_
 refine aXm<|aXr (fun m s h=> ∃(nW x9:Int),mZ N l m nW x9=some bL∧Ghost 0 s h (aI 32 [(4,(eI .i64 nW)),(7,(.row none 37 (l.map d9))),(8,(eI .i64 (l.length:Int))),(9,(eI .i64 x9))]) []) (n:=N) ⟨0,0,hL2,(zG [])⟩ (by rintro s h ⟨_,_,h0,_⟩;simp[mZ]at h0) ?_
 rintro m2 s h ⟨nW,x9,hr2,hg⟩
 refine aXq hg ?_
 clear hg hL2
 rw[mZ]at hr2
 refine zz ?_
 refine aXo ?_
 refine zk hr2 rfl (fun h1 hr2=> ?_) (fun h1 hr2=> ?_)
 ·refine zz ?_
  refine aXo<|aXm ?_
  obtain⟨b4,h_2,hr2⟩:=aD hr2
  refine zz ?_
  refine xw (v:=(.ptr 0 0)) (h':=[some ⟨35,(bG (eI .u8) (aXj 32 0) [(eI .u32 0),(eI .i64 0),(.row (some true) 1 []),(eI .i64 0),(eB false)])⟩]) (cY aA7 rfl rfl rfl) ?_
  refine zz ?_
  refine aXo ?_
  refine aXp fun K3 hK3 hG3=> ?_
  have J3: ∀(fG:Bool),xY N l nW x9 b4 (mZ N l m2) fG=some bL→K3 (aI 32 [(4,(eI .i64 nW)),(6,(.ptr 0 0)),(7,(.row none 37 (l.map d9))),(8,(eI .i64 (l.length:Int))),(9,(eI .i64 x9)),(24,(eB fG))]) [some ⟨35,gV b4⟩]:=by
   intro fG hr2
   unfold xY at hr2
   refine hK3 _ _ ?_
   refine zk hr2 rfl (fun h3 hr2=> ?_) (fun h3 hr2=> ?_)
   ·refine zz ?_
    obtain rfl:=sj hr2
    obtain rfl:=sj hr
    exact kG Tryz.results24 []
   refine zz ?_
   exact⟨aXk.wrap (nW+b4.Output.Value),aXk.wrap (x9+1),hr2,(zG [])⟩
  rcases aXn (decide (b4.Output.Value<0))with h4|h4
  ·replace hr2:=cQ hr2 h4
   refine xr ?_
   refine zz ?_
   exact hG3 _ _ _ _ (zG [0]) (J3 true hr2)
  replace hr2:=cR hr2 h4
  refine xr ?_
  refine zz ?_
  exact hG3 _ _ _ _ (zG [0]) (J3 (decide ((aXk.wrap (2100000000000000-nW))<b4.Output.Value)) hr2)
 refine zz ?_
 obtain rfl:=sj hr2
 refine zz ?_
 exact hG1 _ _ _ _ (zG []) (J1 nW hr)
theorem aEc {N:Nat}{aC:Int}{aA:List aG}{aB:List aF}{aE:Int}{l:List bA}{r:Int×Int}(hr:xL N aC aA aB aE l=some r):
  Vm.Fn Tryz.prog 12 [] [(.agg [(eI .u32 aC),(.row none 35 (aA.map aL)),(.row none 2 (aB.map aM)),(eI .u32 aE)]),(.row none 37 (l.map d9))] (.tup [(eI .i64 r.1),(eI .i64 r.2)]) []:=by
 refine zf Tryz.func12 Tryz.ntmps12 ?_
 unfold xL at hr
 refine zz ?_
 refine aXo ?_
 obtain⟨bQ,h_1,hr⟩:=aD hr
 refine zz ?_
 refine xp (aND h_1) ?_
 refine zz ?_
 refine zk hr rfl (fun h2 hr=> ?_) (fun h2 hr=> ?_)
 ·refine zz ?_
  obtain rfl:=sj hr
  exact kG Tryz.results12 []
 refine zz ?_
 refine aXo ?_
 refine zz ?_
 refine zk hr rfl (fun h3 hr=> ?_) (fun h3 hr=> ?_)
 ·refine zz ?_
  obtain rfl:=sj hr
  exact kG Tryz.results12 []
 refine zz ?_
 refine aXp fun K1 hK1 hG1=> ?_
 have J1:aB0 N aC aA aB aE l=some r→K1 (aI 63 [(1,(.row none 37 (l.map d9))),(2,(.ptr 0 0))]) [some ⟨26,[(eI .u32 aC),(.row none 35 (aA.map aL)),(.row none 2 (aB.map aM)),(eI .u32 aE)]⟩]:=by
  intro hr
  unfold aB0 at hr
  refine hK1 _ _ ?_
  obtain⟨x43,h_4,hr⟩:=aD hr
  refine zz ?_
  refine xp (aMs h_4) ?_
  refine zz ?_
  refine aXo ?_
  refine zz ?_
  refine zk hr rfl (fun h5 hr=> ?_) (fun h5 hr=> ?_)
  ·refine zz ?_
   obtain rfl:=sj hr
   exact kG Tryz.results12 []
  refine zz ?_
  refine aXp fun K2 hK2 hG2=> ?_
  have J2: ∀(fee:Int),aBq N fee=some r→K2 (aI 63 [(9,(eI .i64 fee))]) []:=by
   intro fee hr
   unfold aBq at hr
   refine hK2 _ _<|aXo ?_
   refine zz ?_
   refine zk hr rfl (fun h6 hr=> ?_) (fun h6 hr=> ?_)
   ·refine zz ?_
    obtain rfl:=sj hr
    exact kG Tryz.results12 []
   refine zz ?_
   obtain rfl:=sj hr
   exact kG Tryz.results12 []
  obtain⟨wL,hL3,hr⟩:=aD hr
  refine zz ?_
  refine aXm<|aXr (fun m s h=> ∃(fee_1 x51:Int),pB N aB m fee_1 x51=some wL∧Ghost 0 s h (aI 63 [(9,(eI .i64 fee_1)),(49,(.row none 2 (aB.map aM))),(50,(eI .i64 (aB.length:Int))),(51,(eI .i64 x51))]) []) (n:=N) ⟨x43.1,0,hL3,(zG [])⟩ (by rintro s h ⟨_,_,h0,_⟩;simp[pB]at h0) ?_
  rintro m3 s h ⟨fee_1,x51,hr3,hg⟩
  refine aXq hg ?_
  clear hg hL3
  rw[pB]at hr3
  refine zz ?_
  refine aXo ?_
  refine zk hr3 rfl (fun h7 hr3=> ?_) (fun h7 hr3=> ?_)
  ·refine zz ?_
   refine aXo<|aXm ?_
   obtain⟨x53,h_8,hr3⟩:=aD hr3
   refine zz ?_
   exact⟨aXk.wrap (fee_1-x53.Value),aXk.wrap (x51+1),hr3,(zG [])⟩
  refine zz ?_
  obtain rfl:=sj hr3
  refine zz ?_
  exact hG2 _ _ _ _ (zG []) (J2 fee_1 hr)
 obtain⟨res4,hL4,hr⟩:=aD hr
 refine zz ?_
 refine aXm<|aXr (fun m s h=> ∃(x26:Int),o8 N aC aA aB aE l m x26=some res4∧Ghost 0 s h (aI 63 [(1,(.row none 37 (l.map d9))),(2,(.ptr 0 0)),(24,(.row none 37 (l.map d9))),(25,(eI .i64 (l.length:Int))),(26,(eI .i64 x26))]) [some ⟨26,[(eI .u32 aC),(.row none 35 (aA.map aL)),(.row none 2 (aB.map aM)),(eI .u32 aE)]⟩]) (n:=N) ⟨0,hL4,(zG [0])⟩ (by rintro s h ⟨_,h0,_⟩;simp[o8]at h0) ?_
 rintro m4 s h ⟨x26,hr4,hg⟩
 refine aXq hg ?_
 clear hg hL4
 rw[o8]at hr4
 refine zz ?_
 refine aXo ?_
 refine zk hr4 rfl (fun h9 hr4=> ?_) (fun h9 hr4=> ?_)
 ·refine zz ?_
  refine aXo<|aXm ?_
  obtain⟨x29,h_10,hr4⟩:=aD hr4
  refine zz ?_
  refine xw (v:=(.ptr 1 0)) (h':=[some ⟨26,[(eI .u32 aC),(.row none 35 (aA.map aL)),(.row none 2 (aB.map aM)),(eI .u32 aE)]⟩,some ⟨35,(bG (eI .u8) (aXj 32 0) [(eI .u32 0),(eI .i64 0),(.row (some true) 1 []),(eI .i64 0),(eB false)])⟩]) (cY aA7 rfl rfl rfl) ?_
  refine zz ?_
  refine aXo ?_
  obtain⟨x36,h_11,hr4⟩:=aD hr4
  refine aXD mixed [] [] [[0,1,2,3,4,5,6,7,8]] ?_
  refine zz ?_
  refine xw (v:=(eB (!(lS x29.Out.Tx x36.Prev.Tx ((x29.Out.Index == x36.Prev.Index)&&true))))) (tD rfl rfl (aFy (d:=9) pF rfl aG0 zl aH1 rfl rfl rfl rfl rfl)) ?_
  refine zz ?_
  refine zk hr4 rfl (fun h12 hr4=> ?_) (fun h12 hr4=> ?_)
  ·refine zz ?_
   obtain rfl:=sj hr4
   obtain rfl:=sj hr
   exact kG Tryz.results12 []
  refine zz ?_
  exact⟨aXk.wrap (x26+1),hr4,(zG [0])⟩
 refine zz ?_
 obtain rfl:=sj hr4
 refine zz ?_
 exact hG1 _ _ _ _ (zG [0]) (J1 hr)
theorem aLB {N:Nat}{r:Bool}(hr:aDL N=some r):
  Vm.Fn Tryz.prog 5 [] [] (eB r) []:=by
 refine zf Tryz.func5 Tryz.ntmps5 ?_
 unfold aDL at hr
 refine zz ?_
 refine xw (v:=(.agg (bG (eI .u8) (aXj 32 0) [(eI .u32 1)]))) (cE rfl (tH pF aIz rfl))<|xw (v:=(.agg (bG (eI .u8) (aXj 32 0) [(eI .u32 2)]))) (cE rfl (tH pF aIz rfl))<|xw (v:=(.ptr 0 0)) (h':=[some ⟨30,(bG (eI .u8) (aXj 32 0) [(eI .u32 0)])⟩]) (cY pF rfl rfl rfl) ?_
 refine xw (v:=(.ptr 1 0)) (h':=[some ⟨30,(bG (eI .u8) (aXj 32 0) [(eI .u32 0)])⟩,some ⟨30,(bG (eI .u8) (aXj 32 0) [(eI .u32 0)])⟩]) (cY pF rfl rfl rfl) ?_
 refine zz ?_
 refine xw (v:=(.agg (bG (eI .u8) (aXj 32 0) [(eI .u32 1),(eI .u32 0),(.row (some true) 1 [])]))) (cE rfl (tH rG aRI rfl)) ?_
 refine zz ?_
 refine xw (v:=(.agg (bG (eI .u8) (aXj 32 0) [(eI .u32 2),(eI .u32 0),(.row (some true) 1 [])]))) (cE rfl (tH rG aRI rfl))<|xw (v:=(.sl 2 0 2 35 true)) (h':=[some ⟨30,(bG (eI .u8) (aXj 32 0) [(eI .u32 1)])⟩,some ⟨30,(bG (eI .u8) (aXj 32 0) [(eI .u32 2)])⟩,some ⟨48,[(aG.mk (aV.mk (aXj 32 0) 1) 0 []),(aG.mk (aV.mk (aXj 32 0) 2) 0 [])].flatMap dJ⟩]) (pT rfl (aDM (C:=dJ) (xs:=[(aG.mk (aV.mk (aXj 32 0) 1) 0 []),(aG.mk (aV.mk (aXj 32 0) 2) 0 [])]) (K:=35) (fun _=>rfl) (fun _=>rfl) aOw rG ⟨zl,zl,zl⟩ rfl rfl rfl rfl rfl rfl)) ?_
 refine zz ?_
 refine xw (v:=(.sl 3 0 1 2 true)) (h':=[some ⟨30,(bG (eI .u8) (aXj 32 0) [(eI .u32 1)])⟩,some ⟨30,(bG (eI .u8) (aXj 32 0) [(eI .u32 2)])⟩,some ⟨48,[(aG.mk (aV.mk (aXj 32 0) 1) 0 []),(aG.mk (aV.mk (aXj 32 0) 2) 0 [])].flatMap dJ⟩,some ⟨33,[(aF.mk 10 [])].flatMap eX⟩]) (pT rfl (aDM (C:=eX) (xs:=[(aF.mk 10 [])]) (K:=2) (fun _=>rfl) (fun _=>rfl) aPe aGE ⟨zl,zl,zl⟩ rfl rfl rfl rfl rfl rfl)) ?_
 refine zz ?_
 refine xw (v:=(.agg (bG (eI .u8) (aXj 32 0) [(eI .u32 1),(eI .i64 5),(.row (some true) 1 []),(eI .i64 0),(eB false)]))) (cE rfl (tH aA7 aRW rfl)) ?_
 refine zz ?_
 refine xw (v:=(.agg (bG (eI .u8) (aXj 32 0) [(eI .u32 2),(eI .i64 7),(.row (some true) 1 []),(eI .i64 0),(eB false)]))) (cE rfl (tH aA7 aRW rfl))<|xw (v:=(.sl 5 0 2 37 true)) (h':=[some ⟨30,(bG (eI .u8) (aXj 32 0) [(eI .u32 1)])⟩,some ⟨30,(bG (eI .u8) (aXj 32 0) [(eI .u32 2)])⟩,some ⟨48,[(aG.mk (aV.mk (aXj 32 0) 1) 0 []),(aG.mk (aV.mk (aXj 32 0) 2) 0 [])].flatMap dJ⟩,some ⟨33,[(aF.mk 10 [])].flatMap eX⟩,some ⟨26,[(eI .u32 0),(.sl 2 0 2 35 true),(.sl 3 0 1 2 true),(eI .u32 0)]⟩,some ⟨35,[(bA.mk (aV.mk (aXj 32 0) 1) (aF.mk 5 []) 0 false),(bA.mk (aV.mk (aXj 32 0) 2) (aF.mk 7 []) 0 false)].flatMap gV⟩]) (pT rfl (aDM (C:=gV) (xs:=[(bA.mk (aV.mk (aXj 32 0) 1) (aF.mk 5 []) 0 false),(bA.mk (aV.mk (aXj 32 0) 2) (aF.mk 7 []) 0 false)]) (K:=37) (fun _=>rfl) (fun _=>rfl) aUo aA7 ⟨zl,zl,zl⟩ rfl rfl rfl rfl rfl rfl)) ?_
 obtain⟨x29,h_1,hr⟩:=aD hr
 refine zz ?_
 refine xC (v:=(.tup [(eI .i64 x29.1),(eI .i64 x29.2)])) (h':=[some ⟨30,(bG (eI .u8) (aXj 32 0) [(eI .u32 1)])⟩,some ⟨30,(bG (eI .u8) (aXj 32 0) [(eI .u32 2)])⟩,some ⟨48,[(aG.mk (aV.mk (aXj 32 0) 1) 0 []),(aG.mk (aV.mk (aXj 32 0) 2) 0 [])].flatMap dJ⟩,some ⟨33,[(aF.mk 10 [])].flatMap eX⟩,some ⟨26,[(eI .u32 0),(.sl 2 0 2 35 true),(.sl 3 0 1 2 true),(eI .u32 0)]⟩,some ⟨35,[(bA.mk (aV.mk (aXj 32 0) 1) (aF.mk 5 []) 0 false),(bA.mk (aV.mk (aXj 32 0) 2) (aF.mk 7 []) 0 false)].flatMap gV⟩]) rfl (Vm.Fn.lendR (aEc h_1) [] [2,3,5] (by decide) rfl (by decide) Lend.nil (Brw.row (aJ9 (pU rfl (pU (aFp (d:=3) (C:=dJ) (fun _=>rfl) zl rfl rfl (fun _=>rfl)) (pU (aFp (d:=3) (C:=eX) (fun _=>rfl) zl rfl rfl (fun _=>rfl)) (pU rfl aJS))))) (Brw.row (aFA (C:=gV) (fun _=>rfl) zl rfl rfl (fun _=>rfl)) Brw.nil)) rfl rfB.nil rfl zH) ?_
 obtain⟨cU,h_2,hr⟩:=aD hr
 refine zz ?_
 refine xy (h':=[some ⟨30,(bG (eI .u8) (aXj 32 0) [(eI .u32 1)])⟩,some ⟨30,(bG (eI .u8) (aXj 32 0) [(eI .u32 2)])⟩,some ⟨48,[(aG.mk (aV.mk (aXj 32 0) 1) 0 []),(aG.mk (aV.mk (aXj 32 0) 2) 0 [])].flatMap dJ⟩,some ⟨33,([(aF.mk 10 [])].set (aXw 0) (aF.mk 13 cU.Script)).flatMap eX⟩,some ⟨26,[(eI .u32 0),(.sl 2 0 2 35 true),(.sl 3 0 1 2 true),(eI .u32 0)]⟩,some ⟨35,[(bA.mk (aV.mk (aXj 32 0) 1) (aF.mk 5 []) 0 false),(bA.mk (aV.mk (aXj 32 0) 2) (aF.mk 7 []) 0 false)].flatMap gV⟩]) (bO rfl rfl (aQY (C:=eX) (K:=2) (off:=0) (fun _=>rfl) ti2 rfl h_2 rfl rfl zl rfl rfl)) ?_
 obtain⟨x39,h_3,hr⟩:=aD hr
 refine zz ?_
 refine xC (v:=(.tup [(eI .i64 x39.1),(eI .i64 x39.2)])) (h':=[some ⟨30,(bG (eI .u8) (aXj 32 0) [(eI .u32 1)])⟩,some ⟨30,(bG (eI .u8) (aXj 32 0) [(eI .u32 2)])⟩,some ⟨48,[(aG.mk (aV.mk (aXj 32 0) 1) 0 []),(aG.mk (aV.mk (aXj 32 0) 2) 0 [])].flatMap dJ⟩,some ⟨33,([(aF.mk 10 [])].set (aXw 0) (aF.mk 13 cU.Script)).flatMap eX⟩,some ⟨26,[(eI .u32 0),(.sl 2 0 2 35 true),(.sl 3 0 1 2 true),(eI .u32 0)]⟩,some ⟨35,[(bA.mk (aV.mk (aXj 32 0) 1) (aF.mk 5 []) 0 false),(bA.mk (aV.mk (aXj 32 0) 2) (aF.mk 7 []) 0 false)].flatMap gV⟩]) rfl (Vm.Fn.lendR (aEc h_3) [] [2,3,5] (by decide) rfl (by decide) Lend.nil (Brw.row (aJ9 (pU rfl (pU (aFp (d:=3) (C:=dJ) (fun _=>rfl) zl rfl rfl (fun _=>rfl)) (pU (aFp (d:=3) (C:=eX) (fun _=>rfl) zl rfl rfl (fun _=>rfl)) (pU rfl aJS))))) (Brw.row (aFA (C:=gV) (fun _=>rfl) zl rfl rfl (fun _=>rfl)) Brw.nil)) rfl rfB.nil rfl zH) ?_
 refine zz ?_
 refine aXp fun K1 hK1 hG1=> ?_
 have J1: ∀(x0:Bool),vW N x0=some r→K1 (aI 52 [(0,(eB x0))]) []:=by
  intro x0 hr
  unfold vW at hr
  refine hK1 _ _ ?_
  refine zz ?_
  obtain rfl:=sj hr
  exact bE Tryz.results5 []
 rcases aXn (x29.2 == 0)with h4|h4
 ·replace hr:=cQ hr h4
  rcases aXn (x29.1 == 2)with h5|h5
  ·replace hr:=cQ hr h5
   refine xr ?_
   refine zz ?_
   exact hG1 _ _ _ _ (zG []) (J1 (x39.2 == 100) hr)
  replace hr:=cR hr h5
  refine xr ?_
  refine zz ?_
  exact hG1 _ _ _ _ (zG []) (J1 false hr)
 replace hr:=cR hr h4
 refine xr ?_
 refine zz ?_
 refine xX rfl<|xX rfl ?_
 refine zz ?_
 exact hG1 _ _ _ _ (zG []) (J1 false hr)
theorem aLL {N:Nat}{l:List (List Int)}{vn vm:Int}{r:Bool}(hr:aCa N l vn vm=some r):
  Vm.Fn Tryz.prog 13 [] [(.row none 1 (l.map (eL 1 (eI .u8)))),(eI .i64 vn),(eI .i64 vm)] (eB r) []:=by
 refine zf Tryz.func13 Tryz.ntmps13 ?_
 unfold aCa at hr
 refine zz ?_
 refine aXo ?_
 refine zz ?_
 refine zk hr rfl (fun h1 hr=> ?_) (fun h1 hr=> ?_)
 ·refine zz ?_
  obtain rfl:=sj hr
  exact bE Tryz.results13 []
 refine zz ?_
 refine aXp fun K1 hK1 hG1=> ?_
 have J1:aDw N=some r→K1 (aI 24 []) []:=by
  intro hr
  unfold aDw at hr
  refine hK1 _ _ ?_
  refine zz ?_
  obtain rfl:=sj hr
  exact bE Tryz.results13 []
 obtain⟨bL,hL2,hr⟩:=aD hr
 refine zz ?_
 refine aXm<|aXr (fun m s h=> ∃(x15:Int),nJ N l vm m x15=some bL∧Ghost 0 s h (aI 24 [(2,(eI .i64 vm)),(13,(.row none 1 (l.map (eL 1 (eI .u8))))),(14,(eI .i64 (l.length:Int))),(15,(eI .i64 x15))]) []) (n:=N) ⟨0,hL2,(zG [])⟩ (by rintro s h ⟨_,h0,_⟩;simp[nJ]at h0) ?_
 rintro m2 s h ⟨x15,hr2,hg⟩
 refine aXq hg ?_
 clear hg hL2
 rw[nJ]at hr2
 refine zz ?_
 refine aXo ?_
 refine zk hr2 rfl (fun h2 hr2=> ?_) (fun h2 hr2=> ?_)
 ·refine zz ?_
  refine aXo<|aXm ?_
  obtain⟨x17,h_3,hr2⟩:=aD hr2
  refine zz ?_
  refine zk hr2 rfl (fun h4 hr2=> ?_) (fun h4 hr2=> ?_)
  ·refine zz ?_
   obtain rfl:=sj hr2
   obtain rfl:=sj hr
   exact bE Tryz.results13 []
  refine zz ?_
  exact⟨aXk.wrap (x15+1),hr2,(zG [])⟩
 refine zz ?_
 obtain rfl:=sj hr2
 refine zz ?_
 exact hG1 _ _ _ _ (zG []) (J1 hr)
theorem aIJ {N:Nat}{aC:Int}{aA:List aG}{aB:List aF}{aE:Int}{r:Bool}(hr:aFu N aC aA aB aE=some r):
  Vm.Fn Tryz.prog 6 [] [(.agg [(eI .u32 aC),(.row none 35 (aA.map aL)),(.row none 2 (aB.map aM)),(eI .u32 aE)])] (eB r) []:=by
 refine zf Tryz.func6 Tryz.ntmps6 ?_
 unfold aFu at hr
 refine zz ?_
 refine aXo ?_
 refine aXp fun K1 hK1 hG1=> ?_
 have J1: ∀(x16:Bool),aCd N aC aA aB aE x16=some r→K1 (aI 41 [(1,(.ptr 0 0)),(16,(eB x16))]) [some ⟨26,[(eI .u32 aC),(.row none 35 (aA.map aL)),(.row none 2 (aB.map aM)),(eI .u32 aE)]⟩]:=by
  intro x16 hr
  unfold aCd at hr
  refine hK1 _ _ ?_
  refine zk hr rfl (fun h1 hr=> ?_) (fun h1 hr=> ?_)
  ·refine zz ?_
   obtain rfl:=sj hr
   exact bE Tryz.results6 []
  refine zz ?_
  refine aXp fun K2 hK2 hG2=> ?_
  have J2:aDN N aC aA aB aE=some r→K2 (aI 41 [(1,(.ptr 0 0))]) [some ⟨26,[(eI .u32 aC),(.row none 35 (aA.map aL)),(.row none 2 (aB.map aM)),(eI .u32 aE)]⟩]:=by
   intro hr
   unfold aDN at hr
   refine hK2 _ _ ?_
   refine aXp fun K3 hK3 hG3=> ?_
   have J3:aF0 N=some r→K3 (aI 41 []) []:=by
    intro hr
    unfold aF0 at hr
    refine hK3 _ _ ?_
    refine zz ?_
    obtain rfl:=sj hr
    exact bE Tryz.results6 []
   obtain⟨res4,hL4,hr⟩:=aD hr
   refine zz ?_
   refine aXm<|aXr (fun m s h=> ∃(lB:Int),sC N aB m lB=some res4∧Ghost 0 s h (aI 41 [(30,(.row none 2 (aB.map aM))),(31,(eI .i64 (aB.length:Int))),(32,(eI .i64 lB))]) []) (n:=N) ⟨0,hL4,(zG [])⟩ (by rintro s h ⟨_,h0,_⟩;simp[sC]at h0) ?_
   rintro m4 s h ⟨lB,hr4,hg⟩
   refine aXq hg ?_
   clear hg hL4
   rw[sC]at hr4
   refine zz ?_
   refine aXo ?_
   refine zk hr4 rfl (fun h2 hr4=> ?_) (fun h2 hr4=> ?_)
   ·refine zz ?_
    refine aXo<|aXm ?_
    obtain⟨cU,h_3,hr4⟩:=aD hr4
    refine zz ?_
    refine zk hr4 rfl (fun h4 hr4=> ?_) (fun h4 hr4=> ?_)
    ·refine zz ?_
     obtain rfl:=sj hr4
     obtain rfl:=sj hr
     exact bE Tryz.results6 []
    refine zz ?_
    exact⟨aXk.wrap (lB+1),hr4,(zG [])⟩
   refine zz ?_
   obtain rfl:=sj hr4
   refine zz ?_
   exact hG3 _ _ _ _ (zG []) (J3 hr)
  obtain⟨res5,hL5,hr⟩:=aD hr
  refine zz ?_
  refine aXm<|aXr (fun m s h=> ∃(bT:Int),sS N aC aA aB aE m bT=some res5∧Ghost 0 s h (aI 41 [(1,(.ptr 0 0)),(18,(.row none 35 (aA.map aL))),(19,(eI .i64 (aA.length:Int))),(20,(eI .i64 bT))]) [some ⟨26,[(eI .u32 aC),(.row none 35 (aA.map aL)),(.row none 2 (aB.map aM)),(eI .u32 aE)]⟩]) (n:=N) ⟨0,hL5,(zG [0])⟩ (by rintro s h ⟨_,h0,_⟩;simp[sS]at h0) ?_
  rintro m5 s h ⟨bT,hr5,hg⟩
  refine aXq hg ?_
  clear hg hL5
  rw[sS]at hr5
  refine zz ?_
  refine aXo ?_
  refine zk hr5 rfl (fun h5 hr5=> ?_) (fun h5 hr5=> ?_)
  ·refine zz ?_
   refine aXo<|aXm ?_
   obtain⟨bV,h_6,hr5⟩:=aD hr5
   refine zz ?_
   refine xw (v:=(.ptr 1 0)) (h':=[some ⟨26,[(eI .u32 aC),(.row none 35 (aA.map aL)),(.row none 2 (aB.map aM)),(eI .u32 aE)]⟩,some ⟨48,(bG (eI .u8) (aXj 32 0) [(eI .u32 0),(eI .u32 0),(.row (some true) 1 [])])⟩]) (cY rG rfl rfl rfl) ?_
   obtain⟨x26,h_7,hr5⟩:=aD hr5
   refine zz ?_
   refine xp (aLL h_7) ?_
   refine zz ?_
   refine zk hr5 rfl (fun h8 hr5=> ?_) (fun h8 hr5=> ?_)
   ·refine zz ?_
    obtain rfl:=sj hr5
    obtain rfl:=sj hr
    exact bE Tryz.results6 []
   refine zz ?_
   exact⟨aXk.wrap (bT+1),hr5,(zG [0])⟩
  refine zz ?_
  obtain rfl:=sj hr5
  refine zz ?_
  exact hG2 _ _ _ _ (zG [0]) (J2 hr)
 rcases aXn (decide (70<(aA.length:Int)))with h9|h9
 ·replace hr:=cQ hr h9
  refine xr ?_
  refine zz ?_
  exact hG1 _ _ _ _ (zG [0]) (J1 true hr)
 replace hr:=cR hr h9
 refine xr ?_
 refine zz ?_
 exact hG1 _ _ _ _ (zG [0]) (J1 (decide (70<(aB.length:Int))) hr)
theorem aMr {N:Nat}{aC:Int}{aA:List aG}{aB:List aF}{aE:Int}{bK:Bool}{r:(List Int)×Int}(hr:aEX N aC aA aB aE bK=some r):
  Vm.Fn Tryz.prog 48 [] [(.agg [(eI .u32 aC),(.row none 35 (aA.map aL)),(.row none 2 (aB.map aM)),(eI .u32 aE)]),(eB bK)] (.tup [(.sl 0 0 r.1.length 1 false),(eI .i64 r.2)]) [some ⟨5,r.1.map (eI .u8)⟩]:=by
 refine zf Tryz.func48 Tryz.ntmps48 ?_
 unfold aEX at hr
 refine zz ?_
 refine aXo ?_
 obtain⟨x7,h_1,hr⟩:=aD hr
 refine zz ?_
 refine xp (aJs h_1) ?_
 refine zz ?_
 refine zk hr rfl (fun h2 hr=> ?_) (fun h2 hr=> ?_)
 ·refine zz ?_
  obtain rfl:=sj hr
  exact oL Tryz.results48 bJ bJ (zW 5 [1])
 obtain⟨b4,h_3,hr⟩:=aD hr
 refine zz ?_
 refine zc (aHf h_3) [] ?_
 refine zz ?_
 obtain rfl:=sj hr
 exact kG Tryz.results48 [1]
theorem aDv {N:Nat}{aC:Int}{aA:List aG}{aB:List aF}{aE:Int}{r:Bool}(hr:aBM N aC aA aB aE=some r):
  Vm.Fn Tryz.prog 25 [] [(.agg [(eI .u32 aC),(.row none 35 (aA.map aL)),(.row none 2 (aB.map aM)),(eI .u32 aE)])] (eB r) []:=by
 refine zf Tryz.func25 Tryz.ntmps25 ?_
 unfold aBM at hr
 obtain⟨x7,h_1,hr⟩:=aD hr
 refine zz ?_
 refine zc (aMr h_1) [] ?_
 refine zz ?_
 obtain rfl:=sj hr
 exact bE Tryz.results25 []
theorem wT {N:Nat}{vn:Int}{r:(List Int)}(hr:pA N vn=some r):
  Vm.Fn Tryz.prog 27 [] [(eI .u32 vn)] (.sl 0 0 r.length 1 false) [some ⟨5,r.map (eI .u8)⟩]:=by
 refine zf Tryz.func27 Tryz.ntmps27 ?_
 unfold pA at hr
 obtain⟨x4,h_1,hr⟩:=aD hr
 refine zz ?_
 refine zc (lP h_1) [] ?_
 refine zz ?_
 obtain rfl:=sj hr
 exact bE Tryz.results27 [0]
theorem aGw {N:Nat}{parts:List (List Int)}{r:(List Int)}(hr:yD N parts=some r):
  Vm.Fn Tryz.prog 30 [] [(.row none 1 (parts.map (eL 1 (eI .u8))))] (.sl 0 0 r.length 1 false) [some ⟨5,r.map (eI .u8)⟩]:=by
 refine zf Tryz.func30 Tryz.ntmps30 ?_
 unfold yD at hr
 refine zz ?_
 refine aXp fun K1 hK1 hG1=> ?_
 have J1: ∀(l0:List Int),aEE N l0=some r→K1 (aI 17 [(3,(.sl 0 0 l0.length 1 false))]) [some ⟨5,l0.map (eI .u8)⟩]:=by
  intro l0 hr
  unfold aEE at hr
  refine hK1 _ _ ?_
  refine zz ?_
  obtain rfl:=sj hr
  exact bE Tryz.results30 [0]
 obtain⟨bL,hL2,hr⟩:=aD hr
 refine zz ?_
 refine aXm<|aXr (fun m s h=> ∃(x8:Int)(aS:List Int),o7 N parts m x8 aS=some bL∧Ghost 0 s h (aI 17 [(3,(.sl 0 0 aS.length 1 false)),(6,(.row none 1 (parts.map (eL 1 (eI .u8))))),(7,(eI .i64 (parts.length:Int))),(8,(eI .i64 x8))]) [some ⟨5,aS.map (eI .u8)⟩]) (n:=N) ⟨0,[],hL2,(zW 5 [0])⟩ (by rintro s h ⟨_,_,h0,_⟩;simp[o7]at h0) ?_
 rintro m2 s h ⟨x8,aS,hr2,hg⟩
 refine aXq hg ?_
 clear hg hL2
 rw[o7]at hr2
 refine zz ?_
 refine aXo ?_
 refine zk hr2 rfl (fun h1 hr2=> ?_) (fun h1 hr2=> ?_)
 ·refine zz ?_
  refine aXo<|aXm ?_
  obtain⟨cD,h_2,hr2⟩:=aD hr2
  obtain⟨bQ,h_3,hr2⟩:=aD hr2
  refine zz ?_
  exact⟨aXk.wrap (x8+1),bQ,hr2,(zG [1])⟩
 refine zz ?_
 obtain rfl:=sj hr2
 refine zz ?_
 exact hG1 _ _ _ _ (zG [0]) (J1 aS hr)
theorem aEH {N:Nat}{bI:Int}{aZ:List Int}{r:(List Int)}(hr:uO N bI aZ=some r):
  Vm.Fn Tryz.prog 28 [] [(.agg [(eI .i64 bI),(.row none 1 (aZ.map (eI .u8)))])] (.sl 0 0 r.length 1 false) [some ⟨5,r.map (eI .u8)⟩]:=by
 refine zf Tryz.func28 Tryz.ntmps28 ?_
 unfold uO at hr
 refine zz ?_
 refine aXo ?_
 obtain⟨x6,h_1,hr⟩:=aD hr
 obtain⟨x9,h_3,hr⟩:=aD hr
 obtain⟨b4,h_5,hr⟩:=aD hr
 refine aXD mixed [] [30,51,52] [[0,1,2,3,4,5,6],[7,8,9]] ?_
 refine zz ?_
 refine zg (y7 h_1) [] ?_
 refine zz ?_
 refine zg (vN h_3) [] ?_
 refine zz ?_
 refine⟨_,_,(aXB (zv 1) (zv 2)), ?_⟩
 refine zz ?_
 refine zgL (aGw h_5) [] [3] ?_
 refine zz ?_
 obtain rfl:=sj hr
 exact bE Tryz.results28 [4]
theorem aO1 {N:Nat}{vn:Int}{r:(List Int)}(hr:aFk N vn=some r):
  Vm.Fn Tryz.prog 80 [] [(eI .u64 vn)] (.sl 0 0 r.length 1 false) [some ⟨5,r.map (eI .u8)⟩]:=by
 refine zf Tryz.func80 Tryz.ntmps80 ?_
 unfold aFk at hr
 obtain⟨x15,h_1,hr⟩:=aD hr
 refine zz ?_
 refine xw (v:=(.sl 0 0 x15.length 1 false)) (h':=[some ⟨5,x15.map (eI .u8)⟩]) (aKf rfl rfl (mkL (E:=(eI .u8)) (y:=0) dB dO ⟨zl,rfl,rfl⟩ rfl rfl rfl h_1 rfl rfl)) ?_
 obtain⟨x17,h_2,hr⟩:=aD hr
 refine zz ?_
 refine aXp fun K1 hK1 hG1=> ?_
 have J1: ∀(l0:List Int),aGj N l0=some r→K1 (aI 33 [(4,(.sl 0 0 l0.length 1 false))]) [some ⟨5,l0.map (eI .u8)⟩]:=by
  intro l0 hr
  unfold aGj at hr
  refine hK1 _ _ ?_
  refine zz ?_
  obtain rfl:=sj hr
  exact bE Tryz.results80 [0]
 obtain⟨bL,hL2,hr⟩:=aD hr
 refine zz ?_
 refine aXm<|aXr (fun m s h=> ∃(x18:Int)(aS:List Int),sH N vn m x18 aS=some bL∧Ghost 0 s h (aI 33 [(0,(eI .u64 vn)),(4,(.sl 0 0 aS.length 1 false)),(18,(eI .i64 x18))]) [some ⟨5,aS.map (eI .u8)⟩]) (n:=N) ⟨0,x15.set (aXw 0) 128,hL2,(lU [0])⟩ (by rintro s h ⟨_,_,h0,_⟩;simp[sH]at h0) ?_
 rintro m2 s h ⟨x18,aS,hr2,hg⟩
 refine aXq hg ?_
 clear hg hL2
 rw[sH]at hr2
 refine zz ?_
 refine aXo ?_
 refine zk hr2 rfl (fun h3 hr2=> ?_) (fun h3 hr2=> ?_)
 ·refine zz ?_
  refine aXo<|aXm ?_
  obtain⟨x27,h_4,hr2⟩:=aD hr2
  obtain⟨jL,h_5,hr2⟩:=aD hr2
  refine zz ?_
  exact⟨aXk.wrap (x18+1),jL,hr2,(zG [2])⟩
 refine zz ?_
 obtain rfl:=sj hr2
 refine zz ?_
 exact hG1 _ _ _ _ (zG [0]) (J1 aS hr)
theorem aJw {N:Nat}{parts:List (List Int)}{r:(List Int)}(hr:aD0 N parts=some r):
  Vm.Fn Tryz.prog 54 [] [(.row none 1 (parts.map (eL 1 (eI .u8))))] (.sl 0 0 r.length 1 false) [some ⟨5,r.map (eI .u8)⟩]:=by
 refine zf Tryz.func54 Tryz.ntmps54 ?_
 unfold aD0 at hr
 refine zz ?_
 refine aXp fun K1 hK1 hG1=> ?_
 have J1: ∀(l0:List Int),aFQ N l0=some r→K1 (aI 17 [(3,(.sl 0 0 l0.length 1 false))]) [some ⟨5,l0.map (eI .u8)⟩]:=by
  intro l0 hr
  unfold aFQ at hr
  refine hK1 _ _ ?_
  refine zz ?_
  obtain rfl:=sj hr
  exact bE Tryz.results54 [0]
 obtain⟨bL,hL2,hr⟩:=aD hr
 refine zz ?_
 refine aXm<|aXr (fun m s h=> ∃(x8:Int)(aS:List Int),tA N parts m x8 aS=some bL∧Ghost 0 s h (aI 17 [(3,(.sl 0 0 aS.length 1 false)),(6,(.row none 1 (parts.map (eL 1 (eI .u8))))),(7,(eI .i64 (parts.length:Int))),(8,(eI .i64 x8))]) [some ⟨5,aS.map (eI .u8)⟩]) (n:=N) ⟨0,[],hL2,(zW 5 [0])⟩ (by rintro s h ⟨_,_,h0,_⟩;simp[tA]at h0) ?_
 rintro m2 s h ⟨x8,aS,hr2,hg⟩
 refine aXq hg ?_
 clear hg hL2
 rw[tA]at hr2
 refine zz ?_
 refine aXo ?_
 refine zk hr2 rfl (fun h1 hr2=> ?_) (fun h1 hr2=> ?_)
 ·refine zz ?_
  refine aXo<|aXm ?_
  obtain⟨cD,h_2,hr2⟩:=aD hr2
  obtain⟨bQ,h_3,hr2⟩:=aD hr2
  refine zz ?_
  exact⟨aXk.wrap (x8+1),bQ,hr2,(zG [1])⟩
 refine zz ?_
 obtain rfl:=sj hr2
 refine zz ?_
 exact hG1 _ _ _ _ (zG [0]) (J1 aS hr)
theorem wR {N:Nat}{x k r:Int}(hr:kV N x k=some r):
  Vm.Fn Tryz.prog 115 [] [(eI .u32 x),(eI .i64 k)] (eI .u32 r) []:=by
 refine zf Tryz.func115 Tryz.ntmps115 ?_
 unfold kV at hr
 obtain⟨b4,h_1,hr⟩:=aD hr
 obtain⟨x15,h_2,hr⟩:=aD hr
 refine zz ?_
 obtain rfl:=sj hr
 exact bE Tryz.results115 []
theorem lX {N:Nat}{x vn r:Int}(hr:dR N x vn=some r):
  Vm.Fn Tryz.prog 105 [] [(eI .u32 x),(eI .i64 vn)] (eI .u32 r) []:=by
 refine zf Tryz.func105 Tryz.ntmps105 ?_
 unfold dR at hr
 obtain⟨x8,h_1,hr⟩:=aD hr
 refine zz ?_
 refine xw (aMG rfl (aPX ..))<|xp (wR h_1) ?_
 refine zz ?_
 obtain rfl:=sj hr
 exact bE Tryz.results105 []
theorem aI3 {N:Nat}{block:List Int}{r:(List Int)}(hr:q5 N block=some r):
  Vm.Fn Tryz.prog 104 [] [(.agg (block.map (eI .u8)))] (.agg (r.map (eI .u32))) []:=by
 refine zf Tryz.func104 Tryz.ntmps104 ?_
 unfold q5 at hr
 refine zz ?_
 refine aXp fun K1 hK1 hG1=> ?_
 have J1: ∀(l1:List Int),tB N l1=some r→K1 (aI 85 [(2,(.ptr 0 0)),(3,(.ptr 1 0))]) [some ⟨116,(aXj 64 0).map (eI .u32)⟩,some ⟨116,l1.map (eI .u32)⟩]:=by
  intro l1 hr
  unfold tB at hr
  refine hK1 _ _ ?_
  refine aXp fun K2 hK2 hG2=> ?_
  have J2: ∀(cS:List Int),sE N cS=some r→K2 (aI 85 [(2,(.ptr 0 0)),(3,(.ptr 1 0))]) [some ⟨116,(aXj 64 0).map (eI .u32)⟩,some ⟨116,cS.map (eI .u32)⟩]:=by
   intro cS hr
   unfold sE at hr
   refine hK2 _ _ ?_
   obtain⟨q,h_1,hr⟩:=aD hr
   refine zz ?_
   obtain rfl:=sj hr
   exact iE Tryz.results104 bJ (zG [])
  obtain⟨wL,hL3,hr⟩:=aD hr
  refine zz ?_
  refine aXm<|aXr (fun m s h=> ∃(vi:Int)(l1_2:List Int),jC N m vi l1_2=some wL∧Ghost 0 s h (aI 85 [(2,(.ptr 0 0)),(3,(.ptr 1 0)),(6,(eI .i64 vi))]) [some ⟨116,(aXj 64 0).map (eI .u32)⟩,some ⟨116,l1_2.map (eI .u32)⟩]) (n:=N) ⟨16,l1,hL3,(zG [0,1])⟩ (by rintro s h ⟨_,_,h0,_⟩;simp[jC]at h0) ?_
  rintro m3 s h ⟨vi,l1_2,hr3,hg⟩
  refine aXq hg ?_
  clear hg hL3
  rw[jC]at hr3
  refine aXo ?_
  refine zz ?_
  refine zk hr3 rfl (fun h2 hr3=> ?_) (fun h2 hr3=> ?_)
  ·refine zz ?_
   refine aXo<|aXm<|aXo ?_
   obtain⟨x37,h_3,hr3⟩:=aD hr3
   obtain⟨x39,h_4,hr3⟩:=aD hr3
   obtain⟨x44,h_6,hr3⟩:=aD hr3
   obtain⟨x50,h_8,hr3⟩:=aD hr3
   refine aXD mixed [105] [] [[0,1,2,3,4,5,6,7,8,9,10,11,12,13,14,15,16,17]] ?_
   refine zz ?_
   refine xu (lX h_4) ?_
   refine zz ?_
   refine xu (lX h_6) ?_
   refine zz ?_
   refine aXo ?_
   obtain⟨x54,h_9,hr3⟩:=aD hr3
   obtain⟨x56,h_10,hr3⟩:=aD hr3
   obtain⟨x61,h_12,hr3⟩:=aD hr3
   obtain⟨x67,h_14,hr3⟩:=aD hr3
   refine aXD mixed [105] [] [[0,1,2,3,4,5,6,7,8,9,10,11,12,13,14,15,16,17]] ?_
   refine zz ?_
   refine xu (lX h_10) ?_
   refine zz ?_
   refine xu (lX h_12) ?_
   obtain⟨x72,h_15,hr3⟩:=aD hr3
   obtain⟨x78,h_16,hr3⟩:=aD hr3
   obtain⟨x83,h_17,hr3⟩:=aD hr3
   refine zz ?_
   refine aXD mixed [] [] [[0,1,2,3,4,5,6,7,8,9,10,11,12,13,14,15]] ?_
   refine zz ?_
   exact⟨aXk.wrap (vi+1),l1_2.set (aXw vi) (aXt.wrap ((aXt.wrap ((aXt.wrap (x72+(bits .xor .u32 (bits .xor .u32 x39 x44) x50)))+x78))+(bits .xor .u32 (bits .xor .u32 x56 x61) x67))),hr3,(zG [0,1])⟩
  refine zz ?_
  obtain rfl:=sj hr3
  refine zz ?_
  exact hG2 _ _ _ _ (zG [0,1]) (J2 l1_2 hr)
 obtain⟨res4,hL4,hr⟩:=aD hr
 refine zz ?_
 refine aXm<|aXr (fun m s h=> ∃(x9:Int)(l2:List Int),hY N block m x9 l2=some res4∧Ghost 0 s h (aI 85 [(1,(.ptr 0 0)),(2,(.ptr 1 0)),(3,(.ptr 2 0)),(9,(eI .i64 x9))]) [some ⟨97,block.map (eI .u8)⟩,some ⟨116,(aXj 64 0).map (eI .u32)⟩,some ⟨116,l2.map (eI .u32)⟩]) (n:=N) ⟨0,aXj 64 0,hL4,(zG [0,1,2])⟩ (by rintro s h ⟨_,_,h0,_⟩;simp[hY]at h0) ?_
 rintro m4 s h ⟨x9,l2,hr4,hg⟩
 refine aXq hg ?_
 clear hg hL4
 rw[hY]at hr4
 refine zz ?_
 refine aXo ?_
 refine zk hr4 rfl (fun h18 hr4=> ?_) (fun h18 hr4=> ?_)
 ·refine zz ?_
  refine aXp fun K5 hK5 hG5=> ?_
  have J5: ∀(jD:List Int),wZ N block x9 (hY N block m4) jD=some res4→K5 (aI 85 [(1,(.ptr 0 0)),(2,(.ptr 1 0)),(3,(.ptr 2 0)),(9,(eI .i64 x9))]) [some ⟨97,block.map (eI .u8)⟩,some ⟨116,(aXj 64 0).map (eI .u32)⟩,some ⟨116,jD.map (eI .u32)⟩]:=by
   intro jD hr4
   unfold wZ at hr4
   refine hK5 _ _ ?_
   refine zz ?_
   exact⟨aXk.wrap (x9+1),jD,hr4,(zG [0,1,2])⟩
  refine aXm ?_
  obtain⟨res6,hL6,hr4⟩:=aD hr4
  refine zz ?_
  refine aXm<|aXr (fun m s h=> ∃(fR:Int)(kC:List Int),eO N block x9 m fR kC=some res6∧Ghost 0 s h (aI 85 [(1,(.ptr 0 0)),(2,(.ptr 1 0)),(3,(.ptr 2 0)),(4,(eI .i64 x9)),(9,(eI .i64 x9)),(12,(eI .i64 fR))]) [some ⟨97,block.map (eI .u8)⟩,some ⟨116,(aXj 64 0).map (eI .u32)⟩,some ⟨116,kC.map (eI .u32)⟩]) (n:=N) ⟨0,l2,hL6,(zG [0,1,2])⟩ (by rintro s h ⟨_,_,h0,_⟩;simp[eO]at h0) ?_
  rintro m6 s h ⟨fR,kC,hr6,hg⟩
  refine aXq hg ?_
  clear hg hL6
  rw[eO]at hr6
  refine zz ?_
  refine aXo ?_
  refine zk hr6 rfl (fun h19 hr6=> ?_) (fun h19 hr6=> ?_)
  ·refine zz ?_
   refine aXo<|aXm ?_
   obtain⟨x17,h_20,hr6⟩:=aD hr6
   obtain⟨x19,h_21,hr6⟩:=aD hr6
   obtain⟨fG,h_22,hr6⟩:=aD hr6
   refine zz ?_
   refine aXD mixed [] [] [[0,1,2,3,4,5,6,7,8,9,10,11,12,13,14]] ?_
   refine zz ?_
   exact⟨aXk.wrap (fR+1),kC.set (aXw x9) (bits .or .u32 x19 (aXt.wrap fG)),hr6,(zG [0,1,2])⟩
  refine zz ?_
  obtain rfl:=sj hr6
  refine zz ?_
  exact hG5 _ _ _ _ (zG [0,1,2]) (J5 kC hr4)
 refine zz ?_
 obtain rfl:=sj hr4
 refine zz ?_
 exact hG1 _ _ _ _ (zG [1,2]) (J1 l2 hr)
theorem aJh {N:Nat}{cT block:List Int}{r:(List Int)}(hr:mQ N cT block=some r):
  Vm.Fn Tryz.prog 81 [] [(.agg (cT.map (eI .u32))),(.agg (block.map (eI .u8)))] (.agg (r.map (eI .u32))) []:=by
 refine zf Tryz.func81 Tryz.ntmps81 ?_
 unfold mQ at hr
 obtain⟨q,h_1,hr⟩:=aD hr
 obtain⟨x18,h_2,hr⟩:=aD hr
 obtain⟨q_1,h_3,hr⟩:=aD hr
 refine zz ?_
 refine xp (aI3 h_2) ?_
 refine zz ?_
 refine aXo ?_
 obtain⟨x19,h_4,hr⟩:=aD hr
 obtain⟨d5,h_5,hr⟩:=aD hr
 obtain⟨iD,h_6,hr⟩:=aD hr
 obtain⟨x25,h_7,hr⟩:=aD hr
 refine aXD mixed [] [] [[0,1,2,3,4,5,6,7,8,9,10,11]] ?_
 refine zz ?_
 refine aXo ?_
 obtain⟨x27,h_8,hr⟩:=aD hr
 obtain⟨x29,h_9,hr⟩:=aD hr
 obtain⟨eG,h_10,hr⟩:=aD hr
 obtain⟨iA,h_11,hr⟩:=aD hr
 refine aXD mixed [] [] [[0,1,2,3,4,5,6,7,8,9,10,11]] ?_
 refine zz ?_
 refine aXp fun K1 hK1 hG1=> ?_
 have J1: ∀(va b c d ve f g vh:Int),sD N cT va b c d ve f g vh=some r→K1 (aI 131 [(2,(.ptr 0 0)),(4,(.ptr 1 0)),(6,(eI .u32 va)),(7,(eI .u32 b)),(8,(eI .u32 c)),(9,(eI .u32 d)),(10,(eI .u32 ve)),(11,(eI .u32 f)),(12,(eI .u32 g)),(13,(eI .u32 vh))]) [some ⟨95,cT.map (eI .u32)⟩,some ⟨95,(aXj 8 0).map (eI .u32)⟩]:=by
  intro va b c d ve f g vh hr
  unfold sD at hr
  refine hK1 _ _ ?_
  obtain⟨x98,h_12,hr⟩:=aD hr
  obtain⟨aJ5,h_13,hr⟩:=aD hr
  obtain⟨yY,h_14,hr⟩:=aD hr
  obtain⟨aQ8,h_15,hr⟩:=aD hr
  obtain⟨aKo,h_16,hr⟩:=aD hr
  obtain⟨aDj,h_17,hr⟩:=aD hr
  obtain⟨aQD,h_18,hr⟩:=aD hr
  obtain⟨aHk,h_19,hr⟩:=aD hr
  refine zz ?_
  refine xw (v:=(.agg ([aXt.wrap (x98+va),aXt.wrap (aJ5+b),aXt.wrap (yY+c),aXt.wrap (aQ8+d),aXt.wrap (aKo+ve),aXt.wrap (aDj+f),aXt.wrap (aQD+g),aXt.wrap (aHk+vh)].map (eI .u32)))) (cE rfl (nR aJ6 wM rfl)) ?_
  refine zz ?_
  obtain rfl:=sj hr
  exact iE Tryz.results81 bJ (zG [])
 obtain⟨bL,hL2,hr⟩:=aD hr
 refine zz ?_
 refine aXm<|aXr (fun m s h=> ∃(va_1 b_1 c_1 d_1 ve_1 f_1 g_1 vh_1 x35:Int),i8 N cT x18 m va_1 b_1 c_1 d_1 ve_1 f_1 g_1 vh_1 x35=some bL∧Ghost 0 s h (aI 131 [(2,(.ptr 0 0)),(4,(.ptr 1 0)),(5,(.ptr 2 0)),(6,(eI .u32 va_1)),(7,(eI .u32 b_1)),(8,(eI .u32 c_1)),(9,(eI .u32 d_1)),(10,(eI .u32 ve_1)),(11,(eI .u32 f_1)),(12,(eI .u32 g_1)),(13,(eI .u32 vh_1)),(35,(eI .i64 x35))]) [some ⟨95,cT.map (eI .u32)⟩,some ⟨95,(aXj 8 0).map (eI .u32)⟩,some ⟨116,x18.map (eI .u32)⟩]) (n:=N) ⟨x19,d5,iD,x25,x27,x29,eG,iA,0,hL2,(zG [0,2,3])⟩ (by rintro s h ⟨_,_,_,_,_,_,_,_,_,h0,_⟩;simp[i8]at h0) ?_
 rintro m2 s h ⟨va_1,b_1,c_1,d_1,ve_1,f_1,g_1,vh_1,x35,hr2,hg⟩
 refine aXq hg ?_
 clear hg hL2
 rw[i8]at hr2
 refine zz ?_
 refine aXo ?_
 refine zk hr2 rfl (fun h20 hr2=> ?_) (fun h20 hr2=> ?_)
 ·refine zz ?_
  refine aXo<|aXm ?_
  refine zz ?_
  refine aXo ?_
  obtain⟨x40,h_21,hr2⟩:=aD hr2
  obtain⟨x42,h_23,hr2⟩:=aD hr2
  obtain⟨x45,h_25,hr2⟩:=aD hr2
  obtain⟨x58,h_27,hr2⟩:=aD hr2
  obtain⟨x62,h_28,hr2⟩:=aD hr2
  refine aXD mixed [105] [] [[0,1,2,3,4,5,6,7,8,9,10,11,12,13,14,15,16,17,18,19,20,21,22,23,24,25,26,27]] ?_
  refine zz ?_
  refine xu (lX h_21) ?_
  refine zz ?_
  refine xu (lX h_23) ?_
  refine zz ?_
  refine xu (lX h_25) ?_
  refine zz ?_
  refine xw (v:=(eI .u32 (bits .xor .u32 (aXH .u32) ve_1))) (aMG rfl (aN4 rfl _)) ?_
  refine zz ?_
  refine xw (v:=(.eptr [(.agg (aE1.map (eI .u32)))] 0 (aXw x35))) (aDs rfl rfl (iaG aPf wM rfl h_27))<|xw (v:=(eI .u32 x58)) (cA rfl (ldG (E:=(eI .u32)) (y:=x58) wM rfl (r6 h_27))) ?_
  obtain⟨x66,h_29,hr2⟩:=aD hr2
  obtain⟨x68,h_30,hr2⟩:=aD hr2
  obtain⟨x71,h_31,hr2⟩:=aD hr2
  refine zz ?_
  refine xp (lX h_29) ?_
  refine zz ?_
  refine xp (lX h_30) ?_
  refine zz ?_
  refine xp (lX h_31) ?_
  refine zz ?_
  exact⟨aXt.wrap ((aXt.wrap ((aXt.wrap ((aXt.wrap ((aXt.wrap (vh_1+(bits .xor .u32 (bits .xor .u32 x40 x42) x45)))+(bits .xor .u32 (bits .and .u32 ve_1 f_1) (bits .and .u32 (bits .xor .u32 (aXH .u32) ve_1) g_1))))+x58))+x62))+(aXt.wrap ((bits .xor .u32 (bits .xor .u32 x66 x68) x71)+(bits .xor .u32 (bits .xor .u32 (bits .and .u32 va_1 b_1) (bits .and .u32 va_1 c_1)) (bits .and .u32 b_1 c_1))))),va_1,b_1,c_1,aXt.wrap (d_1+(aXt.wrap ((aXt.wrap ((aXt.wrap ((aXt.wrap (vh_1+(bits .xor .u32 (bits .xor .u32 x40 x42) x45)))+(bits .xor .u32 (bits .and .u32 ve_1 f_1) (bits .and .u32 (bits .xor .u32 (aXH .u32) ve_1) g_1))))+x58))+x62))),ve_1,f_1,g_1,aXk.wrap (x35+1),hr2,(zG [0,1,2])⟩
 refine zz ?_
 obtain rfl:=sj hr2
 refine zz ?_
 exact hG1 _ _ _ _ (zG [0,1]) (J1 va_1 b_1 c_1 d_1 ve_1 f_1 g_1 vh_1 hr)
theorem aDD {N:Nat}{b:List Int}{r:(List Int)}(hr:aBd N b=some r):
  Vm.Fn Tryz.prog 53 [] [(.row none 1 (b.map (eI .u8)))] (.agg (r.map (eI .u8))) []:=by
 refine zf Tryz.func53 Tryz.ntmps53 ?_
 unfold aBd at hr
 obtain⟨fR,h_1,hr⟩:=aD hr
 obtain⟨bQ,h_2,hr⟩:=aD hr
 refine zz ?_
 refine zc (aO1 h_1) [] ?_
 refine aXF (zv 1) ?_
 refine zz ?_
 refine jI (aJw h_2) [] [2] ?_
 refine zz ?_
 refine xw (v:=(.agg (aAf.map (eI .u32)))) (cA rfl (aNj (E:=(eI .u32)) (l:=aAf) aJ6 rfl rfl)) ?_
 refine zz ?_
 refine aXp fun K1 hK1 hG1=> ?_
 have J1: ∀(l1:List Int),aDB N l1=some r→K1 (aI 48 [(2,(.ptr 0 0)),(4,(.ptr 1 0))]) [some ⟨28,(aXj 32 0).map (eI .u8)⟩,some ⟨95,l1.map (eI .u32)⟩]:=by
  intro l1 hr
  unfold aDB at hr
  refine hK1 _ _ ?_
  refine zz ?_
  refine aXp fun K2 hK2 hG2=> ?_
  have J2: ∀(cS:List Int),aDC N cS=some r→K2 (aI 48 [(2,(.ptr 0 0)),(6,(.ptr 1 0))]) [some ⟨28,(aXj 32 0).map (eI .u8)⟩,some ⟨28,cS.map (eI .u8)⟩]:=by
   intro cS hr
   unfold aDC at hr
   refine hK2 _ _ ?_
   obtain⟨q,h_3,hr⟩:=aD hr
   refine zz ?_
   obtain rfl:=sj hr
   exact iE Tryz.results53 bJ (zG [])
  obtain⟨wL,hL3,hr⟩:=aD hr
  refine zz ?_
  refine aXm<|aXr (fun m s h=> ∃(eG:Int)(l2:List Int),vQ N l1 m eG l2=some wL∧Ghost 0 s h (aI 48 [(2,(.ptr 0 0)),(4,(.ptr 1 0)),(6,(.ptr 2 0)),(31,(eI .i64 eG))]) [some ⟨28,(aXj 32 0).map (eI .u8)⟩,some ⟨95,l1.map (eI .u32)⟩,some ⟨28,l2.map (eI .u8)⟩]) (n:=N) ⟨0,aXj 32 0,hL3,(zG [0,1,2])⟩ (by rintro s h ⟨_,_,h0,_⟩;simp[vQ]at h0) ?_
  rintro m3 s h ⟨eG,l2,hr3,hg⟩
  refine aXq hg ?_
  clear hg hL3
  rw[vQ]at hr3
  refine zz ?_
  refine aXo ?_
  refine zk hr3 rfl (fun h4 hr3=> ?_) (fun h4 hr3=> ?_)
  ·refine zz ?_
   refine aXo<|aXm ?_
   obtain⟨x37,h_5,hr3⟩:=aD hr3
   obtain⟨x43,h_6,hr3⟩:=aD hr3
   obtain⟨x45,h_7,hr3⟩:=aD hr3
   refine zz ?_
   exact⟨aXk.wrap (eG+1),l2.set (aXw eG) (IntKind.u8.wrap x43),hr3,(zG [0,1,2])⟩
  refine zz ?_
  obtain rfl:=sj hr3
  refine zz ?_
  exact hG2 _ _ _ _ (zG [0,2]) (J2 l2 hr)
 refine zz ?_
 refine aXq (zv 3) ?_
 obtain⟨res4,hL4,hr⟩:=aD hr
 refine aXm<|aXr (fun m s h=> ∃(x19:Int)(l1_2:List Int),u5 N bQ m x19 l1_2=some res4∧Ghost 0 s h (aI 48 [(2,(.ptr 0 0)),(3,(.row none 1 (bQ.map (eI .u8)))),(4,(.ptr 1 0)),(18,(eI .i64 (aXk.wrap (Int.tdiv (bQ.length:Int) 64)))),(19,(eI .i64 x19))]) [some ⟨28,(aXj 32 0).map (eI .u8)⟩,some ⟨95,l1_2.map (eI .u32)⟩]) (n:=N) ⟨0,aAf,hL4,(zG [0,4])⟩ (by rintro s h ⟨_,_,h0,_⟩;simp[u5]at h0) ?_
 rintro m4 s h ⟨x19,l1_2,hr4,hg⟩
 refine aXq hg ?_
 clear hg hL4
 rw[u5]at hr4
 refine zz ?_
 refine aXo ?_
 refine zk hr4 rfl (fun h8 hr4=> ?_) (fun h8 hr4=> ?_)
 ·refine zz ?_
  refine aXo<|aXm ?_
  obtain⟨q_1,h_9,hr4⟩:=aD hr4
  obtain⟨x26,h_10,hr4⟩:=aD hr4
  obtain⟨x27,h_11,hr4⟩:=aD hr4
  obtain⟨x29,h_12,hr4⟩:=aD hr4
  obtain⟨q_2,h_14,hr4⟩:=aD hr4
  refine zz ?_
  refine aXD mixed [81] [] [[0,1,2,3,4,5,6,7,8]] ?_
  refine zz ?_
  refine xw (v:=(.eptr [.agg (x27.map (eI .u8))] 0 0)) (aFX rfl (apR (E:=(eI .u8)) aRe (fun _=>rfl) zl h_11))<|xw (v:=(.agg (x27.map (eI .u8)))) (cA rfl (aNj (E:=(eI .u8)) (l:=x27) aRe rfl (cP h_11)))<|xu (aJh h_12) ?_
  refine zz ?_
  exact⟨aXk.wrap (x19+1),x29,hr4,(zG [0,1])⟩
 refine zz ?_
 obtain rfl:=sj hr4
 refine zz ?_
 exact hG1 _ _ _ _ (zG [0,1]) (J1 l1_2 hr)
theorem aCc {N:Nat}{b:List Int}{r:(List Int)}(hr:rV N b=some r):
  Vm.Fn Tryz.prog 31 [] [(.row none 1 (b.map (eI .u8)))] (.row none 1 (r.map (eI .u8))) []:=by
 refine zf Tryz.func31 Tryz.ntmps31 ?_
 unfold rV at hr
 obtain⟨x5,h_1,hr⟩:=aD hr
 obtain⟨q,h_2,hr⟩:=aD hr
 refine zz ?_
 refine xp (aDD h_1) ?_
 refine zz ?_
 obtain rfl:=sj hr
 exact iE Tryz.results31 bJ (aXB (zv 0) (zG []))
theorem aGl {N:Nat}{tag:ByteArray}{b:List Int}{r:(List Int)}(hr:z4 N tag b=some r):
  Vm.Fn Tryz.prog 29 [] [(eS tag),(.row none 1 (b.map (eI .u8)))] (.agg (r.map (eI .u8))) []:=by
 refine zf Tryz.func29 Tryz.ntmps29 ?_
 unfold z4 at hr
 obtain⟨x7,h_1,hr⟩:=aD hr
 obtain⟨x8,h_2,hr⟩:=aD hr
 obtain⟨q,h_3,hr⟩:=aD hr
 refine zz ?_
 refine aUW (h':=[some ⟨28,(aXj 32 0).map (eI .u8)⟩,some ⟨5,x7.map (eI .u8)⟩]) rfl ti9 dB dO h_1 rfl rfl<|jI (aDD h_2) [] [1] ?_
 refine zz ?_
 refine aXo ?_
 obtain⟨dA,h_4,hr⟩:=aD hr
 obtain⟨bQ,h_6,hr⟩:=aD hr
 obtain⟨q_1,h_8,hr⟩:=aD hr
 refine aXD mixed [] [53,54] [[0,1,2],[3,4,5,6]] ?_
 refine zz ?_
 refine⟨_,_,(zv 2), ?_⟩
 refine zz ?_
 refine zgL (aJw h_4) [] [3] ?_
 refine zgL (aDD h_6) [] [4] ?_
 refine zz ?_
 obtain rfl:=sj hr
 exact iE Tryz.results29 bJ (zG [])
theorem aIf {N:Nat}{aC:Int}{aA:List aG}{aB:List aF}{aE vi bI:Int}{aZ:List Int}{r:(List Int)×Int}(hr:vT N aC aA aB aE vi bI aZ=some r):
  Vm.Fn Tryz.prog 14 [] [(.agg [(eI .u32 aC),(.row none 35 (aA.map aL)),(.row none 2 (aB.map aM)),(eI .u32 aE)]),(eI .i64 vi),(.agg [(eI .i64 bI),(.row none 1 (aZ.map (eI .u8)))])] (.tup [(.agg (r.1.map (eI .u8))),(eI .i64 r.2)]) []:=by
 refine zf Tryz.func14 Tryz.ntmps14 ?_
 unfold vT at hr
 refine zz ?_
 refine aXo ?_
 refine aXp fun K1 hK1 hG1=> ?_
 have J1: ∀(x28:Bool),n9 N aC aA aB aE vi bI aZ x28=some r→K1 (aI 90 [(1,(eI .i64 vi)),(3,(.ptr 0 0)),(5,(.ptr 1 0)),(6,(.ptr 2 0)),(28,(eB x28))]) [some ⟨26,[(eI .u32 aC),(.row none 35 (aA.map aL)),(.row none 2 (aB.map aM)),(eI .u32 aE)]⟩,some ⟨33,[(eI .i64 bI),(.row none 1 (aZ.map (eI .u8)))]⟩,some ⟨28,(aXj 32 0).map (eI .u8)⟩]:=by
  intro x28 hr
  unfold n9 at hr
  refine hK1 _ _ ?_
  refine zk hr rfl (fun h1 hr=> ?_) (fun h1 hr=> ?_)
  ·refine zz ?_
   refine xw (v:=(.agg ([0,0,0,0,0,0,0,0,0,0,0,0,0,0,0,0,0,0,0,0,0,0,0,0,0,0,0,0,0,0,0,0].map (eI .u8)))) (cE rfl (nR wJ dO rfl)) ?_
   refine zz ?_
   obtain rfl:=sj hr
   exact oL Tryz.results14 bJ bJ (lU [])
  refine zz ?_
  refine aXo ?_
  refine aXp fun K2 hK2 hG2=> ?_
  have J2: ∀(x38:Bool),oA N aC aA aB aE vi bI aZ x38=some r→K2 (aI 90 [(1,(eI .i64 vi)),(3,(.ptr 0 0)),(5,(.ptr 1 0)),(6,(.ptr 2 0)),(38,(eB x38))]) [some ⟨26,[(eI .u32 aC),(.row none 35 (aA.map aL)),(.row none 2 (aB.map aM)),(eI .u32 aE)]⟩,some ⟨33,[(eI .i64 bI),(.row none 1 (aZ.map (eI .u8)))]⟩,some ⟨28,(aXj 32 0).map (eI .u8)⟩]:=by
   intro x38 hr
   unfold oA at hr
   refine hK2 _ _ ?_
   refine zk hr rfl (fun h2 hr=> ?_) (fun h2 hr=> ?_)
   ·refine zz ?_
    refine xw (v:=(.agg ([0,0,0,0,0,0,0,0,0,0,0,0,0,0,0,0,0,0,0,0,0,0,0,0,0,0,0,0,0,0,0,0].map (eI .u8)))) (cE rfl (nR wJ dO rfl)) ?_
    refine zz ?_
    obtain rfl:=sj hr
    exact oL Tryz.results14 bJ bJ (lU [])
   refine zz ?_
   refine aXp fun K3 hK3 hG3=> ?_
   have J3: ∀(l3 l4:List Int),vH N aC aA aB aE vi bI aZ l3 l4=some r→K3 (aI 90 [(1,(eI .i64 vi)),(3,(.ptr 0 0)),(5,(.ptr 1 0)),(6,(.ptr 2 0)),(8,(.sl 3 0 l3.length 1 false)),(9,(.sl 4 0 l4.length 1 false)),(10,(.row (some true) 1 []))]) [some ⟨26,[(eI .u32 aC),(.row none 35 (aA.map aL)),(.row none 2 (aB.map aM)),(eI .u32 aE)]⟩,some ⟨33,[(eI .i64 bI),(.row none 1 (aZ.map (eI .u8)))]⟩,some ⟨28,(aXj 32 0).map (eI .u8)⟩,some ⟨5,l3.map (eI .u8)⟩,some ⟨5,l4.map (eI .u8)⟩]:=by
    intro l3 l4 hr
    unfold vH at hr
    refine hK3 _ _ ?_
    refine aXp fun K4 hK4 hG4=> ?_
    have J4: ∀(l5:List Int),vI N aC aA aB aE vi bI aZ l3 l4 l5=some r→K4 (aI 90 [(1,(eI .i64 vi)),(3,(.ptr 0 0)),(5,(.ptr 1 0)),(6,(.ptr 2 0)),(8,(.sl 3 0 l3.length 1 false)),(9,(.sl 4 0 l4.length 1 false)),(10,(.sl 5 0 l5.length 1 false))]) [some ⟨26,[(eI .u32 aC),(.row none 35 (aA.map aL)),(.row none 2 (aB.map aM)),(eI .u32 aE)]⟩,some ⟨33,[(eI .i64 bI),(.row none 1 (aZ.map (eI .u8)))]⟩,some ⟨28,(aXj 32 0).map (eI .u8)⟩,some ⟨5,l3.map (eI .u8)⟩,some ⟨5,l4.map (eI .u8)⟩,some ⟨5,l5.map (eI .u8)⟩]:=by
     intro l5 hr
     unfold vI at hr
     refine hK4 _ _<|aXo<|aXq (zv 3) ?_
     refine aXq (zv 4) ?_
     refine aXq (zv 5) ?_
     obtain⟨x72,h_3,hr⟩:=aD hr
     obtain⟨x74,h_5,hr⟩:=aD hr
     obtain⟨x76,h_7,hr⟩:=aD hr
     obtain⟨x78,h_9,hr⟩:=aD hr
     obtain⟨x81,h_11,hr⟩:=aD hr
     obtain⟨x84,h_13,hr⟩:=aD hr
     obtain⟨x86,h_15,hr⟩:=aD hr
     obtain⟨x88,h_17,hr⟩:=aD hr
     obtain⟨x89,h_19,hr⟩:=aD hr
     obtain⟨q,h_21,hr⟩:=aD hr
     refine aXD mixed [31] [27,28,29,30] [[0,1,2,3,4,5,6,7,8,9,10,11,12,13,14,15,16],[17,18,19,20,21]] ?_
     refine zz ?_
     refine zg (wT h_3) [] ?_
     refine zz ?_
     refine xu (aCc h_5) ?_
     refine zz ?_
     refine xu (aCc h_7) ?_
     refine zz ?_
     refine xu (aCc h_9) ?_
     refine zz ?_
     refine zg (wT h_11) [] ?_
     refine zz ?_
     refine zg (wT h_13) [] ?_
     refine zz ?_
     refine zg (aEH h_15) [] ?_
     refine zz ?_
     refine⟨_,_,(aXB (aXB (aXB (zv 6) (zv 7)) (zv 8)) (zv 9)), ?_⟩
     refine zz ?_
     refine zgL (aGw h_17) [] [10] ?_
     refine zgL (aGl h_19) [] [11] ?_
     refine zz ?_
     obtain rfl:=sj hr
     exact oL Tryz.results14 bJ bJ (lU [])
    obtain⟨res5,hL5,hr⟩:=aD hr
    refine zz ?_
    refine aXm<|aXr (fun m s h=> ∃(x61:Int)(l5_1:List Int),iF N aC aA aB aE vi bI aZ l3 l4 m x61 l5_1=some res5∧Ghost 0 s h (aI 90 [(1,(eI .i64 vi)),(3,(.ptr 0 0)),(5,(.ptr 1 0)),(6,(.ptr 2 0)),(8,(.sl 3 0 l3.length 1 false)),(9,(.sl 4 0 l4.length 1 false)),(10,(.sl 5 0 l5_1.length 1 false)),(59,(.row none 2 (aB.map aM))),(60,(eI .i64 (aB.length:Int))),(61,(eI .i64 x61))]) [some ⟨26,[(eI .u32 aC),(.row none 35 (aA.map aL)),(.row none 2 (aB.map aM)),(eI .u32 aE)]⟩,some ⟨33,[(eI .i64 bI),(.row none 1 (aZ.map (eI .u8)))]⟩,some ⟨28,(aXj 32 0).map (eI .u8)⟩,some ⟨5,l3.map (eI .u8)⟩,some ⟨5,l4.map (eI .u8)⟩,some ⟨5,l5_1.map (eI .u8)⟩]) (n:=N) ⟨0,[],hL5,(zW 5 [0,1,2,3,4,5])⟩ (by rintro s h ⟨_,_,h0,_⟩;simp[iF]at h0) ?_
    rintro m5 s h ⟨x61,l5_1,hr5,hg⟩
    refine aXq hg ?_
    clear hg hL5
    rw[iF]at hr5
    refine zz ?_
    refine aXo ?_
    refine zk hr5 rfl (fun h22 hr5=> ?_) (fun h22 hr5=> ?_)
    ·refine zz ?_
     refine aXo<|aXm ?_
     obtain⟨x63,h_23,hr5⟩:=aD hr5
     obtain⟨x67,h_24,hr5⟩:=aD hr5
     obtain⟨x68,h_25,hr5⟩:=aD hr5
     refine zz ?_
     refine zc (aEH h_24) [] ?_
     refine zz ?_
     exact⟨aXk.wrap (x61+1),x68,hr5,(zG [0,1,2,3,4,8])⟩
    refine zz ?_
    obtain rfl:=sj hr5
    refine zz ?_
    exact hG4 _ _ _ _ (zG [0,1,2,3,4,5]) (J4 l5_1 hr)
   obtain⟨res6,hL6,hr⟩:=aD hr
   refine zz ?_
   refine aXm<|aXr (fun m s h=> ∃(x43:Int)(e9 iB:List Int),lG N aC aA aB aE vi bI aZ m x43 e9 iB=some res6∧Ghost 0 s h (aI 90 [(1,(eI .i64 vi)),(3,(.ptr 0 0)),(5,(.ptr 1 0)),(6,(.ptr 2 0)),(8,(.sl 3 0 e9.length 1 false)),(9,(.sl 4 0 iB.length 1 false)),(10,(.row (some true) 1 [])),(41,(.row none 35 (aA.map aL))),(42,(eI .i64 (aA.length:Int))),(43,(eI .i64 x43))]) [some ⟨26,[(eI .u32 aC),(.row none 35 (aA.map aL)),(.row none 2 (aB.map aM)),(eI .u32 aE)]⟩,some ⟨33,[(eI .i64 bI),(.row none 1 (aZ.map (eI .u8)))]⟩,some ⟨28,(aXj 32 0).map (eI .u8)⟩,some ⟨5,e9.map (eI .u8)⟩,some ⟨5,iB.map (eI .u8)⟩]) (n:=N) ⟨0,[],[],hL6,(aXB (aXK (fr':=[(1,(eI .i64 vi)),(3,(.ptr 0 0)),(5,(.ptr 1 0)),(6,(.ptr 2 0)),(8,(.sl 3 0 0 1 false)),(9,(.row (some true) 1 [])),(10,(.row (some true) 1 [])),(41,(.row none 35 (aA.map aL))),(42,(eI .i64 (aA.length:Int))),(43,(eI .i64 0))]) (h1:=[some ⟨26,[(eI .u32 aC),(.row none 35 (aA.map aL)),(.row none 2 (aB.map aM)),(eI .u32 aE)]⟩,some ⟨33,[(eI .i64 bI),(.row none 1 (aZ.map (eI .u8)))]⟩,some ⟨28,(aXj 32 0).map (eI .u8)⟩]) 5 (FLe.same rfl (FLe.same rfl (FLe.same rfl (FLe.same rfl (FLe.le rfl (V.le_virt rfl) (FLe.same rfl (FLe.same rfl (FLe.same rfl (FLe.same rfl (FLe.same rfl FLe.nil)))))))))) (HLv.live (V.les_refl _ _) rfl (HLv.live (V.les_refl _ _) rfl (HLv.live (V.les_refl _ _) (all_map (fun _=>rfl) _) HLv.nil)))) (zW 5 [0,1,2,3,4]))⟩ (by rintro s h ⟨_,_,_,h0,_⟩;simp[lG]at h0) ?_
   rintro m6 s h ⟨x43,e9,iB,hr6,hg⟩
   refine aXq hg ?_
   clear hg hL6
   rw[lG]at hr6
   refine zz ?_
   refine aXo ?_
   refine zk hr6 rfl (fun h26 hr6=> ?_) (fun h26 hr6=> ?_)
   ·refine zz ?_
    refine aXo<|aXm ?_
    obtain⟨x45,h_27,hr6⟩:=aD hr6
    refine zz ?_
    refine xw (v:=(.ptr 5 0)) (h':=[some ⟨26,[(eI .u32 aC),(.row none 35 (aA.map aL)),(.row none 2 (aB.map aM)),(eI .u32 aE)]⟩,some ⟨33,[(eI .i64 bI),(.row none 1 (aZ.map (eI .u8)))]⟩,some ⟨28,(aXj 32 0).map (eI .u8)⟩,some ⟨5,e9.map (eI .u8)⟩,some ⟨5,iB.map (eI .u8)⟩,some ⟨48,(bG (eI .u8) (aXj 32 0) [(eI .u32 0),(eI .u32 0),(.row (some true) 1 [])])⟩]) (cY rG rfl rfl rfl) ?_
    obtain⟨x50,h_28,hr6⟩:=aD hr6
    obtain⟨x51,h_29,hr6⟩:=aD hr6
    refine zz ?_
    refine zc (aHW h_28) [] ?_
    obtain⟨x55,h_30,hr6⟩:=aD hr6
    obtain⟨x56,h_31,hr6⟩:=aD hr6
    refine zz ?_
    refine zc (wT h_30) [] ?_
    refine zz ?_
    exact⟨aXk.wrap (x43+1),x51,x56,hr6,(zG [0,1,2,7,9])⟩
   refine zz ?_
   obtain rfl:=sj hr6
   refine zz ?_
   exact hG3 _ _ _ _ (zG [0,1,2,3,4]) (J3 e9 iB hr)
  rcases aXn (decide (vi<0))with h32|h32
  ·replace hr:=cQ hr h32
   refine xr ?_
   refine zz ?_
   exact hG2 _ _ _ _ (zG [0,1,2]) (J2 true hr)
  replace hr:=cR hr h32
  refine xr ?_
  refine zz ?_
  exact hG2 _ _ _ _ (zG [0,1,2]) (J2 (decide ((aA.length:Int)≤vi)) hr)
 obtain⟨x16,h_33,hr⟩:=aD hr
 rcases aXn (!x16)with h34|h34
 ·replace hr:=cQ hr h34
  refine xr ?_
  refine zz ?_
  refine xp (aDv h_33) ?_
  refine zz ?_
  refine xX rfl<|xX rfl<|xX rfl<|xX rfl ?_
  refine zz ?_
  exact hG1 _ _ _ _ (zG [0,1,2]) (J1 true hr)
 replace hr:=cR hr h34
 rcases aXn (decide (bI<0))with h35|h35
 ·replace hr:=cQ hr h35
  refine xr ?_
  refine zz ?_
  refine xp (aDv h_33) ?_
  refine zz ?_
  exact hG1 _ _ _ _ (zG [0,1,2]) (J1 true hr)
 replace hr:=cR hr h35
 refine xr ?_
 refine zz ?_
 refine xp (aDv h_33) ?_
 refine zz ?_
 exact hG1 _ _ _ _ (zG [0,1,2]) (J1 (decide (520<(aZ.length:Int))) hr)
theorem aIM {N:Nat}{code:Int}{r:Bool}(hr:yF N code=some r):
  Vm.Fn Tryz.prog 106 [] [(eI .i64 code)] (eB r) []:=by
 refine zf Tryz.func106 Tryz.ntmps106 ?_
 unfold yF at hr
 refine zz ?_
 refine aXp fun K1 hK1 hG1=> ?_
 have J1: ∀(x2:Bool),sK N x2=some r→K1 (aI 9 [(2,(eB x2))]) []:=by
  intro x2 hr
  unfold sK at hr
  refine hK1 _ _ ?_
  refine zz ?_
  obtain rfl:=sj hr
  exact bE Tryz.results106 []
 rcases aXn (decide (1≤code))with h1|h1
 ·replace hr:=cQ hr h1
  refine xr ?_
  refine zz ?_
  exact hG1 _ _ _ _ (zG []) (J1 (decide (code≤17)) hr)
 replace hr:=cR hr h1
 refine xr ?_
 refine zz ?_
 exact hG1 _ _ _ _ (zG []) (J1 false hr)
theorem aGp {N:Nat}{parts:List (List Int)}{r:(List Int)}(hr:vE N parts=some r):
  Vm.Fn Tryz.prog 83 [] [(.row none 1 (parts.map (eL 1 (eI .u8))))] (.sl 0 0 r.length 1 false) [some ⟨5,r.map (eI .u8)⟩]:=by
 refine zf Tryz.func83 Tryz.ntmps83 ?_
 unfold vE at hr
 refine zz ?_
 refine aXp fun K1 hK1 hG1=> ?_
 have J1: ∀(l0:List Int),aDk N l0=some r→K1 (aI 17 [(3,(.sl 0 0 l0.length 1 false))]) [some ⟨5,l0.map (eI .u8)⟩]:=by
  intro l0 hr
  unfold aDk at hr
  refine hK1 _ _ ?_
  refine zz ?_
  obtain rfl:=sj hr
  exact bE Tryz.results83 [0]
 obtain⟨bL,hL2,hr⟩:=aD hr
 refine zz ?_
 refine aXm<|aXr (fun m s h=> ∃(x8:Int)(aS:List Int),nH N parts m x8 aS=some bL∧Ghost 0 s h (aI 17 [(3,(.sl 0 0 aS.length 1 false)),(6,(.row none 1 (parts.map (eL 1 (eI .u8))))),(7,(eI .i64 (parts.length:Int))),(8,(eI .i64 x8))]) [some ⟨5,aS.map (eI .u8)⟩]) (n:=N) ⟨0,[],hL2,(zW 5 [0])⟩ (by rintro s h ⟨_,_,h0,_⟩;simp[nH]at h0) ?_
 rintro m2 s h ⟨x8,aS,hr2,hg⟩
 refine aXq hg ?_
 clear hg hL2
 rw[nH]at hr2
 refine zz ?_
 refine aXo ?_
 refine zk hr2 rfl (fun h1 hr2=> ?_) (fun h1 hr2=> ?_)
 ·refine zz ?_
  refine aXo<|aXm ?_
  obtain⟨cD,h_2,hr2⟩:=aD hr2
  obtain⟨bQ,h_3,hr2⟩:=aD hr2
  refine zz ?_
  exact⟨aXk.wrap (x8+1),bQ,hr2,(zG [1])⟩
 refine zz ?_
 obtain rfl:=sj hr2
 refine zz ?_
 exact hG1 _ _ _ _ (zG [0]) (J1 aS hr)
theorem aHM {N:Nat}{vm vn:Int}{r:Bool}(hr:t6 N vm vn=some r):
  Vm.Fn Tryz.prog 107 [] [(eI .i64 vm),(eI .i64 vn)] (eB r) []:=by
 refine zf Tryz.func107 Tryz.ntmps107 ?_
 unfold t6 at hr
 refine zz ?_
 refine aXp fun K1 hK1 hG1=> ?_
 have J1: ∀(x4:Bool),kK N x4=some r→K1 (aI 20 [(4,(eB x4))]) []:=by
  intro x4 hr
  unfold kK at hr
  refine hK1 _ _ ?_
  refine zz ?_
  obtain rfl:=sj hr
  exact bE Tryz.results107 []
 rcases aXn (decide (1≤vn))with h1|h1
 ·replace hr:=cQ hr h1
  rcases aXn (decide (vn≤15))with h2|h2
  ·replace hr:=cQ hr h2
   rcases aXn (decide (1≤vm))with h3|h3
   ·replace hr:=cQ hr h3
    refine xr ?_
    refine zz ?_
    exact hG1 _ _ _ _ (zG []) (J1 (decide (vm≤vn)) hr)
   replace hr:=cR hr h3
   refine xr ?_
   refine zz ?_
   exact hG1 _ _ _ _ (zG []) (J1 false hr)
  replace hr:=cR hr h2
  refine xr ?_
  refine zz ?_
  refine xX rfl<|xX rfl<|xX rfl ?_
  refine zz ?_
  exact hG1 _ _ _ _ (zG []) (J1 false hr)
 replace hr:=cR hr h1
 refine xr ?_
 refine zz ?_
 refine xX rfl<|xX rfl ?_
 refine zz ?_
 refine xX rfl<|xX rfl<|xX rfl ?_
 refine zz ?_
 exact hG1 _ _ _ _ (zG []) (J1 false hr)
theorem aJY {N:Nat}{b:List Int}{r:Int×(List Int)×Int×Int×(List Int)×Int}(hr:aAw N b=some r):
  Vm.Fn Tryz.prog 82 [] [(.row none 1 (b.map (eI .u8)))] (.tup [(.agg [(eI .i64 r.1),(.sl 0 0 r.2.1.length 1 false),(eI .i64 r.2.2.1),(eI .i64 r.2.2.2.1)]),(.row none 1 (r.2.2.2.2.1.map (eI .u8))),(eI .i64 r.2.2.2.2.2)]) [some ⟨5,r.2.1.map (eI .u8)⟩]:=by
 refine zf Tryz.func82 Tryz.ntmps82 ?_
 unfold aAw at hr
 obtain⟨x8,h_1,hr⟩:=aD hr
 refine zz ?_
 refine aXo ?_
 obtain⟨bQ,h_2,hr⟩:=aD hr
 refine zz ?_
 refine xp (aIM h_2) ?_
 refine zz ?_
 refine zk hr rfl (fun h3 hr=> ?_) (fun h3 hr=> ?_)
 ·refine zz ?_
  obtain rfl:=sj hr
  exact zF Tryz.results82 bJ bJ bJ (zW 5 [2])
 obtain⟨x18,h_4,hr⟩:=aD hr
 refine zz ?_
 refine aXp fun K1 hK1 hG1=> ?_
 have J1: ∀(b_1:List Int)(c1 aCq:Int)(l2:List Int),n8 N x8 b_1 c1 aCq l2=some r→K1 (aI 78 [(0,(.row none 1 (b_1.map (eI .u8)))),(2,(.ptr 0 0)),(5,(.ptr 1 0))]) [some ⟨90,[(eI .i64 0),(.row (some true) 1 []),(eI .i64 0),(eI .i64 0)]⟩,some ⟨90,[(eI .i64 (aXk.wrap x8)),(.sl 2 0 l2.length 1 false),(eI .i64 c1),(eI .i64 aCq)]⟩,some ⟨5,l2.map (eI .u8)⟩]:=by
  intro b_1 c1 aCq l2 hr
  unfold n8 at hr
  refine hK1 _ _ ?_
  refine zz ?_
  obtain rfl:=sj hr
  exact zF Tryz.results82 bJ bJ bJ (zG [2])
 refine zz ?_
 refine aXm ?_
 refine zz ?_
 refine zk hr rfl (fun h5 hr=> ?_) (fun h5 hr=> ?_)
 ·refine aXo ?_
  refine aXp fun K2 hK2 hG2=> ?_
  have J2: ∀(x35:Bool),uC N x8 x18 x35=some r→K2 (aI 78 [(0,(.row none 1 (x18.map (eI .u8)))),(2,(.ptr 0 0)),(5,(.ptr 1 0)),(35,(eB x35))]) [some ⟨90,[(eI .i64 0),(.row (some true) 1 []),(eI .i64 0),(eI .i64 0)]⟩,some ⟨90,[(eI .i64 (aXk.wrap x8)),(.row (some true) 1 []),(eI .i64 0),(eI .i64 0)]⟩]:=by
   intro x35 hr
   unfold uC at hr
   refine hK2 _ _ ?_
   refine zk hr rfl (fun h6 hr=> ?_) (fun h6 hr=> ?_)
   ·refine zz ?_
    obtain rfl:=sj hr
    exact zF Tryz.results82 bJ bJ bJ (zW 5 [2])
   obtain⟨x38,h_7,hr⟩:=aD hr
   obtain⟨x44,h_8,hr⟩:=aD hr
   obtain⟨x46,h_9,hr⟩:=aD hr
   obtain⟨x49,h_11,hr⟩:=aD hr
   refine zz ?_
   refine AB.rd (fQ []) (fQ [83]) mixed<|aXl (n:=10) (i:=0) (by decide +kernel) rfl (gS (v:=(.row none 1 (x18.map (eI .u8)))) (sv (mR rfl)))<|aXl (n:=9) (i:=1) (by decide +kernel) rfl (gS (v:=(eI .i64 (aXk.wrap (1+(aXk.wrap x38))))) (sv (mR rfl)))<|aXl (n:=8) (i:=2) (by decide +kernel) rfl (gS (v:=(.row none 1 (x44.map (eI .u8)))) (sv (cW rfl rfl rfl (vX dB dO rfl rfl h_8))))<|aXl (n:=7) (i:=3) (by decide +kernel) rfl (gS (v:=(.sl 2 0 1 1 false)) (h':=[some ⟨90,[(eI .i64 0),(.row (some true) 1 []),(eI .i64 0),(eI .i64 0)]⟩,some ⟨90,[(eI .i64 (aXk.wrap x8)),(.row (some true) 1 []),(eI .i64 0),(eI .i64 0)]⟩,some ⟨31,[x44].map (eL 1 (eI .u8))⟩]) (sv (pT rfl (aPb (xs:=[x44].map (eL 1 (eI .u8))) aB8 dB zl zl rfl rfl rfl rfl rfl rfl rfl)))) ?_
   refine aXl (n:=6) (i:=4) (by decide +kernel) rfl (gC (v:=(.sl 3 0 x46.length 1 false)) (h':=[some ⟨90,[(eI .i64 0),(.row (some true) 1 []),(eI .i64 0),(eI .i64 0)]⟩,some ⟨90,[(eI .i64 (aXk.wrap x8)),(.row (some true) 1 []),(eI .i64 0),(eI .i64 0)]⟩,some ⟨31,[x44].map (eL 1 (eI .u8))⟩,some ⟨5,x46.map (eI .u8)⟩]) (zL (aGp h_9) [] [2]) rfl (fun _=>⟨_,rfl⟩) (sv (mA rfl pV)))<|aXl (n:=5) (i:=5) (by decide +kernel) rfl (gS (v:=(.row none 1 (x18.map (eI .u8)))) (sv (mR rfl)))<|aXl (n:=4) (i:=6) (by decide +kernel) rfl (gS (v:=(eI .i64 (aXk.wrap (1+(aXk.wrap x38))))) (sv (mR rfl))) ?_
   refine aXl (n:=3) (i:=8) (by decide +kernel) rfl (gS (v:=(.ptr 1 1)) (sv (nZ rfl (aJU ..)))) ?_
   refine aXL (m:=1) (L:=lst [0,1,2,3,4,5,6,7,8,9] 11) (s1:=aI 78 [(0,(.row none 1 (x18.map (eI .u8)))),(2,(.ptr 0 0)),(5,(.ptr 1 0)),(49,(.row none 1 (x49.map (eI .u8))))]) (h1:=[some ⟨90,[(eI .i64 0),(.row (some true) 1 []),(eI .i64 0),(eI .i64 0)]⟩,some ⟨90,[(eI .i64 (aXk.wrap x8)),(.sl 2 0 x46.length 1 false),(eI .i64 0),(eI .i64 0)]⟩,some ⟨5,x46.map (eI .u8)⟩]) ?_ (fun J=> ?_)
   ·refine aXl (n:=0) (i:=10) (by decide +kernel) rfl (gS (v:=(.row none 1 (x49.map (eI .u8)))) (sv (pS rfl)))<|aXI (by decide +kernel) ?_
    refine zz ?_
    exact hG1 _ _ _ _ (zG [0,1,2]) (J1 x49 0 0 x46 hr)
   refine aXy (n:=2) [7,9] (by decide +kernel) (by decide) ?_
   refine(aXv rfl (gS (v:=(.row none 1 (x49.map (eI .u8)))) (sv (cW rfl rfl rfl (vX dB dO rfl rfl h_11)))) ?_ (aXv rfl (gN (h':=[some ⟨90,[(eI .i64 0),(.row (some true) 1 []),(eI .i64 0),(eI .i64 0)]⟩,some ⟨90,[(eI .i64 (aXk.wrap x8)),(.sl 3 0 x46.length 1 false),(eI .i64 0),(eI .i64 0)]⟩,some ⟨31,[x44].map (eL 1 (eI .u8))⟩,some ⟨5,x46.map (eI .u8)⟩]) (sv (bO rfl rfl (jE dB rfl rfl rfl zl rfl)))) ?_ aXA))
   ·refine aXl (n:=1) (i:=9) (by decide +kernel) rfl (gN (h':=[some ⟨90,[(eI .i64 0),(.row (some true) 1 []),(eI .i64 0),(eI .i64 0)]⟩,some ⟨90,[(eI .i64 (aXk.wrap x8)),(.sl 3 0 x46.length 1 false),(eI .i64 0),(eI .i64 0)]⟩,some ⟨31,[x44].map (eL 1 (eI .u8))⟩,some ⟨5,x46.map (eI .u8)⟩]) (sv (bO rfl rfl (jE dB rfl rfl rfl zl rfl)))) ?_
    exact aXx (by decide +kernel) (by decide +kernel) (zG [0,1,3]) J
   refine aXl (n:=1) (i:=7) (by decide +kernel) rfl (gS (v:=(.row none 1 (x49.map (eI .u8)))) (sv (cW rfl rfl rfl (vX dB dO rfl rfl h_11)))) ?_
   exact aXx (by decide +kernel) (by decide +kernel) (zG [0,1,3]) J
  rcases aXn ((x18.length:Int) == 0)with h12|h12
  ·replace hr:=cQ hr h12
   refine xr ?_
   refine zz ?_
   exact hG2 _ _ _ _ (zG [0,1]) (J2 true hr)
  replace hr:=cR hr h12
  obtain⟨eG,h_13,hr⟩:=aD hr
  refine xr ?_
  refine zz ?_
  exact hG2 _ _ _ _ (zG [0,1]) (J2 (decide ((aXk.wrap ((x18.length:Int)-1))<(aXk.wrap eG))) hr)
 refine zz ?_
 refine zk hr rfl (fun h14 hr=> ?_) (fun h14 hr=> ?_)
 ·refine aXo ?_
  refine zz ?_
  refine zk hr rfl (fun h15 hr=> ?_) (fun h15 hr=> ?_)
  ·refine zz ?_
   obtain rfl:=sj hr
   exact zF Tryz.results82 bJ bJ bJ (zW 5 [2])
  refine zz ?_
  refine aXo ?_
  obtain⟨x58,h_16,hr⟩:=aD hr
  obtain⟨x62,h_17,hr⟩:=aD hr
  obtain⟨x66,h_18,hr⟩:=aD hr
  refine AB.rd (fQ []) (fQ []) mixed<|aXl (n:=14) (i:=0) (by decide +kernel) rfl (gS (v:=(.row none 1 (x18.map (eI .u8)))) (sv (mR rfl)))<|aXl (n:=13) (i:=1) (by decide +kernel) rfl (gS (sv (aDs rfl rfl (iaR dB dO h_16))))<|aXl (n:=12) (i:=2) (by decide +kernel) rfl (gS (v:=(eI .u8 x58)) (sv (cA rfl (ldR h_16 (qG dO rfl rfl)))))<|aXl (n:=11) (i:=3) (by decide +kernel) rfl (gS (v:=(eI .i64 (aXk.wrap x58))) (sv (jX rfl (iI _ ⟨_,dO⟩ dS rfl))))<|aXl (n:=10) (i:=4) (by decide +kernel) rfl (gS (v:=(.row none 1 (x18.map (eI .u8)))) (sv (mR rfl))) ?_
  refine aXl (n:=9) (i:=5) (by decide +kernel) rfl (gS (sv (aDs rfl rfl (iaR dB dO h_17))))<|aXl (n:=8) (i:=8) (by decide +kernel) rfl (gS (v:=(.row none 1 (x18.map (eI .u8)))) (sv (mR rfl)))<|aXl (n:=7) (i:=10) (by decide +kernel) rfl (gS (v:=(.ptr 1 2)) (sv (nZ rfl (aJ0 ..)))) ?_
  refine aXL (m:=1) (L:=lst [0,1,2,3,4,5,6,7,8,9,10,11,12,13] 15) (s1:=aI 78 [(0,(.row none 1 (x18.map (eI .u8)))),(2,(.ptr 0 0)),(5,(.ptr 1 0)),(66,(.row none 1 (x66.map (eI .u8))))]) (h1:=[some ⟨90,[(eI .i64 0),(.row (some true) 1 []),(eI .i64 0),(eI .i64 0)]⟩,some ⟨90,[(eI .i64 (aXk.wrap x8)),(.row (some true) 1 []),(eI .i64 (aXk.wrap x58)),(eI .i64 (aXk.wrap x62))]⟩]) ?_ (fun J=> ?_)
  ·refine aXl (n:=0) (i:=14) (by decide +kernel) rfl (gS (v:=(.row none 1 (x66.map (eI .u8)))) (sv (pS rfl)))<|aXI (by decide +kernel) ?_
   obtain⟨x73,h_19,hr⟩:=aD hr
   refine zz ?_
   refine xp (aHM h_19) ?_
   refine zz ?_
   refine zk hr rfl (fun h20 hr=> ?_) (fun h20 hr=> ?_)
   ·refine zz ?_
    obtain rfl:=sj hr
    exact zF Tryz.results82 bJ bJ bJ (zW 5 [2])
   refine zz ?_
   exact hG1 _ _ _ _ (aXB (aXK (fr':=[(0,(.row none 1 (x66.map (eI .u8)))),(2,(.ptr 0 0)),(5,(.ptr 1 0))]) (h1:=[some ⟨90,[(eI .i64 0),(.row (some true) 1 []),(eI .i64 0),(eI .i64 0)]⟩,some ⟨90,[(eI .i64 (aXk.wrap x8)),(.sl 2 0 0 1 false),(eI .i64 (aXk.wrap x58)),(eI .i64 (aXk.wrap x62))]⟩]) 5 (FLe.same rfl (FLe.same rfl (FLe.same rfl FLe.nil))) (HLv.live (V.les_refl _ _) rfl (HLv.live (V.les_cons (V.le_refl _ _) (V.les_cons (V.le_virt rfl) (V.les_cons (V.le_refl _ _) (V.les_cons (V.le_refl _ _) V.les_nil)))) rfl HLv.nil))) (lU [0,1,2])) (J1 x66 (aXk.wrap x58) (aXk.wrap x62) [] hr)
  refine aXy (n:=6) [6,9,11] (by decide +kernel) (by decide) ?_
  refine(aXv rfl (gS (v:=(eI .u8 x62)) (sv (cA rfl (ldR h_17 (qG dO rfl rfl))))) ?_ (aXv rfl (gS (v:=(.row none 1 (x66.map (eI .u8)))) (sv (cW rfl rfl rfl (vX dB dO rfl rfl h_18)))) ?_ (aXv rfl (gN (h':=[some ⟨90,[(eI .i64 0),(.row (some true) 1 []),(eI .i64 0),(eI .i64 0)]⟩,some ⟨90,[(eI .i64 (aXk.wrap x8)),(.row (some true) 1 []),(eI .i64 (aXk.wrap x58)),(eI .i64 0)]⟩]) (sv (bO rfl rfl (jE dS rfl rfl rfl zl rfl)))) ?_ aXA)))
  ·refine aXy (n:=5) [7,9,11] (by decide +kernel) (by decide) ?_
   refine(aXv rfl (gS (v:=(eI .i64 (aXk.wrap x62))) (sv (jX rfl (iI _ ⟨_,dO⟩ dS rfl)))) ?_ (aXv rfl (gS (v:=(.row none 1 (x66.map (eI .u8)))) (sv (cW rfl rfl rfl (vX dB dO rfl rfl h_18)))) ?_ (aXv rfl (gN (h':=[some ⟨90,[(eI .i64 0),(.row (some true) 1 []),(eI .i64 0),(eI .i64 0)]⟩,some ⟨90,[(eI .i64 (aXk.wrap x8)),(.row (some true) 1 []),(eI .i64 (aXk.wrap x58)),(eI .i64 0)]⟩]) (sv (bO rfl rfl (jE dS rfl rfl rfl zl rfl)))) ?_ aXA)))
   ·refine aXy (n:=4) [9,11] (by decide +kernel) (by decide) ?_
    refine(aXv rfl (gS (v:=(.row none 1 (x66.map (eI .u8)))) (sv (cW rfl rfl rfl (vX dB dO rfl rfl h_18)))) ?_ (aXv rfl (gN (h':=[some ⟨90,[(eI .i64 0),(.row (some true) 1 []),(eI .i64 0),(eI .i64 0)]⟩,some ⟨90,[(eI .i64 (aXk.wrap x8)),(.row (some true) 1 []),(eI .i64 (aXk.wrap x58)),(eI .i64 0)]⟩]) (sv (bO rfl rfl (jE dS rfl rfl rfl zl rfl)))) ?_ aXA))
    ·refine aXl (n:=3) (i:=11) (by decide +kernel) rfl (gN (h':=[some ⟨90,[(eI .i64 0),(.row (some true) 1 []),(eI .i64 0),(eI .i64 0)]⟩,some ⟨90,[(eI .i64 (aXk.wrap x8)),(.row (some true) 1 []),(eI .i64 (aXk.wrap x58)),(eI .i64 0)]⟩]) (sv (bO rfl rfl (jE dS rfl rfl rfl zl rfl))))<|aXl (n:=2) (i:=12) (by decide +kernel) rfl (gS (v:=(.ptr 1 3)) (sv (nZ rfl (j8 ..))))<|aXl (n:=1) (i:=13) (by decide +kernel) rfl (gN (h':=[some ⟨90,[(eI .i64 0),(.row (some true) 1 []),(eI .i64 0),(eI .i64 0)]⟩,some ⟨90,[(eI .i64 (aXk.wrap x8)),(.row (some true) 1 []),(eI .i64 (aXk.wrap x58)),(eI .i64 (aXk.wrap x62))]⟩]) (sv (bO rfl rfl (jE dS rfl rfl rfl zl rfl)))) ?_
     exact aXx (by decide +kernel) (by decide +kernel) (zG [0,1]) J
    refine aXl (n:=3) (i:=12) (by decide +kernel) rfl (gS (v:=(.ptr 1 3)) (sv (nZ rfl (j8 ..))))<|aXy (n:=2) [9,13] (by decide +kernel) (by decide) ?_
    refine(aXv rfl (gS (v:=(.row none 1 (x66.map (eI .u8)))) (sv (cW rfl rfl rfl (vX dB dO rfl rfl h_18)))) ?_ (aXv rfl (gN (h':=[some ⟨90,[(eI .i64 0),(.row (some true) 1 []),(eI .i64 0),(eI .i64 0)]⟩,some ⟨90,[(eI .i64 (aXk.wrap x8)),(.row (some true) 1 []),(eI .i64 (aXk.wrap x58)),(eI .i64 (aXk.wrap x62))]⟩]) (sv (bO rfl rfl (jE dS rfl rfl rfl zl rfl)))) ?_ aXA))
    ·refine aXl (n:=1) (i:=13) (by decide +kernel) rfl (gN (h':=[some ⟨90,[(eI .i64 0),(.row (some true) 1 []),(eI .i64 0),(eI .i64 0)]⟩,some ⟨90,[(eI .i64 (aXk.wrap x8)),(.row (some true) 1 []),(eI .i64 (aXk.wrap x58)),(eI .i64 (aXk.wrap x62))]⟩]) (sv (bO rfl rfl (jE dS rfl rfl rfl zl rfl)))) ?_
     exact aXx (by decide +kernel) (by decide +kernel) (zG [0,1]) J
    refine aXl (n:=1) (i:=9) (by decide +kernel) rfl (gS (v:=(.row none 1 (x66.map (eI .u8)))) (sv (cW rfl rfl rfl (vX dB dO rfl rfl h_18)))) ?_
    exact aXx (by decide +kernel) (by decide +kernel) (zG [0,1]) J
   ·refine aXy (n:=4) [7,11] (by decide +kernel) (by decide) ?_
    refine(aXv rfl (gS (v:=(eI .i64 (aXk.wrap x62))) (sv (jX rfl (iI _ ⟨_,dO⟩ dS rfl)))) ?_ (aXv rfl (gN (h':=[some ⟨90,[(eI .i64 0),(.row (some true) 1 []),(eI .i64 0),(eI .i64 0)]⟩,some ⟨90,[(eI .i64 (aXk.wrap x8)),(.row (some true) 1 []),(eI .i64 (aXk.wrap x58)),(eI .i64 0)]⟩]) (sv (bO rfl rfl (jE dS rfl rfl rfl zl rfl)))) ?_ aXA))
    ·refine aXl (n:=3) (i:=11) (by decide +kernel) rfl (gN (h':=[some ⟨90,[(eI .i64 0),(.row (some true) 1 []),(eI .i64 0),(eI .i64 0)]⟩,some ⟨90,[(eI .i64 (aXk.wrap x8)),(.row (some true) 1 []),(eI .i64 (aXk.wrap x58)),(eI .i64 0)]⟩]) (sv (bO rfl rfl (jE dS rfl rfl rfl zl rfl))))<|aXl (n:=2) (i:=12) (by decide +kernel) rfl (gS (v:=(.ptr 1 3)) (sv (nZ rfl (j8 ..))))<|aXl (n:=1) (i:=13) (by decide +kernel) rfl (gN (h':=[some ⟨90,[(eI .i64 0),(.row (some true) 1 []),(eI .i64 0),(eI .i64 0)]⟩,some ⟨90,[(eI .i64 (aXk.wrap x8)),(.row (some true) 1 []),(eI .i64 (aXk.wrap x58)),(eI .i64 (aXk.wrap x62))]⟩]) (sv (bO rfl rfl (jE dS rfl rfl rfl zl rfl)))) ?_
     exact aXx (by decide +kernel) (by decide +kernel) (zG [0,1]) J
    refine aXl (n:=3) (i:=7) (by decide +kernel) rfl (gS (v:=(eI .i64 (aXk.wrap x62))) (sv (jX rfl (iI _ ⟨_,dO⟩ dS rfl))))<|aXl (n:=2) (i:=12) (by decide +kernel) rfl (gS (v:=(.ptr 1 3)) (sv (nZ rfl (j8 ..))))<|aXl (n:=1) (i:=13) (by decide +kernel) rfl (gN (h':=[some ⟨90,[(eI .i64 0),(.row (some true) 1 []),(eI .i64 0),(eI .i64 0)]⟩,some ⟨90,[(eI .i64 (aXk.wrap x8)),(.row (some true) 1 []),(eI .i64 (aXk.wrap x58)),(eI .i64 (aXk.wrap x62))]⟩]) (sv (bO rfl rfl (jE dS rfl rfl rfl zl rfl)))) ?_
    exact aXx (by decide +kernel) (by decide +kernel) (zG [0,1]) J
   refine aXl (n:=4) (i:=7) (by decide +kernel) rfl (gS (v:=(eI .i64 (aXk.wrap x62))) (sv (jX rfl (iI _ ⟨_,dO⟩ dS rfl))))<|aXl (n:=3) (i:=12) (by decide +kernel) rfl (gS (v:=(.ptr 1 3)) (sv (nZ rfl (j8 ..))))<|aXy (n:=2) [9,13] (by decide +kernel) (by decide) ?_
   refine(aXv rfl (gS (v:=(.row none 1 (x66.map (eI .u8)))) (sv (cW rfl rfl rfl (vX dB dO rfl rfl h_18)))) ?_ (aXv rfl (gN (h':=[some ⟨90,[(eI .i64 0),(.row (some true) 1 []),(eI .i64 0),(eI .i64 0)]⟩,some ⟨90,[(eI .i64 (aXk.wrap x8)),(.row (some true) 1 []),(eI .i64 (aXk.wrap x58)),(eI .i64 (aXk.wrap x62))]⟩]) (sv (bO rfl rfl (jE dS rfl rfl rfl zl rfl)))) ?_ aXA))
   ·refine aXl (n:=1) (i:=13) (by decide +kernel) rfl (gN (h':=[some ⟨90,[(eI .i64 0),(.row (some true) 1 []),(eI .i64 0),(eI .i64 0)]⟩,some ⟨90,[(eI .i64 (aXk.wrap x8)),(.row (some true) 1 []),(eI .i64 (aXk.wrap x58)),(eI .i64 (aXk.wrap x62))]⟩]) (sv (bO rfl rfl (jE dS rfl rfl rfl zl rfl)))) ?_
    exact aXx (by decide +kernel) (by decide +kernel) (zG [0,1]) J
   refine aXl (n:=1) (i:=9) (by decide +kernel) rfl (gS (v:=(.row none 1 (x66.map (eI .u8)))) (sv (cW rfl rfl rfl (vX dB dO rfl rfl h_18)))) ?_
   exact aXx (by decide +kernel) (by decide +kernel) (zG [0,1]) J
  ·refine aXy (n:=5) [6,11] (by decide +kernel) (by decide) ?_
   refine(aXv rfl (gS (v:=(eI .u8 x62)) (sv (cA rfl (ldR h_17 (qG dO rfl rfl))))) ?_ (aXv rfl (gN (h':=[some ⟨90,[(eI .i64 0),(.row (some true) 1 []),(eI .i64 0),(eI .i64 0)]⟩,some ⟨90,[(eI .i64 (aXk.wrap x8)),(.row (some true) 1 []),(eI .i64 (aXk.wrap x58)),(eI .i64 0)]⟩]) (sv (bO rfl rfl (jE dS rfl rfl rfl zl rfl)))) ?_ aXA))
   ·refine aXy (n:=4) [7,11] (by decide +kernel) (by decide) ?_
    refine(aXv rfl (gS (v:=(eI .i64 (aXk.wrap x62))) (sv (jX rfl (iI _ ⟨_,dO⟩ dS rfl)))) ?_ (aXv rfl (gN (h':=[some ⟨90,[(eI .i64 0),(.row (some true) 1 []),(eI .i64 0),(eI .i64 0)]⟩,some ⟨90,[(eI .i64 (aXk.wrap x8)),(.row (some true) 1 []),(eI .i64 (aXk.wrap x58)),(eI .i64 0)]⟩]) (sv (bO rfl rfl (jE dS rfl rfl rfl zl rfl)))) ?_ aXA))
    ·refine aXl (n:=3) (i:=11) (by decide +kernel) rfl (gN (h':=[some ⟨90,[(eI .i64 0),(.row (some true) 1 []),(eI .i64 0),(eI .i64 0)]⟩,some ⟨90,[(eI .i64 (aXk.wrap x8)),(.row (some true) 1 []),(eI .i64 (aXk.wrap x58)),(eI .i64 0)]⟩]) (sv (bO rfl rfl (jE dS rfl rfl rfl zl rfl))))<|aXl (n:=2) (i:=12) (by decide +kernel) rfl (gS (v:=(.ptr 1 3)) (sv (nZ rfl (j8 ..))))<|aXl (n:=1) (i:=13) (by decide +kernel) rfl (gN (h':=[some ⟨90,[(eI .i64 0),(.row (some true) 1 []),(eI .i64 0),(eI .i64 0)]⟩,some ⟨90,[(eI .i64 (aXk.wrap x8)),(.row (some true) 1 []),(eI .i64 (aXk.wrap x58)),(eI .i64 (aXk.wrap x62))]⟩]) (sv (bO rfl rfl (jE dS rfl rfl rfl zl rfl)))) ?_
     exact aXx (by decide +kernel) (by decide +kernel) (zG [0,1]) J
    refine aXl (n:=3) (i:=7) (by decide +kernel) rfl (gS (v:=(eI .i64 (aXk.wrap x62))) (sv (jX rfl (iI _ ⟨_,dO⟩ dS rfl))))<|aXl (n:=2) (i:=12) (by decide +kernel) rfl (gS (v:=(.ptr 1 3)) (sv (nZ rfl (j8 ..))))<|aXl (n:=1) (i:=13) (by decide +kernel) rfl (gN (h':=[some ⟨90,[(eI .i64 0),(.row (some true) 1 []),(eI .i64 0),(eI .i64 0)]⟩,some ⟨90,[(eI .i64 (aXk.wrap x8)),(.row (some true) 1 []),(eI .i64 (aXk.wrap x58)),(eI .i64 (aXk.wrap x62))]⟩]) (sv (bO rfl rfl (jE dS rfl rfl rfl zl rfl)))) ?_
    exact aXx (by decide +kernel) (by decide +kernel) (zG [0,1]) J
   refine aXl (n:=4) (i:=6) (by decide +kernel) rfl (gS (v:=(eI .u8 x62)) (sv (cA rfl (ldR h_17 (qG dO rfl rfl)))))<|aXl (n:=3) (i:=7) (by decide +kernel) rfl (gS (v:=(eI .i64 (aXk.wrap x62))) (sv (jX rfl (iI _ ⟨_,dO⟩ dS rfl))))<|aXl (n:=2) (i:=12) (by decide +kernel) rfl (gS (v:=(.ptr 1 3)) (sv (nZ rfl (j8 ..))))<|aXl (n:=1) (i:=13) (by decide +kernel) rfl (gN (h':=[some ⟨90,[(eI .i64 0),(.row (some true) 1 []),(eI .i64 0),(eI .i64 0)]⟩,some ⟨90,[(eI .i64 (aXk.wrap x8)),(.row (some true) 1 []),(eI .i64 (aXk.wrap x58)),(eI .i64 (aXk.wrap x62))]⟩]) (sv (bO rfl rfl (jE dS rfl rfl rfl zl rfl)))) ?_
   exact aXx (by decide +kernel) (by decide +kernel) (zG [0,1]) J
  refine aXl (n:=5) (i:=6) (by decide +kernel) rfl (gS (v:=(eI .u8 x62)) (sv (cA rfl (ldR h_17 (qG dO rfl rfl)))))<|aXl (n:=4) (i:=7) (by decide +kernel) rfl (gS (v:=(eI .i64 (aXk.wrap x62))) (sv (jX rfl (iI _ ⟨_,dO⟩ dS rfl))))<|aXl (n:=3) (i:=12) (by decide +kernel) rfl (gS (v:=(.ptr 1 3)) (sv (nZ rfl (j8 ..))))<|aXy (n:=2) [9,13] (by decide +kernel) (by decide) ?_
  refine(aXv rfl (gS (v:=(.row none 1 (x66.map (eI .u8)))) (sv (cW rfl rfl rfl (vX dB dO rfl rfl h_18)))) ?_ (aXv rfl (gN (h':=[some ⟨90,[(eI .i64 0),(.row (some true) 1 []),(eI .i64 0),(eI .i64 0)]⟩,some ⟨90,[(eI .i64 (aXk.wrap x8)),(.row (some true) 1 []),(eI .i64 (aXk.wrap x58)),(eI .i64 (aXk.wrap x62))]⟩]) (sv (bO rfl rfl (jE dS rfl rfl rfl zl rfl)))) ?_ aXA))
  ·refine aXl (n:=1) (i:=13) (by decide +kernel) rfl (gN (h':=[some ⟨90,[(eI .i64 0),(.row (some true) 1 []),(eI .i64 0),(eI .i64 0)]⟩,some ⟨90,[(eI .i64 (aXk.wrap x8)),(.row (some true) 1 []),(eI .i64 (aXk.wrap x58)),(eI .i64 (aXk.wrap x62))]⟩]) (sv (bO rfl rfl (jE dS rfl rfl rfl zl rfl)))) ?_
   exact aXx (by decide +kernel) (by decide +kernel) (zG [0,1]) J
  refine aXl (n:=1) (i:=9) (by decide +kernel) rfl (gS (v:=(.row none 1 (x66.map (eI .u8)))) (sv (cW rfl rfl rfl (vX dB dO rfl rfl h_18)))) ?_
  exact aXx (by decide +kernel) (by decide +kernel) (zG [0,1]) J
 refine zz ?_
 exact hG1 _ _ _ _ (aXB (aXK (fr':=[(0,(.row none 1 (x18.map (eI .u8)))),(2,(.ptr 0 0)),(5,(.ptr 1 0))]) (h1:=[some ⟨90,[(eI .i64 0),(.row (some true) 1 []),(eI .i64 0),(eI .i64 0)]⟩,some ⟨90,[(eI .i64 (aXk.wrap x8)),(.sl 2 0 0 1 false),(eI .i64 0),(eI .i64 0)]⟩]) 5 (FLe.same rfl (FLe.same rfl (FLe.same rfl FLe.nil))) (HLv.live (V.les_refl _ _) rfl (HLv.live (V.les_cons (V.le_refl _ _) (V.les_cons (V.le_virt rfl) (V.les_cons (V.le_refl _ _) (V.les_cons (V.le_refl _ _) V.les_nil)))) rfl HLv.nil))) (lU [0,1,2])) (J1 x18 0 0 [] hr)
theorem aJd {N:Nat}{b:List Int}{r:(List aX)×Int}(hr:yJ N b=some r):
  Vm.Fn Tryz.prog 55 [] [(.row none 1 (b.map (eI .u8)))] (.tup [(.sl 0 0 r.1.length 4 true),(eI .i64 r.2)]) [some ⟨90,r.1.flatMap cO⟩]:=by
 refine zf Tryz.func55 Tryz.ntmps55 ?_
 unfold yJ at hr
 refine zz ?_
 refine aXo ?_
 refine zz ?_
 refine zk hr rfl (fun h1 hr=> ?_) (fun h1 hr=> ?_)
 ·refine zz ?_
  obtain rfl:=sj hr
  exact oL Tryz.results55 bJ bJ (zW 90 [0])
 refine zz ?_
 refine aXp fun K1 hK1 hG1=> ?_
 have J1: ∀(l0:List aX),aBR N l0=some r→K1 (aI 29 [(4,(.sl 0 0 l0.length 4 true))]) [some ⟨90,l0.flatMap cO⟩]:=by
  intro l0 hr
  unfold aBR at hr
  refine hK1 _ _ ?_
  refine zz ?_
  obtain rfl:=sj hr
  exact kG Tryz.results55 [0]
 obtain⟨bL,hL2,hr⟩:=aD hr
 refine aXm<|aXr (fun m s h=> ∃(b_1:List Int)(aS:List aX),nB N m b_1 aS=some bL∧Ghost 0 s h (aI 29 [(0,(.row none 1 (b_1.map (eI .u8)))),(4,(.sl 0 0 aS.length 4 true))]) [some ⟨90,aS.flatMap cO⟩]) (n:=N) ⟨b,[],hL2,(zW 90 [0])⟩ (by rintro s h ⟨_,_,h0,_⟩;simp[nB]at h0) ?_
 rintro m2 s h ⟨b_1,aS,hr2,hg⟩
 refine aXq hg ?_
 clear hg hL2
 rw[nB]at hr2
 refine aXo ?_
 refine zz ?_
 refine zk hr2 rfl (fun h2 hr2=> ?_) (fun h2 hr2=> ?_)
 ·refine zz ?_
  refine aXm ?_
  obtain⟨x16,h_3,hr2⟩:=aD hr2
  refine zz ?_
  refine zc (aJY h_3) [] ?_
  refine zz ?_
  refine aXo ?_
  refine zz ?_
  refine zk hr2 rfl (fun h4 hr2=> ?_) (fun h4 hr2=> ?_)
  ·refine zz ?_
   obtain rfl:=sj hr2
   obtain rfl:=sj hr
   exact oL Tryz.results55 bJ bJ (zW 90 [3])
  obtain⟨x26,h_5,hr2⟩:=aD hr2
  refine zz ?_
  refine aXF (Ghost.conv (fr':=[(0,(.row none 1 (b_1.map (eI .u8)))),(4,(.sl 0 0 aS.length 4 true)),(5,(.ptr 2 0)),(6,(.row none 1 (x16.2.2.2.2.1.map (eI .u8)))),(7,(eI .i64 x16.2.2.2.2.2)),(11,(.row none 1 (b_1.map (eI .u8)))),(12,(eI .i64 (b_1.length:Int))),(13,(eB (decide (0<(b_1.length:Int))))),(14,(.tup [(.agg [(eI .i64 x16.1),(.row none 1 (x16.2.1.map (eI .u8))),(eI .i64 x16.2.2.1),(eI .i64 x16.2.2.2.1)]),(.row none 1 (x16.2.2.2.2.1.map (eI .u8))),(eI .i64 x16.2.2.2.2.2)])),(15,(.row none 1 (b_1.map (eI .u8)))),(16,(.tup [(.agg [(eI .i64 x16.1),(.row none 1 (x16.2.1.map (eI .u8))),(eI .i64 x16.2.2.1),(eI .i64 x16.2.2.2.1)]),(.row none 1 (x16.2.2.2.2.1.map (eI .u8))),(eI .i64 x16.2.2.2.2.2)])),(17,(.agg [(eI .i64 x16.1),(.row none 1 (x16.2.1.map (eI .u8))),(eI .i64 x16.2.2.1),(eI .i64 x16.2.2.2.1)])),(18,(.row none 1 (x16.2.2.2.2.1.map (eI .u8)))),(19,(eI .i64 x16.2.2.2.2.2)),(20,(eI .i64 x16.2.2.2.2.2)),(21,(eB (x16.2.2.2.2.2 != 0))),(23,(.sl 0 0 aS.length 4 true)),(24,(.agg [(eI .i64 x16.1),(.row none 1 (x16.2.1.map (eI .u8))),(eI .i64 x16.2.2.1),(eI .i64 x16.2.2.2.1)]))]) (h':=[some ⟨90,aS.flatMap cO⟩,none,some ⟨90,[(eI .i64 x16.1),(.row none 1 (x16.2.1.map (eI .u8))),(eI .i64 x16.2.2.1),(eI .i64 x16.2.2.2.1)]⟩]) (aXz rfl (aXs (aQ rfl)) (aXz rfl (aXs (aQ rfl)) (aXz rfl (aXs (aQ rfl)) (aXz rfl (aXs (aQ rfl)) (aXz rfl (aXs (aQ rfl)) (aXz rfl (aXs (aQ rfl)) (aXz rfl (aXs (aQ rfl)) (aXz rfl (aXs (aQ rfl)) (aXz rfl (Conv.tup (aXu (aXM (aXu (aXs (aQ rfl)) (aXu (aXG (aQ rfl) rfl rfl (gO (fun _=>rfl)) (by first|rfl|(simp only[aXC,b7,b6];done))) (aXu (aXs (aQ rfl)) (aXu (aXs (aQ rfl)) aXE))))) (aXu (aXs (aQ rfl)) (aXu (aXs (aQ rfl)) aXE)))) (aXz rfl (aXs (aQ rfl)) (aXz rfl (Conv.tup (aXu (aXM (aXu (aXs (aQ rfl)) (aXu (aXG (aQ rfl) rfl rfl (gO (fun _=>rfl)) (by first|rfl|(simp only[aXC,b7,b6];done))) (aXu (aXs (aQ rfl)) (aXu (aXs (aQ rfl)) aXE))))) (aXu (aXs (aQ rfl)) (aXu (aXs (aQ rfl)) aXE)))) (aXz rfl (aXM (aXu (aXs (aQ rfl)) (aXu (aXG (aQ rfl) rfl rfl (gO (fun _=>rfl)) (by first|rfl|(simp only[aXC,b7,b6];done))) (aXu (aXs (aQ rfl)) (aXu (aXs (aQ rfl)) aXE))))) (aXz rfl (aXs (aQ rfl)) (aXz rfl (aXs (aQ rfl)) (aXz rfl (aXs (aQ rfl)) (aXz rfl (aXs (aQ rfl)) (aXz rfl (aXs (aQ rfl)) (aXz rfl (aXM (aXu (aXs (aQ rfl)) (aXu (aXG (aQ rfl) rfl rfl (gO (fun _=>rfl)) (by first|rfl|(simp only[aXC,b7,b6];done))) (aXu (aXs (aQ rfl)) (aXu (aXs (aQ rfl)) aXE))))) FCv.nil)))))))))))))))))) (HCv.live (Convs.same (aQ rfl)) (rL (fun _=>rfl) _) (HCv.dead (HCv.live (aXu (aXs (aQ rfl)) (aXu (aXG (aQ rfl) rfl rfl (gO (fun _=>rfl)) (by first|rfl|(simp only[aXC,b7,b6];done))) (aXu (aXs (aQ rfl)) (aXu (aXs (aQ rfl)) aXE)))) rfl HCv.nil)))) ?_
  refine xw (v:=(.sl 3 0 1 4 true)) (h':=[some ⟨90,aS.flatMap cO⟩,none,some ⟨90,[(eI .i64 x16.1),(.row none 1 (x16.2.1.map (eI .u8))),(eI .i64 x16.2.2.1),(eI .i64 x16.2.2.2.1)]⟩,some ⟨90,[(aX.mk x16.1 x16.2.1 x16.2.2.1 x16.2.2.2.1)].flatMap cO⟩]) (pT rfl (aDM (C:=cO) (xs:=[(aX.mk x16.1 x16.2.1 x16.2.2.1 x16.2.2.2.1)]) (K:=4) (fun _=>rfl) (fun _=>rfl) aQ7 aCr ⟨zl,zl,zl⟩ rfl rfl rfl rfl rfl rfl)) ?_
  refine zz ?_
  exact⟨x16.2.2.2.2.1,x26,hr2,(zG [4])⟩
 refine zz ?_
 obtain rfl:=sj hr2
 refine zz ?_
 exact hG1 _ _ _ _ (zG [0]) (J1 aS hr)
theorem aIw {N:Nat}{l:List aX}{r:Bool}(hr:vV N l=some r):
  Vm.Fn Tryz.prog 56 [] [(.row none 4 (l.map yI))] (eB r) []:=by
 refine zf Tryz.func56 Tryz.ntmps56 ?_
 unfold vV at hr
 refine zz ?_
 refine aXp fun K1 hK1 hG1=> ?_
 have J1: ∀(l0:List Bool),aA1 N l0=some r→K1 (aI 47 [(3,(.sl 0 0 l0.length 1 false))]) [some ⟨4,l0.map eB⟩]:=by
  intro l0 hr
  unfold aA1 at hr
  refine hK1 _ _ ?_
  refine zz ?_
  obtain rfl:=sj hr
  exact bE Tryz.results56 []
 obtain⟨bL,hL2,hr⟩:=aD hr
 refine zz ?_
 refine aXm<|aXr (fun m s h=> ∃(x9:Int)(aS:List Bool),d8 N l m x9 aS=some bL∧Ghost 0 s h (aI 47 [(3,(.sl 0 0 aS.length 1 false)),(7,(.row none 4 (l.map yI))),(8,(eI .i64 (l.length:Int))),(9,(eI .i64 x9))]) [some ⟨4,aS.map eB⟩]) (n:=N) ⟨0,[],hL2,(zW 4 [0])⟩ (by rintro s h ⟨_,_,h0,_⟩;simp[d8]at h0) ?_
 rintro m2 s h ⟨x9,aS,hr2,hg⟩
 refine aXq hg ?_
 clear hg hL2
 rw[d8]at hr2
 refine zz ?_
 refine aXo ?_
 refine zk hr2 rfl (fun h1 hr2=> ?_) (fun h1 hr2=> ?_)
 ·refine zz ?_
  refine aXp fun K3 hK3 hG3=> ?_
  have J3: ∀(fL:List Bool),lF N l x9 (d8 N l m2) fL=some bL→K3 (aI 47 [(3,(.sl 0 0 fL.length 1 false)),(7,(.row none 4 (l.map yI))),(8,(eI .i64 (l.length:Int))),(9,(eI .i64 x9))]) [some ⟨4,fL.map eB⟩]:=by
   intro fL hr2
   unfold lF at hr2
   refine hK3 _ _ ?_
   refine zz ?_
   exact⟨aXk.wrap (x9+1),fL,hr2,(zG [0])⟩
  refine aXm ?_
  obtain⟨b4,h_2,hr2⟩:=aD hr2
  refine zz ?_
  refine aXm ?_
  refine zz ?_
  refine zk hr2 rfl (fun h3 hr2=> ?_) (fun h3 hr2=> ?_)
  ·obtain⟨bV,h_4,hr2⟩:=aD hr2
   refine zz ?_
   exact hG3 _ _ _ _ (zG [3]) (J3 bV hr2)
  refine zz ?_
  refine zk hr2 rfl (fun h5 hr2=> ?_) (fun h5 hr2=> ?_)
  ·refine aXo ?_
   refine aXp fun K4 hK4 hG4=> ?_
   have J4: ∀(lB:Bool),rA N l x9 aS (d8 N l m2) lB=some bL→K4 (aI 47 [(3,(.sl 0 0 aS.length 1 false)),(6,(eI .i64 (aXk.wrap ((aS.length:Int)-1)))),(7,(.row none 4 (l.map yI))),(8,(eI .i64 (l.length:Int))),(9,(eI .i64 x9)),(32,(eB lB))]) [some ⟨4,aS.map eB⟩]:=by
    intro lB hr2
    unfold rA at hr2
    refine hK4 _ _ ?_
    refine zk hr2 rfl (fun h6 hr2=> ?_) (fun h6 hr2=> ?_)
    ·refine zz ?_
     obtain rfl:=sj hr2
     obtain rfl:=sj hr
     exact bE Tryz.results56 []
    obtain⟨x35,h_7,hr2⟩:=aD hr2
    refine zz ?_
    exact hG3 _ _ _ _ (lU [0]) (J3 (aS.set (aXw (aXk.wrap ((aS.length:Int)-1))) true) hr2)
   rcases aXn (decide ((aXk.wrap ((aS.length:Int)-1))<0))with h8|h8
   ·replace hr2:=cQ hr2 h8
    refine xr ?_
    refine zz ?_
    exact hG4 _ _ _ _ (zG [0]) (J4 true hr2)
   replace hr2:=cR hr2 h8
   obtain⟨jL,h_9,hr2⟩:=aD hr2
   refine xr ?_
   refine zz ?_
   exact hG4 _ _ _ _ (zG [0]) (J4 jL hr2)
  refine zz ?_
  refine zk hr2 rfl (fun h10 hr2=> ?_) (fun h10 hr2=> ?_)
  ·refine aXo ?_
   refine zz ?_
   refine zk hr2 rfl (fun h11 hr2=> ?_) (fun h11 hr2=> ?_)
   ·refine zz ?_
    obtain rfl:=sj hr2
    obtain rfl:=sj hr
    exact bE Tryz.results56 []
   obtain⟨x42,h_12,hr2⟩:=aD hr2
   refine zz ?_
   refine xw (v:=(.sl 0 0 x42.length 1 false)) (cW rfl rfl rfl (aJo (l:=aS) rfl aOD ti4 rfl rfl rfl h_12)) ?_
   refine aXF (Ghost.cutM (t:=42) (E:=eB) (l:=aS) (h':=[some ⟨4,x42.map eB⟩,some ⟨90,[(eI .i64 b4.Code),(.row none 1 (b4.Data.map (eI .u8))),(eI .i64 b4.M),(eI .i64 b4.N)]⟩]) rfl rfl h_12 rfl) ?_
   refine zz ?_
   exact hG3 _ _ _ _ (zG [0]) (J3 x42 hr2)
  refine zz ?_
  exact hG3 _ _ _ _ (zG [0]) (J3 aS hr2)
 refine zz ?_
 obtain rfl:=sj hr2
 refine zz ?_
 exact hG1 _ _ _ _ (zG [0]) (J1 aS hr)
theorem aHN {N:Nat}{stack:List (List Int)}{r:Bool}(hr:uN N stack=some r):
  Vm.Fn Tryz.prog 57 [] [(.row none 1 (stack.map (eL 1 (eI .u8))))] (eB r) []:=by
 refine zf Tryz.func57 Tryz.ntmps57 ?_
 unfold uN at hr
 refine zz ?_
 refine aXo ?_
 refine zz ?_
 refine zk hr rfl (fun h1 hr=> ?_) (fun h1 hr=> ?_)
 ·refine zz ?_
  obtain rfl:=sj hr
  exact bE Tryz.results57 []
 refine zz ?_
 refine aXp fun K1 hK1 hG1=> ?_
 have J1:aAg N=some r→K1 (aI 18 []) []:=by
  intro hr
  unfold aAg at hr
  refine hK1 _ _ ?_
  refine zz ?_
  obtain rfl:=sj hr
  exact bE Tryz.results57 []
 obtain⟨bL,hL2,hr⟩:=aD hr
 refine zz ?_
 refine aXm<|aXr (fun m s h=> ∃(cD:Int),iX N stack m cD=some bL∧Ghost 0 s h (aI 18 [(8,(.row none 1 (stack.map (eL 1 (eI .u8))))),(9,(eI .i64 (stack.length:Int))),(10,(eI .i64 cD))]) []) (n:=N) ⟨0,hL2,(zG [])⟩ (by rintro s h ⟨_,h0,_⟩;simp[iX]at h0) ?_
 rintro m2 s h ⟨cD,hr2,hg⟩
 refine aXq hg ?_
 clear hg hL2
 rw[iX]at hr2
 refine zz ?_
 refine aXo ?_
 refine zk hr2 rfl (fun h2 hr2=> ?_) (fun h2 hr2=> ?_)
 ·refine zz ?_
  refine aXo<|aXm ?_
  obtain⟨fR,h_3,hr2⟩:=aD hr2
  refine zz ?_
  refine zk hr2 rfl (fun h4 hr2=> ?_) (fun h4 hr2=> ?_)
  ·refine zz ?_
   obtain rfl:=sj hr2
   obtain rfl:=sj hr
   exact bE Tryz.results57 []
  refine zz ?_
  exact⟨aXk.wrap (cD+1),hr2,(zG [])⟩
 refine zz ?_
 obtain rfl:=sj hr2
 refine zz ?_
 exact hG1 _ _ _ _ (zG []) (J1 hr)
theorem aA8 {N:Nat}{stack:List (List Int)}{r:(List (List Int))}(hr:sA N stack=some r):
  Vm.Fn Tryz.prog 58 [] [(.row none 1 (stack.map (eL 1 (eI .u8))))] (.sl 0 0 r.length 1 false) [some ⟨31,r.map (eL 1 (eI .u8))⟩]:=by
 refine zf Tryz.func58 Tryz.ntmps58 ?_
 unfold sA at hr
 refine zz ?_
 refine aXp fun K1 hK1 hG1=> ?_
 have J1: ∀(l0:List (List Int)),u4 N l0=some r→K1 (aI 20 [(3,(.sl 0 0 l0.length 1 false))]) [some ⟨31,l0.map (eL 1 (eI .u8))⟩]:=by
  intro l0 hr
  unfold u4 at hr
  refine hK1 _ _ ?_
  refine zz ?_
  obtain rfl:=sj hr
  exact bE Tryz.results58 [0]
 obtain⟨bL,hL2,hr⟩:=aD hr
 refine zz ?_
 refine aXm<|aXr (fun m s h=> ∃(x8:Int)(aS:List (List Int)),lE N stack m x8 aS=some bL∧Ghost 0 s h (aI 20 [(3,(.sl 0 0 aS.length 1 false)),(6,(.row none 1 (stack.map (eL 1 (eI .u8))))),(7,(eI .i64 (stack.length:Int))),(8,(eI .i64 x8))]) [some ⟨31,aS.map (eL 1 (eI .u8))⟩]) (n:=N) ⟨0,[],hL2,(zW 31 [0])⟩ (by rintro s h ⟨_,_,h0,_⟩;simp[lE]at h0) ?_
 rintro m2 s h ⟨x8,aS,hr2,hg⟩
 refine aXq hg ?_
 clear hg hL2
 rw[lE]at hr2
 refine zz ?_
 refine aXo ?_
 refine zk hr2 rfl (fun h1 hr2=> ?_) (fun h1 hr2=> ?_)
 ·refine zz ?_
  refine aXo<|aXm ?_
  obtain⟨cD,h_2,hr2⟩:=aD hr2
  obtain⟨x15,h_3,hr2⟩:=aD hr2
  obtain⟨x17,h_4,hr2⟩:=aD hr2
  refine zz ?_
  refine jI (aGp h_3) [] [1] ?_
  refine aXF (zv 2) ?_
  refine zz ?_
  exact⟨aXk.wrap (x8+1),x17,hr2,(zG [4])⟩
 refine zz ?_
 obtain rfl:=sj hr2
 refine zz ?_
 exact hG1 _ _ _ _ (zG [0]) (J1 aS hr)
theorem aEy {N:Nat}{aH:List Int}{aK aP:Int}{aN:List (List Int)}{aJ:List aO}{aY:Int}{r:Bool}(hr:pI N aH aK aP aN aJ aY=some r):
  Vm.Fn Tryz.prog 84 [some ⟨88,(bG (eI .u8) aH [(eI .i64 aK),(eI .i64 aP),(.sl 1 0 aN.length 1 false),(.sl 2 0 aJ.length 2 true),(eI .i64 aY)])⟩,some ⟨31,aN.map (eL 1 (eI .u8))⟩,some ⟨113,aJ.flatMap aW⟩] [(.ptr 0 0)] (eB r) [some ⟨88,(bG (eI .u8) aH [(eI .i64 aK),(eI .i64 aP),(.sl 1 0 aN.length 1 false),(.sl 2 0 aJ.length 2 true),(eI .i64 aY)])⟩,some ⟨31,aN.map (eL 1 (eI .u8))⟩,some ⟨113,aJ.flatMap aW⟩]:=by
 refine zf Tryz.func84 Tryz.ntmps84 ?_
 unfold pI at hr
 refine zz ?_
 refine aXo ?_
 refine zz ?_
 refine zk hr rfl (fun h1 hr=> ?_) (fun h1 hr=> ?_)
 ·refine zz ?_
  obtain rfl:=sj hr
  exact bE Tryz.results84 [0,1,2]
 refine zz ?_
 refine aXo ?_
 obtain⟨bT,h_2,hr⟩:=aD hr
 refine aXD mixed [] [] [[0,1,2,3,4,5,6,7,8,9,10,11,12,13]] ?_
 refine zz ?_
 refine xw (v:=(.agg [(eB bT.outer),(eB bT.taken)])) (cA rfl (aOB (C:=aW) (K:=2) (fun _=>rfl) rfl h_2 (aDI (ds:=[(eB bT.outer),(eB bT.taken)]) aDR rfl zl rfl))) ?_
 refine zz ?_
 refine aXp fun K1 hK1 hG1=> ?_
 have J1: ∀(x2:Bool),jT N aH aK aP aN aJ aY x2=some r→K1 (aI 28 [(2,(eB x2))]) [some ⟨88,(bG (eI .u8) aH [(eI .i64 aK),(eI .i64 aP),(.sl 1 0 aN.length 1 false),(.sl 2 0 aJ.length 2 true),(eI .i64 aY)])⟩,some ⟨31,aN.map (eL 1 (eI .u8))⟩,some ⟨113,aJ.flatMap aW⟩]:=by
  intro x2 hr
  unfold jT at hr
  refine hK1 _ _ ?_
  refine zz ?_
  obtain rfl:=sj hr
  exact bE Tryz.results84 [0,1,2]
 rcases aXn bT.outer with h3|h3
 ·replace hr:=cQ hr h3
  refine xr ?_
  refine zz ?_
  exact hG1 _ _ _ _ (zG [0,1,2]) (J1 bT.taken hr)
 replace hr:=cR hr h3
 refine xr ?_
 refine zz ?_
 exact hG1 _ _ _ _ (zG [0,1,2]) (J1 false hr)
theorem aJt {N:Nat}{bB:Int}{cC:List Int}{eU eJ r:Int}(hr:yW N bB cC eU eJ=some r):
  Vm.Fn Tryz.prog 85 [] [(.agg [(eI .i64 bB),(.row none 1 (cC.map (eI .u8))),(eI .i64 eU),(eI .i64 eJ)])] (eI .i64 r) []:=by
 refine zf Tryz.func85 Tryz.ntmps85 ?_
 unfold yW at hr
 refine zz ?_
 refine aXo ?_
 refine zz ?_
 refine aXm ?_
 refine zz ?_
 refine zk hr rfl (fun h1 hr=> ?_) (fun h1 hr=> ?_)
 ·refine zz ?_
  obtain rfl:=sj hr
  exact bE Tryz.results85 []
 refine zz ?_
 refine zk hr rfl (fun h2 hr=> ?_) (fun h2 hr=> ?_)
 ·refine zz ?_
  obtain rfl:=sj hr
  exact bE Tryz.results85 []
 refine zz ?_
 refine zk hr rfl (fun h3 hr=> ?_) (fun h3 hr=> ?_)
 ·refine zz ?_
  obtain rfl:=sj hr
  exact bE Tryz.results85 []
 refine zz ?_
 obtain rfl:=sj hr
 exact bE Tryz.results85 []
theorem aIZ {N:Nat}{bB:Int}{cC:List Int}{eU eJ r:Int}(hr:yZ N bB cC eU eJ=some r):
  Vm.Fn Tryz.prog 86 [] [(.agg [(eI .i64 bB),(.row none 1 (cC.map (eI .u8))),(eI .i64 eU),(eI .i64 eJ)])] (eI .i64 r) []:=by
 refine zf Tryz.func86 Tryz.ntmps86 ?_
 unfold yZ at hr
 refine zz ?_
 refine aXo ?_
 refine zz ?_
 refine aXm ?_
 refine aXp fun K1 hK1 hG1=> ?_
 have J1: ∀(x5:Bool),mY N bB cC eU eJ x5=some r→K1 (aI 19 [(1,(.ptr 0 0)),(4,(eI .i64 bB)),(5,(eB x5))]) [some ⟨90,[(eI .i64 bB),(.row none 1 (cC.map (eI .u8))),(eI .i64 eU),(eI .i64 eJ)]⟩]:=by
  intro x5 hr
  unfold mY at hr
  refine hK1 _ _ ?_
  refine zk hr rfl (fun h1 hr=> ?_) (fun h1 hr=> ?_)
  ·refine zz ?_
   obtain rfl:=sj hr
   exact bE Tryz.results86 []
  refine aXp fun K2 hK2 hG2=> ?_
  have J2: ∀(cD:Bool),pO N bB cC eU eJ cD=some r→K2 (aI 19 [(1,(.ptr 0 0)),(4,(eI .i64 bB)),(10,(eB cD))]) [some ⟨90,[(eI .i64 bB),(.row none 1 (cC.map (eI .u8))),(eI .i64 eU),(eI .i64 eJ)]⟩]:=by
   intro cD hr
   unfold pO at hr
   refine hK2 _ _ ?_
   refine zk hr rfl (fun h2 hr=> ?_) (fun h2 hr=> ?_)
   ·refine zz ?_
    obtain rfl:=sj hr
    exact bE Tryz.results86 []
   refine zz ?_
   refine zk hr rfl (fun h3 hr=> ?_) (fun h3 hr=> ?_)
   ·refine zz ?_
    obtain rfl:=sj hr
    exact bE Tryz.results86 []
   refine zz ?_
   obtain rfl:=sj hr
   exact bE Tryz.results86 []
  refine zz ?_
  refine zk hr rfl (fun h4 hr=> ?_) (fun h4 hr=> ?_)
  ·refine zz ?_
   exact hG2 _ _ _ _ (zG [0]) (J2 (bB == 4) hr)
  refine zz ?_
  refine zk hr rfl (fun h5 hr=> ?_) (fun h5 hr=> ?_)
  ·refine zz ?_
   exact hG2 _ _ _ _ (zG [0]) (J2 (bB == 5) hr)
  refine zz ?_
  exact hG2 _ _ _ _ (zG [0]) (J2 (bB == 10) hr)
 refine zz ?_
 refine zk hr rfl (fun h6 hr=> ?_) (fun h6 hr=> ?_)
 ·refine zz ?_
  exact hG1 _ _ _ _ (zG [0]) (J1 (bB == 1) hr)
 refine zz ?_
 refine zk hr rfl (fun h7 hr=> ?_) (fun h7 hr=> ?_)
 ·refine zz ?_
  exact hG1 _ _ _ _ (zG [0]) (J1 (bB == 15) hr)
 refine zz ?_
 refine zk hr rfl (fun h8 hr=> ?_) (fun h8 hr=> ?_)
 ·refine zz ?_
  exact hG1 _ _ _ _ (zG [0]) (J1 (bB == 16) hr)
 refine zz ?_
 exact hG1 _ _ _ _ (zG [0]) (J1 (bB == 17) hr)
theorem eN {N:Nat}{aH:List Int}{aK aP:Int}{aN:List (List Int)}{aJ:List aO}{aY:Int}{r:(List Int)}(hr:cV N aH aK aP aN aJ aY=some r):
  Vm.Fn Tryz.prog 87 [some ⟨88,(bG (eI .u8) aH [(eI .i64 aK),(eI .i64 aP),(.sl 1 0 aN.length 1 false),(.sl 2 0 aJ.length 2 true),(eI .i64 aY)])⟩,some ⟨31,aN.map (eL 1 (eI .u8))⟩,some ⟨113,aJ.flatMap aW⟩] [(.ptr 0 0)] (.row none 1 (r.map (eI .u8))) [some ⟨88,(bG (eI .u8) aH [(eI .i64 aK),(eI .i64 aP),(.sl 1 0 aN.length 1 false),(.sl 2 0 aJ.length 2 true),(eI .i64 aY)])⟩,some ⟨31,aN.map (eL 1 (eI .u8))⟩,some ⟨113,aJ.flatMap aW⟩]:=by
 refine zf Tryz.func87 Tryz.ntmps87 ?_
 unfold cV at hr
 refine zz ?_
 refine aXo ?_
 obtain⟨dA,h_1,hr⟩:=aD hr
 refine aXD mixed [] [] [[0,1,2,3,4,5,6,7,8,9,10,11,12]] ?_
 refine zz ?_
 obtain rfl:=sj hr
 exact bE Tryz.results87 [0,1,2]
theorem xB {N:Nat}{gM:List Int}{r:Bool}(hr:kZ N gM=some r):
  Vm.Fn Tryz.prog 33 [] [(.row none 1 (gM.map (eI .u8)))] (eB r) []:=by
 refine zf Tryz.func33 Tryz.ntmps33 ?_
 unfold kZ at hr
 refine zz ?_
 refine aXp fun K1 hK1 hG1=> ?_
 have J1:aBL N=some r→K1 (aI 14 []) []:=by
  intro hr
  unfold aBL at hr
  refine hK1 _ _ ?_
  refine zz ?_
  obtain rfl:=sj hr
  exact bE Tryz.results33 []
 obtain⟨bL,hL2,hr⟩:=aD hr
 refine zz ?_
 refine aXm<|aXr (fun m s h=> ∃(x7:Int),g8 N gM m x7=some bL∧Ghost 0 s h (aI 14 [(5,(.row none 1 (gM.map (eI .u8)))),(6,(eI .i64 (gM.length:Int))),(7,(eI .i64 x7))]) []) (n:=N) ⟨0,hL2,(zG [])⟩ (by rintro s h ⟨_,h0,_⟩;simp[g8]at h0) ?_
 rintro m2 s h ⟨x7,hr2,hg⟩
 refine aXq hg ?_
 clear hg hL2
 rw[g8]at hr2
 refine zz ?_
 refine aXo ?_
 refine zk hr2 rfl (fun h1 hr2=> ?_) (fun h1 hr2=> ?_)
 ·refine zz ?_
  refine aXo<|aXm ?_
  obtain⟨x9,h_2,hr2⟩:=aD hr2
  refine zz ?_
  refine zk hr2 rfl (fun h3 hr2=> ?_) (fun h3 hr2=> ?_)
  ·refine zz ?_
   obtain rfl:=sj hr2
   obtain rfl:=sj hr
   exact bE Tryz.results33 []
  refine zz ?_
  exact⟨aXk.wrap (x7+1),hr2,(zG [])⟩
 refine zz ?_
 obtain rfl:=sj hr2
 refine zz ?_
 exact hG1 _ _ _ _ (zG []) (J1 hr)
theorem oO {N:Nat}{aH:List Int}{aK aP:Int}{aN:List (List Int)}{aJ:List aO}{aY vn:Int}{r:(List Int)×Int×Int×(List (List Int))×(List aO)×Int}(hr:eR N aH aK aP aN aJ aY vn=some r):
  Vm.Fn Tryz.prog 88 [some ⟨88,(bG (eI .u8) aH [(eI .i64 aK),(eI .i64 aP),(.sl 1 0 aN.length 1 false),(.sl 2 0 aJ.length 2 true),(eI .i64 aY)])⟩,some ⟨31,aN.map (eL 1 (eI .u8))⟩,some ⟨113,aJ.flatMap aW⟩] [(.ptr 0 0),(eI .i64 vn)] (.tup []) [some ⟨88,(bG (eI .u8) r.1 [(eI .i64 r.2.1),(eI .i64 r.2.2.1),(.sl 3 0 r.2.2.2.1.length 1 false),(.sl 4 0 r.2.2.2.2.1.length 2 true),(eI .i64 r.2.2.2.2.2)])⟩,none,none,some ⟨31,r.2.2.2.1.map (eL 1 (eI .u8))⟩,some ⟨113,r.2.2.2.2.1.flatMap aW⟩]:=by
 refine zf Tryz.func88 Tryz.ntmps88 ?_
 unfold eR at hr
 obtain⟨x16,h_1,hr⟩:=aD hr
 refine aXD mixed [] [] [[0,1,2,3,4,5,6,7,8,9,10,11,12],[13,14,15]] ?_
 refine zz ?_
 refine xw (v:=(.sl 1 0 x16.length 1 false)) (cW rfl rfl rfl (aJo (l:=aN) rfl aB8 dB rfl rfl rfl h_1)) ?_
 refine zz ?_
 refine⟨_,_,(Ghost.cutM (t:=16) (E:=(eL 1 (eI .u8))) (l:=aN) (h':=[some ⟨88,(bG (eI .u8) aH [(eI .i64 aK),(eI .i64 aP),(.sl 1 0 aN.length 1 false),(.sl 2 0 aJ.length 2 true),(eI .i64 aY)])⟩,some ⟨31,x16.map (eL 1 (eI .u8))⟩,some ⟨113,aJ.flatMap aW⟩]) rfl rfl h_1 rfl), ?_⟩
 refine zz ?_
 obtain rfl:=sj hr
 exact zn0 Tryz.results88 (zG [0,1,2,1,2])
theorem tI {N:Nat}{aH:List Int}{aK aP:Int}{aN:List (List Int)}{aJ:List aO}{aY:Int}{gM:List Int}{r:Int×(List Int)×Int×Int×(List (List Int))×(List aO)×Int}(hr:i4 N aH aK aP aN aJ aY gM=some r):
  Vm.Fn Tryz.prog 108 [some ⟨88,(bG (eI .u8) aH [(eI .i64 aK),(eI .i64 aP),(.sl 1 0 aN.length 1 false),(.sl 2 0 aJ.length 2 true),(eI .i64 aY)])⟩,some ⟨31,aN.map (eL 1 (eI .u8))⟩,some ⟨113,aJ.flatMap aW⟩] [(.ptr 0 0),(.row none 1 (gM.map (eI .u8)))] (eI .i64 r.1) [some ⟨88,(bG (eI .u8) r.2.1 [(eI .i64 r.2.2.1),(eI .i64 r.2.2.2.1),(.sl 3 0 r.2.2.2.2.1.length 1 false),(.sl 4 0 r.2.2.2.2.2.1.length 2 true),(eI .i64 r.2.2.2.2.2.2)])⟩,none,none,some ⟨31,r.2.2.2.2.1.map (eL 1 (eI .u8))⟩,some ⟨113,r.2.2.2.2.2.1.flatMap aW⟩]:=by
 refine zf Tryz.func108 Tryz.ntmps108 ?_
 unfold i4 at hr
 refine zz ?_
 refine aXo ?_
 refine zz ?_
 refine zk hr rfl (fun h1 hr=> ?_) (fun h1 hr=> ?_)
 ·refine zz ?_
  obtain rfl:=sj hr
  exact bE Tryz.results108 [0,1,2,1,2]
 obtain⟨x18,h_2,hr⟩:=aD hr
 refine zz ?_
 obtain rfl:=sj hr
 exact bE Tryz.results108 [0,1,2,4,2]
theorem aJN {N:Nat}{va b:List Int}{r:Bool}(hr:aCO N va b=some r):
  Vm.Fn Tryz.prog 111 [] [(.row none 1 (va.map (eI .u8))),(.row none 1 (b.map (eI .u8)))] (eB r) []:=by
 refine zf Tryz.func111 Tryz.ntmps111 ?_
 unfold aCO at hr
 refine zz ?_
 refine xw (v:=(eS (sY va))) (jX rfl (aLN dB ti9 dO (aEA (fun _=>rfl)))) ?_
 refine zz ?_
 refine xw (v:=(eS (sY b))) (jX rfl (aLN dB ti9 dO (aEA (fun _=>rfl))))<|xw (tD rfl rfl (aNi ..)) ?_
 refine zz ?_
 obtain rfl:=sj hr
 exact bE Tryz.results111 []
theorem aCE {N:Nat}{vn:Int}{r:(List Int)}(hr:iQ N vn=some r):
  Vm.Fn Tryz.prog 112 [] [(eI .u32 vn)] (.sl 0 0 r.length 1 false) [some ⟨5,r.map (eI .u8)⟩]:=by
 refine zf Tryz.func112 Tryz.ntmps112 ?_
 unfold iQ at hr
 refine zz ?_
 refine aXp fun K1 hK1 hG1=> ?_
 have J1: ∀(l0:List Int),zJ N l0=some r→K1 (aI 14 [(3,(.sl 0 0 l0.length 1 false))]) [some ⟨5,l0.map (eI .u8)⟩]:=by
  intro l0 hr
  unfold zJ at hr
  refine hK1 _ _ ?_
  refine zz ?_
  obtain rfl:=sj hr
  exact bE Tryz.results112 [0]
 obtain⟨bL,hL2,hr⟩:=aD hr
 refine aXm<|aXr (fun m s h=> ∃(eC:Int)(aS:List Int),fF N m eC aS=some bL∧Ghost 0 s h (aI 14 [(0,(eI .u32 eC)),(3,(.sl 0 0 aS.length 1 false))]) [some ⟨5,aS.map (eI .u8)⟩]) (n:=N) ⟨vn,[],hL2,(zW 5 [0])⟩ (by rintro s h ⟨_,_,h0,_⟩;simp[fF]at h0) ?_
 rintro m2 s h ⟨eC,aS,hr2,hg⟩
 refine aXq hg ?_
 clear hg hL2
 rw[fF]at hr2
 refine aXo ?_
 refine zz ?_
 refine zk hr2 rfl (fun h1 hr2=> ?_) (fun h1 hr2=> ?_)
 ·refine zz ?_
  refine aXo<|aXm ?_
  obtain⟨fR,h_2,hr2⟩:=aD hr2
  obtain⟨x7,h_3,hr2⟩:=aD hr2
  refine zz ?_
  exact⟨x7,fR,hr2,(zG [2])⟩
 refine zz ?_
 obtain rfl:=sj hr2
 refine zz ?_
 exact hG1 _ _ _ _ (zG [0]) (J1 aS hr)
theorem aCk {N:Nat}{v:Bool}{r:(List Int)}(hr:lV N v=some r):
  Vm.Fn Tryz.prog 110 [] [(eB v)] (.sl 0 0 r.length 1 false) [some ⟨5,r.map (eI .u8)⟩]:=by
 refine zf Tryz.func110 Tryz.ntmps110 ?_
 unfold lV at hr
 refine zz ?_
 refine aXo ?_
 refine zz ?_
 refine zk hr rfl (fun h1 hr=> ?_) (fun h1 hr=> ?_)
 ·obtain⟨x4,h_2,hr⟩:=aD hr
  refine zz ?_
  refine zc (aCE h_2) [] ?_
  refine zz ?_
  obtain rfl:=sj hr
  exact bE Tryz.results110 [0]
 obtain⟨x5,h_3,hr⟩:=aD hr
 refine zz ?_
 refine zc (aCE h_3) [] ?_
 refine zz ?_
 obtain rfl:=sj hr
 exact bE Tryz.results110 [0]
theorem lR {N:Nat}{aH:List Int}{aK aP:Int}{aN:List (List Int)}{aJ:List aO}{aY vn:Int}{gM:List Int}{r:(List Int)×Int×Int×(List (List Int))×(List aO)×Int}(hr:dP N aH aK aP aN aJ aY vn gM=some r):
  Vm.Fn Tryz.prog 109 [some ⟨88,(bG (eI .u8) aH [(eI .i64 aK),(eI .i64 aP),(.sl 1 0 aN.length 1 false),(.sl 2 0 aJ.length 2 true),(eI .i64 aY)])⟩,some ⟨31,aN.map (eL 1 (eI .u8))⟩,some ⟨113,aJ.flatMap aW⟩] [(.ptr 0 0),(eI .i64 vn),(.row none 1 (gM.map (eI .u8)))] (.tup []) [some ⟨88,(bG (eI .u8) r.1 [(eI .i64 r.2.1),(eI .i64 r.2.2.1),(.sl 3 0 r.2.2.2.1.length 1 false),(.sl 4 0 r.2.2.2.2.1.length 2 true),(eI .i64 r.2.2.2.2.2)])⟩,none,none,some ⟨31,r.2.2.2.1.map (eL 1 (eI .u8))⟩,some ⟨113,r.2.2.2.2.1.flatMap aW⟩]:=by
 refine zf Tryz.func109 Tryz.ntmps109 ?_
 unfold dP at hr
 obtain⟨x8,h_1,hr⟩:=aD hr
 refine zz ?_
 refine zc (oO h_1) [0,1,2] ?_
 obtain⟨x16,h_2,hr⟩:=aD hr
 refine zz ?_
 obtain rfl:=sj hr
 exact zn0 Tryz.results109 (zG [0,1,2,6,4])
theorem t0 {N:Nat}{vh:List Int}{r:(List Int)}(hr:fV N vh=some r):
  Vm.Fn Tryz.prog 133 [] [(.agg (vh.map (eI .u8)))] (.agg (r.map (eI .u64))) []:=by
 refine zf Tryz.func133 Tryz.ntmps133 ?_
 unfold fV at hr
 refine zz ?_
 refine aXp fun K1 hK1 hG1=> ?_
 have J1: ∀(l1:List Int),pZ N l1=some r→K1 (aI 26 [(2,(.ptr 0 0)),(3,(.ptr 1 0))]) [some ⟨135,(aXj 4 0).map (eI .u64)⟩,some ⟨135,l1.map (eI .u64)⟩]:=by
  intro l1 hr
  unfold pZ at hr
  refine hK1 _ _ ?_
  obtain⟨q,h_1,hr⟩:=aD hr
  refine zz ?_
  obtain rfl:=sj hr
  exact iE Tryz.results133 bJ (zG [])
 obtain⟨q_1,h_2,hr⟩:=aD hr
 obtain⟨bL,hL2,hr⟩:=aD hr
 refine zz ?_
 refine aXm<|aXr (fun m s h=> ∃(x8:Int)(cS:List Int),gT N vh m x8 cS=some bL∧Ghost 0 s h (aI 26 [(2,(.ptr 0 0)),(3,(.ptr 1 0)),(7,(.agg (vh.map (eI .u8)))),(8,(eI .i64 x8))]) [some ⟨135,(aXj 4 0).map (eI .u64)⟩,some ⟨135,cS.map (eI .u64)⟩]) (n:=N) ⟨0,aXj 4 0,hL2,(zG [1,2])⟩ (by rintro s h ⟨_,_,h0,_⟩;simp[gT]at h0) ?_
 rintro m2 s h ⟨x8,cS,hr2,hg⟩
 refine aXq hg ?_
 clear hg hL2
 rw[gT]at hr2
 refine zz ?_
 refine aXo ?_
 refine zk hr2 rfl (fun h3 hr2=> ?_) (fun h3 hr2=> ?_)
 ·refine zz ?_
  refine aXo<|aXm ?_
  obtain⟨b4,h_4,hr2⟩:=aD hr2
  refine zz ?_
  refine xw (v:=(eI .u8 b4)) (aRt rfl rfl (ixA (E:=(eI .u8)) wJ dO rfl rfl h_4)) ?_
  obtain⟨x17,h_5,hr2⟩:=aD hr2
  obtain⟨x19,h_6,hr2⟩:=aD hr2
  refine zz ?_
  exact⟨aXk.wrap (x8+1),cS.set (aXw (aXk.wrap (3-(aXk.wrap (Int.tdiv x8 8))))) (bits .or .u64 x19 (aXJ.wrap b4)),hr2,(zG [0,1])⟩
 refine zz ?_
 obtain rfl:=sj hr2
 refine zz ?_
 exact hG1 _ _ _ _ (zG [0,1]) (J1 cS hr)
theorem rF {N:Nat}{vn:Int}{r:(List Int)}(hr:fS N vn=some r):
  Vm.Fn Tryz.prog 147 [] [(eI .u64 vn)] (.agg (r.map (eI .u64))) []:=by
 refine zf Tryz.func147 Tryz.ntmps147 ?_
 unfold fS at hr
 refine zz ?_
 refine xw (v:=(.agg ([vn,0,0,0].map (eI .u64)))) (cE rfl (nR b8 nQ rfl)) ?_
 refine zz ?_
 obtain rfl:=sj hr
 exact iE Tryz.results147 bJ (zG [])
theorem aEi {N:Nat}{r:(List Int)}(hr:r7 N=some r):
  Vm.Fn Tryz.prog 164 [] [] (.agg (r.map (eI .u64))) []:=by
 refine zf Tryz.func164 Tryz.ntmps164 ?_
 unfold r7 at hr
 refine zz ?_
 refine xw (v:=(.agg ([18446744073709515503,18446744073709551615,18446744073709551615,18446744073709551615].map (eI .u64)))) (cE rfl (nR b8 nQ rfl)) ?_
 refine zz ?_
 obtain rfl:=sj hr
 exact iE Tryz.results164 bJ (zG [])
theorem wB {N:Nat}{va b:List Int}{r:Int}(hr:pR N va b=some r):
  Vm.Fn Tryz.prog 163 [] [(.agg (va.map (eI .u64))),(.agg (b.map (eI .u64)))] (eI .i64 r) []:=by
 refine zf Tryz.func163 Tryz.ntmps163 ?_
 unfold pR at hr
 refine zz ?_
 refine aXp fun K1 hK1 hG1=> ?_
 have J1:aCU N=some r→K1 (aI 24 []) []:=by
  intro hr
  unfold aCU at hr
  refine hK1 _ _ ?_
  refine zz ?_
  obtain rfl:=sj hr
  exact bE Tryz.results163 []
 obtain⟨bL,hL2,hr⟩:=aD hr
 refine zz ?_
 refine aXm<|aXr (fun m s h=> ∃(vi:Int),oU N va b m vi=some bL∧Ghost 0 s h (aI 24 [(2,(.ptr 0 0)),(3,(.ptr 1 0)),(5,(eI .i64 vi))]) [some ⟨135,va.map (eI .u64)⟩,some ⟨135,b.map (eI .u64)⟩]) (n:=N) ⟨3,hL2,(zG [0,1])⟩ (by rintro s h ⟨_,h0,_⟩;simp[oU]at h0) ?_
 rintro m2 s h ⟨vi,hr2,hg⟩
 refine aXq hg ?_
 clear hg hL2
 rw[oU]at hr2
 refine aXo ?_
 refine zz ?_
 refine zk hr2 rfl (fun h1 hr2=> ?_) (fun h1 hr2=> ?_)
 ·refine zz ?_
  refine aXo<|aXm<|aXo<|aXo ?_
  obtain⟨b4,h_2,hr2⟩:=aD hr2
  obtain⟨bQ,h_3,hr2⟩:=aD hr2
  refine aXD mixed [] [] [[0,1,2,3,4,5,6]] ?_
  refine zz ?_
  refine zk hr2 rfl (fun h4 hr2=> ?_) (fun h4 hr2=> ?_)
  ·refine zz ?_
   obtain rfl:=sj hr2
   obtain rfl:=sj hr
   exact bE Tryz.results163 []
  refine zz ?_
  refine aXo<|aXD mixed [] [] [[0,1,2,3,4,5,6]] ?_
  refine zz ?_
  refine zk hr2 rfl (fun h5 hr2=> ?_) (fun h5 hr2=> ?_)
  ·refine zz ?_
   obtain rfl:=sj hr2
   obtain rfl:=sj hr
   exact bE Tryz.results163 []
  refine zz ?_
  exact⟨aXk.wrap (vi-1),hr2,(zG [0,1])⟩
 refine zz ?_
 obtain rfl:=sj hr2
 refine zz ?_
 exact hG1 _ _ _ _ (zG []) (J1 hr)
theorem z5 {N:Nat}{r:(List Int)}(hr:qN N=some r):
  Vm.Fn Tryz.prog 151 [] [] (.agg (r.map (eI .u64))) []:=by
 refine zf Tryz.func151 Tryz.ntmps151 ?_
 unfold qN at hr
 refine zz ?_
 refine xw (v:=(.agg ([18446744073709533559,18446744073709551615,18446744073709551615,9223372036854775807].map (eI .u64)))) (cE rfl (nR b8 nQ rfl)) ?_
 refine zz ?_
 obtain rfl:=sj hr
 exact iE Tryz.results151 bJ (zG [])
theorem aGX {N:Nat}{x r:Int}(hr:s8 N x=some r):
  Vm.Fn Tryz.prog 177 [] [(eI .u64 x)] (eI .i64 r) []:=by
 refine zf Tryz.func177 Tryz.ntmps177 ?_
 unfold s8 at hr
 refine zz ?_
 refine aXp fun K1 hK1 hG1=> ?_
 have J1: ∀(x_1 vn:Int),lM N x_1 vn=some r→K1 (aI 25 [(0,(eI .u64 x_1)),(2,(eI .i64 vn))]) []:=by
  intro x_1 vn hr
  unfold lM at hr
  refine hK1 _ _ ?_
  refine aXp fun K2 hK2 hG2=> ?_
  have J2: ∀(x_2 eC:Int),lI N x_2 eC=some r→K2 (aI 25 [(0,(eI .u64 x_2)),(2,(eI .i64 eC))]) []:=by
   intro x_2 eC hr
   unfold lI at hr
   refine hK2 _ _ ?_
   refine aXp fun K3 hK3 hG3=> ?_
   have J3: ∀(x_3 aDq:Int),jK N x_3 aDq=some r→K3 (aI 25 [(0,(eI .u64 x_3)),(2,(eI .i64 aDq))]) []:=by
    intro x_3 aDq hr
    unfold jK at hr
    refine hK3 _ _ ?_
    obtain⟨bV,h_1,hr⟩:=aD hr
    refine zz ?_
    refine xw (v:=(eI .u8 bV)) (aRt rfl rfl (ixT ti9 h_1)) ?_
    refine zz ?_
    obtain rfl:=sj hr
    exact bE Tryz.results177 []
   refine zz ?_
   refine zk hr rfl (fun h2 hr=> ?_) (fun h2 hr=> ?_)
   ·obtain⟨x16,h_3,hr⟩:=aD hr
    refine zz ?_
    exact hG3 _ _ _ _ (zG []) (J3 x16 (aXk.wrap (eC+8)) hr)
   refine zz ?_
   exact hG3 _ _ _ _ (zG []) (J3 x_2 eC hr)
  refine zz ?_
  refine zk hr rfl (fun h4 hr=> ?_) (fun h4 hr=> ?_)
  ·obtain⟨cD,h_5,hr⟩:=aD hr
   refine zz ?_
   exact hG2 _ _ _ _ (zG []) (J2 cD (aXk.wrap (vn+16)) hr)
  refine zz ?_
  exact hG2 _ _ _ _ (zG []) (J2 x_1 vn hr)
 refine zz ?_
 refine zk hr rfl (fun h6 hr=> ?_) (fun h6 hr=> ?_)
 ·obtain⟨x6,h_7,hr⟩:=aD hr
  refine zz ?_
  exact hG1 _ _ _ _ (zG []) (J1 x6 32 hr)
 refine zz ?_
 exact hG1 _ _ _ _ (zG []) (J1 x 0 hr)
theorem aNQ {N:Nat}{va:List Int}{r:Int}(hr:aEl N va=some r):
  Vm.Fn Tryz.prog 166 [] [(.agg (va.map (eI .u64)))] (eI .i64 r) []:=by
 refine zf Tryz.func166 Tryz.ntmps166 ?_
 unfold aEl at hr
 refine zz ?_
 refine aXp fun K1 hK1 hG1=> ?_
 have J1:aCY N=some r→K1 (aI 19 []) []:=by
  intro hr
  unfold aCY at hr
  refine hK1 _ _ ?_
  refine zz ?_
  obtain rfl:=sj hr
  exact bE Tryz.results166 []
 obtain⟨bL,hL2,hr⟩:=aD hr
 refine zz ?_
 refine aXm<|aXr (fun m s h=> ∃(vi:Int),tL N va m vi=some bL∧Ghost 0 s h (aI 19 [(1,(.ptr 0 0)),(3,(eI .i64 vi))]) [some ⟨135,va.map (eI .u64)⟩]) (n:=N) ⟨3,hL2,(zG [0])⟩ (by rintro s h ⟨_,h0,_⟩;simp[tL]at h0) ?_
 rintro m2 s h ⟨vi,hr2,hg⟩
 refine aXq hg ?_
 clear hg hL2
 rw[tL]at hr2
 refine aXo ?_
 refine zz ?_
 refine zk hr2 rfl (fun h1 hr2=> ?_) (fun h1 hr2=> ?_)
 ·refine zz ?_
  refine aXo<|aXm ?_
  obtain⟨x9,h_2,hr2⟩:=aD hr2
  refine zz ?_
  refine zk hr2 rfl (fun h3 hr2=> ?_) (fun h3 hr2=> ?_)
  ·obtain⟨x17,h_4,hr2⟩:=aD hr2
   refine zz ?_
   refine xp (aGX h_4) ?_
   refine zz ?_
   obtain rfl:=sj hr2
   obtain rfl:=sj hr
   exact bE Tryz.results166 []
  refine zz ?_
  exact⟨aXk.wrap (vi-1),hr2,(zG [0])⟩
 refine zz ?_
 obtain rfl:=sj hr2
 refine zz ?_
 exact hG1 _ _ _ _ (zG []) (J1 hr)
theorem aDd {N:Nat}{x y:Int}{r:Int×Int}(hr:mS N x y=some r):
  Vm.Fn Tryz.prog 170 [] [(eI .u64 x),(eI .u64 y)] (.tup [(eI .u64 r.1),(eI .u64 r.2)]) []:=by
 refine zf Tryz.func170 Tryz.ntmps170 ?_
 unfold mS at hr
 obtain⟨x17,h_1,hr⟩:=aD hr
 obtain⟨d5,h_2,hr⟩:=aD hr
 obtain⟨x29,h_3,hr⟩:=aD hr
 obtain⟨cU,h_4,hr⟩:=aD hr
 obtain⟨x46,h_5,hr⟩:=aD hr
 refine zz ?_
 obtain rfl:=sj hr
 exact kG Tryz.results170 []
theorem lO {N:Nat}{x y c:Int}{r:Int×Int}(hr:d7 N x y c=some r):Vm.Fn Tryz.prog 171 [] [(eI .u64 x),(eI .u64 y),(eI .u64 c)] (.tup [(eI .u64 r.1),(eI .u64 r.2)]) []:=
 aSg Tryz.func171 (by kernel_rfl) (by kernel_rfl) (by kernel_rfl) (by kernel_rfl) hr
theorem aNH {N:Nat}{va b:List Int}{r:(List Int)×(List Int)}(hr:aA4 N va b=some r):
  Vm.Fn Tryz.prog 174 [] [(.agg (va.map (eI .u64))),(.agg (b.map (eI .u64)))] (.tup [(.agg (r.1.map (eI .u64))),(.agg (r.2.map (eI .u64)))]) []:=by
 refine zf Tryz.func174 Tryz.ntmps174 ?_
 unfold aA4 at hr
 refine zz ?_
 refine aXp fun K1 hK1 hG1=> ?_
 have J1: ∀(l2:List Int),aAK N l2=some r→K1 (aI 69 [(4,(.ptr 0 0)),(5,(.ptr 1 0)),(6,(.ptr 2 0))]) [some ⟨135,(aXj 4 0).map (eI .u64)⟩,some ⟨135,(aXj 4 0).map (eI .u64)⟩,some ⟨167,l2.map (eI .u64)⟩]:=by
  intro l2 hr
  unfold aAK at hr
  refine hK1 _ _<|aXo ?_
  obtain⟨q,h_1,hr⟩:=aD hr
  obtain⟨x63,h_2,hr⟩:=aD hr
  obtain⟨x64,h_3,hr⟩:=aD hr
  obtain⟨x66,h_4,hr⟩:=aD hr
  obtain⟨x67,h_5,hr⟩:=aD hr
  refine AB.rd (fQ []) (fQ []) mixed<|aXl (n:=7) (i:=0) (by decide +kernel) rfl (gS (v:=(.sl 2 (aXw 4*1) x63.length 1 false)) (sv (cW rfl rfl rfl (aMv (E:=(eI .u64)) (l:=l2) aHs nQ rfl rfl rfl (bH h_1) zl rfl rfl h_2))))<|aXl (n:=6) (i:=1) (by decide +kernel) rfl (gS (v:=(.ptr 2 (aXw 4*1))) (sv (aFX rfl (apS b8 zl rfl h_3))))<|aXl (n:=5) (i:=2) (by decide +kernel) rfl (gS (v:=(.agg (x64.map (eI .u64)))) (sv (cA rfl (aPk (E:=(eI .u64)) (l:=l2) b8 rfl rfl h_2 h_3)))) ?_
  refine aXL (m:=1) (L:=lst [0,1,2,3,4,5,6] 8) (s1:=aI 69 [(4,(.ptr 0 0)),(5,(.ptr 1 0)),(68,(.agg (x67.map (eI .u64))))]) (h1:=[some ⟨135,x64.map (eI .u64)⟩,some ⟨135,(aXj 4 0).map (eI .u64)⟩]) ?_ (fun J=> ?_)
  ·refine aXl (n:=0) (i:=7) (by decide +kernel) rfl (gN (h':=[some ⟨135,x64.map (eI .u64)⟩,some ⟨135,x67.map (eI .u64)⟩]) (sv (bO rfl rfl (stA (E:=(eI .u64)) (l:=aXj 4 0) b8 rfl rfl (fun _=>rfl) rfl (cP h_5) rfl))))<|aXI (by decide +kernel) ?_
   refine zz ?_
   obtain rfl:=sj hr
   exact oL Tryz.results174 bJ bJ (lU [])
  refine aXy (n:=4) [3,6] (by decide +kernel) (by decide) ?_
  refine(aXv rfl (gS (v:=(.sl 2 (aXw 0*1) x66.length 1 false)) (sv (cW rfl rfl rfl (aMv (E:=(eI .u64)) (l:=l2) aHs nQ rfl rfl rfl (bH h_1) zl rfl rfl h_4)))) ?_ (aXv rfl (gN (h':=[some ⟨135,x64.map (eI .u64)⟩,some ⟨135,(aXj 4 0).map (eI .u64)⟩,some ⟨167,l2.map (eI .u64)⟩]) (sv (bO rfl rfl (stA (E:=(eI .u64)) (l:=aXj 4 0) b8 rfl rfl (fun _=>rfl) rfl (cP h_3) rfl)))) ?_ aXA))
  ·refine aXl (n:=3) (i:=4) (by decide +kernel) rfl (gS (v:=(.ptr 2 (aXw 0*1))) (sv (aFX rfl (apS b8 zl rfl h_5))))<|aXy (n:=2) [5,6] (by decide +kernel) (by decide) ?_
   refine(aXv rfl (gS (v:=(.agg (x67.map (eI .u64)))) (sv (cA rfl (aPk (E:=(eI .u64)) (l:=l2) b8 rfl rfl h_4 h_5)))) ?_ (aXv rfl (gN (h':=[some ⟨135,x64.map (eI .u64)⟩,some ⟨135,(aXj 4 0).map (eI .u64)⟩,some ⟨167,l2.map (eI .u64)⟩]) (sv (bO rfl rfl (stA (E:=(eI .u64)) (l:=aXj 4 0) b8 rfl rfl (fun _=>rfl) rfl (cP h_3) rfl)))) ?_ aXA))
   ·refine aXl (n:=1) (i:=6) (by decide +kernel) rfl (gN (h':=[some ⟨135,x64.map (eI .u64)⟩,some ⟨135,(aXj 4 0).map (eI .u64)⟩,some ⟨167,l2.map (eI .u64)⟩]) (sv (bO rfl rfl (stA (E:=(eI .u64)) (l:=aXj 4 0) b8 rfl rfl (fun _=>rfl) rfl (cP h_3) rfl)))) ?_
    exact aXx (by decide +kernel) (by decide +kernel) (zG [0,1]) J
   refine aXl (n:=1) (i:=5) (by decide +kernel) rfl (gS (v:=(.agg (x67.map (eI .u64)))) (sv (cA rfl (aPk (E:=(eI .u64)) (l:=l2) b8 rfl rfl h_4 h_5)))) ?_
   exact aXx (by decide +kernel) (by decide +kernel) (zG [0,1]) J
  refine aXl (n:=3) (i:=3) (by decide +kernel) rfl (gS (v:=(.sl 2 (aXw 0*1) x66.length 1 false)) (sv (cW rfl rfl rfl (aMv (E:=(eI .u64)) (l:=l2) aHs nQ rfl rfl rfl (bH h_1) zl rfl rfl h_4))))<|aXl (n:=2) (i:=4) (by decide +kernel) rfl (gS (v:=(.ptr 2 (aXw 0*1))) (sv (aFX rfl (apS b8 zl rfl h_5))))<|aXl (n:=1) (i:=5) (by decide +kernel) rfl (gS (v:=(.agg (x67.map (eI .u64)))) (sv (cA rfl (aPk (E:=(eI .u64)) (l:=l2) b8 rfl rfl h_4 h_5)))) ?_
  exact aXx (by decide +kernel) (by decide +kernel) (zG [0,1]) J
 obtain⟨bL,hL2,hr⟩:=aD hr
 refine zz ?_
 refine aXm<|aXr (fun m s h=> ∃(bQ:Int)(l4:List Int),kW N va b m bQ l4=some bL∧Ghost 0 s h (aI 69 [(2,(.ptr 0 0)),(3,(.ptr 1 0)),(4,(.ptr 2 0)),(5,(.ptr 3 0)),(6,(.ptr 4 0)),(14,(eI .i64 bQ))]) [some ⟨135,va.map (eI .u64)⟩,some ⟨135,b.map (eI .u64)⟩,some ⟨135,(aXj 4 0).map (eI .u64)⟩,some ⟨135,(aXj 4 0).map (eI .u64)⟩,some ⟨167,l4.map (eI .u64)⟩]) (n:=N) ⟨0,aXj 8 0,hL2,(zG [0,1,2,3,4])⟩ (by rintro s h ⟨_,_,h0,_⟩;simp[kW]at h0) ?_
 rintro m2 s h ⟨bQ,l4,hr2,hg⟩
 refine aXq hg ?_
 clear hg hL2
 rw[kW]at hr2
 refine zz ?_
 refine aXo ?_
 refine zk hr2 rfl (fun h6 hr2=> ?_) (fun h6 hr2=> ?_)
 ·refine zz ?_
  refine aXp fun K3 hK3 hG3=> ?_
  have J3: ∀(iB:List Int),aAl N va b bQ (kW N va b m2) iB=some bL→K3 (aI 69 [(2,(.ptr 0 0)),(3,(.ptr 1 0)),(4,(.ptr 2 0)),(5,(.ptr 3 0)),(6,(.ptr 4 0)),(14,(eI .i64 bQ))]) [some ⟨135,va.map (eI .u64)⟩,some ⟨135,b.map (eI .u64)⟩,some ⟨135,(aXj 4 0).map (eI .u64)⟩,some ⟨135,(aXj 4 0).map (eI .u64)⟩,some ⟨167,iB.map (eI .u64)⟩]:=by
   intro iB hr2
   unfold aAl at hr2
   refine hK3 _ _ ?_
   refine zz ?_
   exact⟨aXk.wrap (bQ+1),iB,hr2,(zG [0,1,2,3,4])⟩
  refine aXm ?_
  refine zz ?_
  refine aXp fun K4 hK4 hG4=> ?_
  have J4: ∀(lA:Int)(aA3:List Int),aAs N va b bQ (kW N va b m2) lA aA3=some bL→K4 (aI 69 [(2,(.ptr 0 0)),(3,(.ptr 1 0)),(4,(.ptr 2 0)),(5,(.ptr 3 0)),(6,(.ptr 4 0)),(7,(eI .i64 bQ)),(8,(eI .u64 lA)),(14,(eI .i64 bQ))]) [some ⟨135,va.map (eI .u64)⟩,some ⟨135,b.map (eI .u64)⟩,some ⟨135,(aXj 4 0).map (eI .u64)⟩,some ⟨135,(aXj 4 0).map (eI .u64)⟩,some ⟨167,aA3.map (eI .u64)⟩]:=by
   intro lA aA3 hr2
   unfold aAs at hr2
   refine hK4 _ _ ?_
   obtain⟨x61,h_7,hr2⟩:=aD hr2
   refine zz ?_
   exact hG3 _ _ _ _ (zG [0,1,2,3,4]) (J3 (aA3.set (aXw (aXk.wrap (bQ+4))) lA) hr2)
  obtain⟨res5,hL5,hr2⟩:=aD hr2
  refine zz ?_
  refine aXm<|aXr (fun m s h=> ∃(carry_1 x17:Int)(l4_3:List Int),dK N va b bQ m carry_1 x17 l4_3=some res5∧Ghost 0 s h (aI 69 [(2,(.ptr 0 0)),(3,(.ptr 1 0)),(4,(.ptr 2 0)),(5,(.ptr 3 0)),(6,(.ptr 4 0)),(7,(eI .i64 bQ)),(8,(eI .u64 carry_1)),(14,(eI .i64 bQ)),(17,(eI .i64 x17))]) [some ⟨135,va.map (eI .u64)⟩,some ⟨135,b.map (eI .u64)⟩,some ⟨135,(aXj 4 0).map (eI .u64)⟩,some ⟨135,(aXj 4 0).map (eI .u64)⟩,some ⟨167,l4_3.map (eI .u64)⟩]) (n:=N) ⟨0,0,l4,hL5,(zG [0,1,2,3,4])⟩ (by rintro s h ⟨_,_,_,h0,_⟩;simp[dK]at h0) ?_
  rintro m5 s h ⟨carry_1,x17,l4_3,hr5,hg⟩
  refine aXq hg ?_
  clear hg hL5
  rw[dK]at hr5
  refine zz ?_
  refine aXo ?_
  refine zk hr5 rfl (fun h8 hr5=> ?_) (fun h8 hr5=> ?_)
  ·refine zz ?_
   refine aXo<|aXm ?_
   refine zz ?_
   refine aXo ?_
   obtain⟨bV,h_9,hr5⟩:=aD hr5
   obtain⟨x25,h_10,hr5⟩:=aD hr5
   obtain⟨x27,h_11,hr5⟩:=aD hr5
   refine aXD mixed [170] [] [[0,1,2,3,4,5,6,7,8,9,10,11]] ?_
   refine zz ?_
   refine xu (aDd h_11) ?_
   obtain⟨x35,h_13,hr5⟩:=aD hr5
   obtain⟨x37,h_14,hr5⟩:=aD hr5
   refine zz ?_
   refine xp (lO h_14) ?_
   obtain⟨x46,h_15,hr5⟩:=aD hr5
   refine zz ?_
   refine xp (lO h_15) ?_
   refine zz ?_
   exact⟨aXJ.wrap ((aXJ.wrap (x27.1+x37.2))+x46.2),aXk.wrap (x17+1),l4_3.set (aXw (aXk.wrap (bQ+x17))) x46.1,hr5,(zG [0,1,2,3,4])⟩
  refine zz ?_
  obtain rfl:=sj hr5
  refine zz ?_
  exact hG4 _ _ _ _ (zG [0,1,2,3,4]) (J4 carry_1 l4_3 hr2)
 refine zz ?_
 obtain rfl:=sj hr2
 refine zz ?_
 exact hG1 _ _ _ _ (zG [2,3,4]) (J1 l4 hr)
theorem aFn {N:Nat}{va:List Int}{low:Int}{r:(List Int)×Int}(hr:tF N va low=some r):
  Vm.Fn Tryz.prog 179 [] [(.agg (va.map (eI .u64))),(eI .u64 low)] (.tup [(.agg (r.1.map (eI .u64))),(eI .u64 r.2)]) []:=by
 refine zf Tryz.func179 Tryz.ntmps179 ?_
 unfold tF at hr
 refine zz ?_
 refine aXp fun K1 hK1 hG1=> ?_
 have J1: ∀(aJA:Int)(l0:List Int),zV N aJA l0=some r→K1 (aI 25 [(1,(eI .u64 aJA)),(2,(.ptr 0 0)),(4,(.ptr 1 0))]) [some ⟨135,l0.map (eI .u64)⟩,some ⟨135,(aXj 4 0).map (eI .u64)⟩]:=by
  intro aJA l0 hr
  unfold zV at hr
  refine hK1 _ _ ?_
  obtain⟨q,h_1,hr⟩:=aD hr
  refine zz ?_
  obtain rfl:=sj hr
  exact oL Tryz.results179 bJ bJ (lU [])
 obtain⟨bL,hL2,hr⟩:=aD hr
 refine zz ?_
 refine aXm<|aXr (fun m s h=> ∃(low_2 x7:Int)(aS:List Int),oJ N m low_2 x7 aS=some bL∧Ghost 0 s h (aI 25 [(1,(eI .u64 low_2)),(2,(.ptr 0 0)),(4,(.ptr 1 0)),(7,(eI .i64 x7))]) [some ⟨135,aS.map (eI .u64)⟩,some ⟨135,(aXj 4 0).map (eI .u64)⟩]) (n:=N) ⟨low,0,va,hL2,(zG [0,1])⟩ (by rintro s h ⟨_,_,_,h0,_⟩;simp[oJ]at h0) ?_
 rintro m2 s h ⟨low_2,x7,aS,hr2,hg⟩
 refine aXq hg ?_
 clear hg hL2
 rw[oJ]at hr2
 refine zz ?_
 refine aXo ?_
 refine zk hr2 rfl (fun h2 hr2=> ?_) (fun h2 hr2=> ?_)
 ·refine zz ?_
  refine aXo<|aXm ?_
  obtain⟨fR,h_3,hr2⟩:=aD hr2
  obtain⟨bQ,h_4,hr2⟩:=aD hr2
  obtain⟨bT,h_5,hr2⟩:=aD hr2
  refine zz ?_
  refine aXD mixed [] [] [[0,1,2,3,4,5,6,7,8,9,10,11,12,13]] ?_
  refine zz ?_
  exact⟨bT,aXk.wrap (x7+1),aS.set (aXw x7) (bits .or .u64 bQ low_2),hr2,(zG [0,1])⟩
 refine zz ?_
 obtain rfl:=sj hr2
 refine zz ?_
 exact hG1 _ _ _ _ (zG [0,1]) (J1 low_2 aS hr)
theorem aC4 {N:Nat}{x y c:Int}{r:Int×Int}(hr:sQ N x y c=some r):Vm.Fn Tryz.prog 141 [] [(eI .u64 x),(eI .u64 y),(eI .u64 c)] (.tup [(eI .u64 r.1),(eI .u64 r.2)]) []:=
 aRC Tryz.func141 (by kernel_rfl) (by kernel_rfl) (by kernel_rfl) (by kernel_rfl) hr
theorem aE3 {N:Nat}{va b:List Int}{r:(List Int)×Bool}(hr:tK N va b=some r):
  Vm.Fn Tryz.prog 150 [] [(.agg (va.map (eI .u64))),(.agg (b.map (eI .u64)))] (.tup [(.agg (r.1.map (eI .u64))),(eB r.2)]) []:=by
 refine zf Tryz.func150 Tryz.ntmps150 ?_
 unfold tK at hr
 refine zz ?_
 refine aXp fun K1 hK1 hG1=> ?_
 have J1: ∀(borrow:Int)(l1:List Int),aAD N borrow l1=some r→K1 (aI 29 [(4,(.ptr 0 0)),(6,(.ptr 1 0)),(7,(eI .u64 borrow))]) [some ⟨135,(aXj 4 0).map (eI .u64)⟩,some ⟨135,l1.map (eI .u64)⟩]:=by
  intro borrow l1 hr
  unfold aAD at hr
  refine hK1 _ _ ?_
  obtain⟨q,h_1,hr⟩:=aD hr
  refine zz ?_
  obtain rfl:=sj hr
  exact oL Tryz.results150 bJ bJ (lU [])
 obtain⟨bL,hL2,hr⟩:=aD hr
 refine zz ?_
 refine aXm<|aXr (fun m s h=> ∃(borrow_1 x9:Int)(l3:List Int),kU N va b m borrow_1 x9 l3=some bL∧Ghost 0 s h (aI 29 [(2,(.ptr 0 0)),(3,(.ptr 1 0)),(4,(.ptr 2 0)),(6,(.ptr 3 0)),(7,(eI .u64 borrow_1)),(9,(eI .i64 x9))]) [some ⟨135,va.map (eI .u64)⟩,some ⟨135,b.map (eI .u64)⟩,some ⟨135,(aXj 4 0).map (eI .u64)⟩,some ⟨135,l3.map (eI .u64)⟩]) (n:=N) ⟨0,0,aXj 4 0,hL2,(zG [0,1,2,3])⟩ (by rintro s h ⟨_,_,_,h0,_⟩;simp[kU]at h0) ?_
 rintro m2 s h ⟨borrow_1,x9,l3,hr2,hg⟩
 refine aXq hg ?_
 clear hg hL2
 rw[kU]at hr2
 refine zz ?_
 refine aXo ?_
 refine zk hr2 rfl (fun h2 hr2=> ?_) (fun h2 hr2=> ?_)
 ·refine zz ?_
  refine aXo<|aXm ?_
  obtain⟨x15,h_3,hr2⟩:=aD hr2
  obtain⟨x18,h_4,hr2⟩:=aD hr2
  obtain⟨d5,h_5,hr2⟩:=aD hr2
  obtain⟨fG,h_7,hr2⟩:=aD hr2
  refine zz ?_
  refine aXD mixed [141] [] [[0,1,2,3,4,5,6,7,8,9,10,11,12,13,14]] ?_
  refine zz ?_
  refine xu (aC4 h_5) ?_
  refine zz ?_
  exact⟨d5.2,aXk.wrap (x9+1),l3.set (aXw x9) d5.1,hr2,(zG [0,1,2,3])⟩
 refine zz ?_
 obtain rfl:=sj hr2
 refine zz ?_
 exact hG1 _ _ _ _ (zG [2,3]) (J1 borrow_1 l3 hr)
theorem aHS {N:Nat}{hi lo b:List Int}{r:(List Int)×(List Int)×Bool}(hr:aCp N hi lo b=some r):
  Vm.Fn Tryz.prog 175 [] [(.agg (hi.map (eI .u64))),(.agg (lo.map (eI .u64))),(.agg (b.map (eI .u64)))] (.tup [(.agg (r.1.map (eI .u64))),(.agg (r.2.1.map (eI .u64))),(eB r.2.2)]) []:=by
 refine zf Tryz.func175 Tryz.ntmps175 ?_
 unfold aCp at hr
 refine zz ?_
 refine AB.scope<|aXo ?_
 obtain⟨q,h_1,hr⟩:=aD hr
 obtain⟨q_1,h_2,hr⟩:=aD hr
 obtain⟨x16,h_3,hr⟩:=aD hr
 refine zz ?_
 refine xp (wB h_3) ?_
 refine zz ?_
 refine zk hr rfl (fun h4 hr=> ?_) (fun h4 hr=> ?_)
 ·refine zz ?_
  refine xw (v:=(.agg ([0,0,0,0].map (eI .u64)))) (cE rfl (nR b8 nQ rfl))<|xw (v:=(.agg ([0,0,0,0].map (eI .u64)))) (cE rfl (nR b8 nQ rfl)) ?_
  refine zz ?_
  obtain rfl:=sj hr
  exact zF Tryz.results175 bJ bJ bJ (lU [])
 refine zz ?_
 refine xw (v:=(.agg ([0,0,0,0].map (eI .u64)))) (cE rfl (nR b8 nQ rfl)) ?_
 refine zz ?_
 refine aXo<|AB.label ?_
 refine zz ?_
 refine aXp fun K1 hK1 hG1=> ?_
 have J1: ∀(l0 l1:List Int),aCX N l0 l1=some r→K1 (aI 72 [(6,(.ptr 0 0)),(7,(.ptr 1 0))]) [some ⟨135,l0.map (eI .u64)⟩,some ⟨135,l1.map (eI .u64)⟩]:=by
  intro l0 l1 hr
  unfold aCX at hr
  refine hK1 _ _<|aXo ?_
  obtain⟨q_2,h_5,hr⟩:=aD hr
  obtain⟨q_3,h_6,hr⟩:=aD hr
  refine AB.rd (fQ []) (fQ []) mixed<|aXl (n:=4) (i:=0) (by decide +kernel) rfl (gS (v:=(.agg (l0.map (eI .u64)))) (sv (cA rfl (ldA (E:=(eI .u64)) (l:=l0) b8 rfl rfl (bH h_5))))) ?_
  refine aXL (m:=2) (L:=lst [0,1,2] 5) (s1:=aI 72 [(6,(.ptr 0 0)),(7,(.ptr 1 0)),(71,(.agg (l1.map (eI .u64))))]) (h1:=[some ⟨135,l0.map (eI .u64)⟩,some ⟨135,l1.map (eI .u64)⟩]) ?_ (fun J=> ?_)
  ·refine aXl (n:=1) (i:=3) (by decide +kernel) rfl (gN (h':=[some ⟨135,l0.map (eI .u64)⟩,some ⟨135,l1.map (eI .u64)⟩]) (sv (bO rfl rfl (stA (E:=(eI .u64)) (l:=l1) b8 rfl rfl (fun _=>rfl) (bH h_6) (bH h_6) rfl))))<|aXl (n:=0) (i:=4) (by decide +kernel) rfl (gS (v:=(eB true)) (sv (pS rfl)))<|aXI (by decide +kernel) ?_
   refine zz ?_
   obtain rfl:=sj hr
   exact zF Tryz.results175 bJ bJ bJ (lU [])
  refine aXy (n:=3) [1,2] (by decide +kernel) (by decide) ?_
  refine(aXv rfl (gS (v:=(.agg (l1.map (eI .u64)))) (sv (cA rfl (ldA (E:=(eI .u64)) (l:=l1) b8 rfl rfl (bH h_6))))) ?_ (aXv rfl (gN (h':=[some ⟨135,l0.map (eI .u64)⟩,some ⟨135,l1.map (eI .u64)⟩]) (sv (bO rfl rfl (stA (E:=(eI .u64)) (l:=l0) b8 rfl rfl (fun _=>rfl) (bH h_5) (bH h_5) rfl)))) ?_ aXA))
  ·refine aXl (n:=2) (i:=2) (by decide +kernel) rfl (gN (h':=[some ⟨135,l0.map (eI .u64)⟩,some ⟨135,l1.map (eI .u64)⟩]) (sv (bO rfl rfl (stA (E:=(eI .u64)) (l:=l0) b8 rfl rfl (fun _=>rfl) (bH h_5) (bH h_5) rfl)))) ?_
   exact aXx (by decide +kernel) (by decide +kernel) (zG [0,1]) J
  refine aXl (n:=2) (i:=1) (by decide +kernel) rfl (gS (v:=(.agg (l1.map (eI .u64)))) (sv (cA rfl (ldA (E:=(eI .u64)) (l:=l1) b8 rfl rfl (bH h_6))))) ?_
  exact aXx (by decide +kernel) (by decide +kernel) (zG [0,1]) J
 obtain⟨bL,hL2,hr⟩:=aD hr
 refine zz ?_
 refine aXm<|aXr (fun m s h=> ∃(dC:Int)(aS l2 l3:List Int),oP N b m dC aS l2 l3=some bL∧Ghost 0 s h (aI 72 [(4,(.ptr 0 0)),(5,(.ptr 1 0)),(6,(.ptr 2 0)),(7,(.ptr 3 0)),(9,(.ptr 4 0)),(10,(eI .i64 dC))]) [some ⟨135,aS.map (eI .u64)⟩,some ⟨135,b.map (eI .u64)⟩,some ⟨135,l2.map (eI .u64)⟩,some ⟨135,l3.map (eI .u64)⟩,some ⟨135,[0,0,0,0].map (eI .u64)⟩]) (n:=N) ⟨3,lo,aXj 4 0,hi,hL2,(zG [1,2,3,4,5])⟩ (by rintro s h ⟨_,_,_,_,h0,_⟩;simp[oP]at h0) ?_
 rintro m2 s h ⟨dC,aS,l2,l3,hr2,hg⟩
 refine aXq hg ?_
 clear hg hL2
 rw[oP]at hr2
 refine aXo ?_
 refine zz ?_
 refine zk hr2 rfl (fun h7 hr2=> ?_) (fun h7 hr2=> ?_)
 ·refine zz ?_
  refine aXp fun K3 hK3 hG3=> ?_
  have J3: ∀(fL jD e9:List Int),aC0 N b dC (oP N b m2) fL jD e9=some bL→K3 (aI 72 [(4,(.ptr 0 0)),(5,(.ptr 1 0)),(6,(.ptr 2 0)),(7,(.ptr 3 0)),(9,(.ptr 4 0)),(10,(eI .i64 dC))]) [some ⟨135,fL.map (eI .u64)⟩,some ⟨135,b.map (eI .u64)⟩,some ⟨135,jD.map (eI .u64)⟩,some ⟨135,e9.map (eI .u64)⟩,some ⟨135,[0,0,0,0].map (eI .u64)⟩]:=by
   intro fL jD e9 hr2
   unfold aC0 at hr2
   refine hK3 _ _ ?_
   refine zz ?_
   exact⟨aXk.wrap (dC-1),fL,jD,e9,hr2,(zG [0,1,2,3,4])⟩
  refine aXm ?_
  obtain⟨res4,hL4,hr2⟩:=aD hr2
  refine zz ?_
  refine aXm<|aXr (fun m s h=> ∃(bit:Int)(gE kC jZ:List Int),dU N b dC m bit gE kC jZ=some res4∧Ghost 0 s h (aI 72 [(4,(.ptr 0 0)),(5,(.ptr 1 0)),(6,(.ptr 2 0)),(7,(.ptr 3 0)),(9,(.ptr 4 0)),(10,(eI .i64 dC)),(11,(eI .i64 bit))]) [some ⟨135,gE.map (eI .u64)⟩,some ⟨135,b.map (eI .u64)⟩,some ⟨135,kC.map (eI .u64)⟩,some ⟨135,jZ.map (eI .u64)⟩,some ⟨135,[0,0,0,0].map (eI .u64)⟩]) (n:=N) ⟨63,aS,l2,l3,hL4,(zG [0,1,2,3,4])⟩ (by rintro s h ⟨_,_,_,_,h0,_⟩;simp[dU]at h0) ?_
  rintro m4 s h ⟨bit,gE,kC,jZ,hr4,hg⟩
  refine aXq hg ?_
  clear hg hL4
  rw[dU]at hr4
  refine aXo ?_
  refine zz ?_
  refine zk hr4 rfl (fun h8 hr4=> ?_) (fun h8 hr4=> ?_)
  ·refine zz ?_
   refine aXp fun K5 hK5 hG5=> ?_
   have J5: ∀(aJQ aKv aJ4:List Int),wG N b dC bit (dU N b dC m4) aJQ aKv aJ4=some res4→K5 (aI 72 [(4,(.ptr 0 0)),(5,(.ptr 1 0)),(6,(.ptr 2 0)),(7,(.ptr 3 0)),(9,(.ptr 4 0)),(10,(eI .i64 dC)),(11,(eI .i64 bit))]) [some ⟨135,aJQ.map (eI .u64)⟩,some ⟨135,b.map (eI .u64)⟩,some ⟨135,aKv.map (eI .u64)⟩,some ⟨135,aJ4.map (eI .u64)⟩,some ⟨135,[0,0,0,0].map (eI .u64)⟩]:=by
    intro aJQ aKv aJ4 hr4
    unfold wG at hr4
    refine hK5 _ _ ?_
    refine zz ?_
    exact⟨aXk.wrap (bit-1),aJQ,aKv,aJ4,hr4,(zG [0,1,2,3,4])⟩
   refine aXm<|aXo ?_
   refine aXp fun K6 hK6 hG6=> ?_
   have J6: ∀(x37:Bool),v5 N b dC bit gE kC jZ (dU N b dC m4) x37=some res4→K6 (aI 72 [(4,(.ptr 0 0)),(5,(.ptr 1 0)),(6,(.ptr 2 0)),(7,(.ptr 3 0)),(9,(.ptr 4 0)),(10,(eI .i64 dC)),(11,(eI .i64 bit)),(37,(eB x37))]) [some ⟨135,gE.map (eI .u64)⟩,some ⟨135,b.map (eI .u64)⟩,some ⟨135,kC.map (eI .u64)⟩,some ⟨135,jZ.map (eI .u64)⟩,some ⟨135,[0,0,0,0].map (eI .u64)⟩]:=by
    intro x37 hr4
    unfold v5 at hr4
    refine hK6 _ _ ?_
    refine zk hr4 rfl (fun h9 hr4=> ?_) (fun h9 hr4=> ?_)
    ·refine zz ?_
     obtain rfl:=sj hr4
     obtain rfl:=sj hr2
     refine zz ?_
     exact hG1 _ _ _ _ (zG [2,3]) (J1 kC jZ hr)
    obtain⟨q_4,h_10,hr4⟩:=aD hr4
    obtain⟨x40,h_11,hr4⟩:=aD hr4
    obtain⟨q_5,h_12,hr4⟩:=aD hr4
    refine zz ?_
    refine xp (aFn h_11) ?_
    obtain⟨q_6,h_13,hr4⟩:=aD hr4
    obtain⟨x46,h_14,hr4⟩:=aD hr4
    obtain⟨q_7,h_15,hr4⟩:=aD hr4
    refine zz ?_
    refine xp (aFn h_14) ?_
    refine zz ?_
    refine aXp fun K7 hK7 hG7=> ?_
    have J7: ∀(x56:Bool),tT N b dC bit kC x40 x46 (dU N b dC m4) x56=some res4→K7 (aI 72 [(4,(.ptr 0 0)),(5,(.ptr 1 0)),(6,(.ptr 2 0)),(7,(.ptr 3 0)),(9,(.ptr 4 0)),(10,(eI .i64 dC)),(11,(eI .i64 bit)),(56,(eB x56))]) [some ⟨135,x40.1.map (eI .u64)⟩,some ⟨135,b.map (eI .u64)⟩,some ⟨135,kC.map (eI .u64)⟩,some ⟨135,x46.1.map (eI .u64)⟩,some ⟨135,[0,0,0,0].map (eI .u64)⟩]:=by
     intro x56 hr4
     unfold tT at hr4
     refine hK7 _ _ ?_
     refine zk hr4 rfl (fun h16 hr4=> ?_) (fun h16 hr4=> ?_)
     ·obtain⟨x60,h_17,hr4⟩:=aD hr4
      obtain⟨q_8,h_18,hr4⟩:=aD hr4
      refine zz ?_
      refine xp (aE3 h_17) ?_
      obtain⟨x64,h_19,hr4⟩:=aD hr4
      obtain⟨x67,h_20,hr4⟩:=aD hr4
      refine zz ?_
      refine aXD mixed [] [] [[0,1,2,3,4,5,6,7]] ?_
      refine zz ?_
      exact hG5 _ _ _ _ (zG [0,1,2,3,4]) (J5 x40.1 (kC.set (aXw dC) (bits .or .u64 x64 x67)) x60.1 hr4)
     refine zz ?_
     exact hG5 _ _ _ _ (zG [0,1,2,3,4]) (J5 x40.1 kC x46.1 hr4)
    rcases aXn (x46.2 != 0)with h21|h21
    ·replace hr4:=cQ hr4 h21
     refine xr ?_
     refine zz ?_
     exact hG7 _ _ _ _ (zG [0,1,2,3,4]) (J7 true hr4)
    replace hr4:=cR hr4 h21
    obtain⟨x54,h_22,hr4⟩:=aD hr4
    refine xr ?_
    refine zz ?_
    refine xCg (v:=(eI .i64 x54)) (h':=[some ⟨135,x40.1.map (eI .u64)⟩,some ⟨135,b.map (eI .u64)⟩,some ⟨135,kC.map (eI .u64)⟩,some ⟨135,x46.1.map (eI .u64)⟩,some ⟨135,[0,0,0,0].map (eI .u64)⟩]) rfl rfl h21 rfl (Vm.Fn.pure (wB h_22) zR rfl) ?_
    refine zz ?_
    exact hG7 _ _ _ _ (zG [0,1,2,3,4]) (J7 (decide (0≤x54)) hr4)
   obtain⟨q_9,h_23,hr4⟩:=aD hr4
   rcases aXn (jZ == [0,0,0,0])with h24|h24
   ·replace hr4:=cQ hr4 h24
    obtain⟨aWK,h_25,hr4⟩:=aD hr4
    refine xr ?_
    refine zz ?_
    exact hG6 _ _ _ _ (zG [0,1,2,3,4]) (J6 (gE == [0,0,0,0]) hr4)
   replace hr4:=cR hr4 h24
   refine xr ?_
   refine zz ?_
   exact hG6 _ _ _ _ (zG [0,1,2,3,4]) (J6 false hr4)
  refine zz ?_
  obtain rfl:=sj hr4
  refine zz ?_
  exact hG3 _ _ _ _ (zG [0,1,2,3,4]) (J3 gE kC jZ hr2)
 refine zz ?_
 obtain rfl:=sj hr2
 refine zz ?_
 exact hG1 _ _ _ _ (zG [2,3]) (J1 l2 l3 hr)
theorem aCF {N:Nat}{va vm:List Int}{r:(List Int)}(hr:tN N va vm=some r):
  Vm.Fn Tryz.prog 176 [] [(.agg (va.map (eI .u64))),(.agg (vm.map (eI .u64)))] (.agg (r.map (eI .u64))) []:=by
 refine zf Tryz.func176 Tryz.ntmps176 ?_
 unfold tN at hr
 refine zz ?_
 refine aXo ?_
 obtain⟨q,h_1,hr⟩:=aD hr
 obtain⟨q_1,h_2,hr⟩:=aD hr
 obtain⟨cD,h_3,hr⟩:=aD hr
 refine zz ?_
 refine xp (wB h_3) ?_
 refine zz ?_
 refine zk hr rfl (fun h4 hr=> ?_) (fun h4 hr=> ?_)
 ·refine zz ?_
  obtain rfl:=sj hr
  exact iE Tryz.results176 bJ (zG [])
 obtain⟨x17,h_5,hr⟩:=aD hr
 obtain⟨q_2,h_6,hr⟩:=aD hr
 obtain⟨q_3,h_7,hr⟩:=aD hr
 refine zz ?_
 refine xw (v:=(.agg ([0,0,0,0].map (eI .u64)))) (cE rfl (nR b8 nQ rfl)) ?_
 refine zz ?_
 refine xp (aHS h_5) ?_
 refine zz ?_
 obtain rfl:=sj hr
 exact iE Tryz.results176 bJ (zG [])
end Go.Proofs.YtbjiaghljpoliaaGreatDoor
