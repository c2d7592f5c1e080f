/- Texts of ours, joined: Wk2, Wk3. -/
import Derived.Test.YtnllpckhipmpgaaGreatDoorQScriptOps5
open List renaming replicate → aQr,length_map → aQA
open Go.IntKind renaming i64 → aQs,u32 → aQE,u8 → aQX,max → aQZ
open Bool renaming eq_false_or_eq_true → aQt
open Go.Vm.DrawG renaming pick → aQu,jg → aQL,fork → aQO,nil → aQW,jn → aQY
open Go.Vm.AB renaming seq → aQv,block → aQw,seq_g → aQz,ghost → aQD,loopN → aQG,rs → aQM
open Go.Vm.Convs renaming cons → aQx,same → aQC,nil → aQK
open Go.Vm.Conv renaming same → aQy,row → aQN,tup → aQT,agg → aQ1
open Go.Vm.FCv renaming cons → aQB,nil → aQU
open Go.Vm.Fork renaming cons → aQF,nil → aQS
open Go.Vm.HCv renaming live → aQH,dead → aQR,nil → aQV
open Go.Vm.Ghost renaming trans → aQI,conv → aQP,virt → aQ0
open Int renaming toNat → aQJ,tdiv → aQ2
open Go.Vm.OpsX renaming ghost → aQQ
set_option linter.unusedVariables false
set_option linter.unusedSimpArgs false
set_option maxRecDepth 20000
set_option maxHeartbeats 1000000
namespace Go.Proofs.YtnllpckhipmpgaaGreatDoor
open Go Go.Vm
theorem aB5 {N:Nat}{b:List Int}{stack:List (List Int)}{fI:List Int}{iI pD:Int}{r:(List (List Int))×Int×Int}(hr:tB N b stack fI iI pD=some r):
  Vm.Fn Tryz.prog 9 [] [(.row none 1 (b.map (eI .u8))),(.row none 1 (stack.map (eL 1 (eI .u8)))),(.agg (bJ (eI .u8) fI [(eI .i64 iI),(eI .i64 pD)]))] (.tup [(.sl 0 0 r.1.length 1 false),(eI .i64 r.2.1),(eI .i64 r.2.2)]) [some ⟨31,r.1.map (eL 1 (eI .u8))⟩]:=by
 refine zf Tryz.func9 Tryz.ntmps9 ?_
 unfold tB at hr
 obtain⟨x17,h_1,hr⟩:=aA hr
 refine zz ?_
 refine zc (aEx h_1) [] ?_
 refine zz ?_
 refine aQv ?_
 refine zz ?_
 refine zk hr rfl (fun h2 hr=> ?_) (fun h2 hr=> ?_)
 ·refine zz ?_
  obtain rfl:=sj hr
  exact sK Tryz.results9 aW aW aW (zW 31 [2])
 refine zz ?_
 refine aQv ?_
 obtain⟨dO,h_3,hr⟩:=aA hr
 refine zz ?_
 refine zcL (aDB h_3) [] [1] ?_
 refine zz ?_
 refine zk hr rfl (fun h4 hr=> ?_) (fun h4 hr=> ?_)
 ·refine zz ?_
  obtain rfl:=sj hr
  exact sK Tryz.results9 aW aW aW (zW 31 [2])
 refine zz ?_
 refine aQv ?_
 obtain⟨x27,h_5,hr⟩:=aA hr
 refine zz ?_
 refine xp (aDh h_5) ?_
 refine zz ?_
 refine zk hr rfl (fun h6 hr=> ?_) (fun h6 hr=> ?_)
 ·refine zz ?_
  obtain rfl:=sj hr
  exact sK Tryz.results9 aW aW aW (zW 31 [2])
 refine zz ?_
 refine aQv ?_
 obtain⟨dD,h_7,hr⟩:=aA hr
 refine AB.rd (eE []) (eE [21]) mixed<|aQu (n:=5) (i:=0) (by decide +kernel) rfl (gS (v:=(.agg (bJ (eI .u8) fI [(eI .i64 iI),(eI .i64 pD)]))) (sv (bO rfl (ldP rfl (zN (ds:=(bJ (eI .u8) fI [(eI .i64 iI),(eI .i64 pD)])) aAm rfl zl rfl)))))<|aQu (n:=4) (i:=1) (by decide +kernel) rfl (gS (v:=(.row none 1 (stack.map (eL 1 (eI .u8))))) (sv (kK rfl))) ?_
 refine aQY (m:=1) (L:=lst [0,1,2,3,4] 6) (s1:=aE 50 [(9,(.sl 0 0 x17.1.length 4 true)),(11,(.ptr 1 0)),(32,(.agg (bJ (eI .u8) fI [(eI .i64 iI),(eI .i64 pD),(.sl 2 0 dD.length 1 false),(.row (some true) 1 []),(eI .i64 0)])))]) (h1:=[some ⟨46,x17.1.flatMap bT⟩,some ⟨56,(bJ (eI .u8) (aQr 32 0) [(eI .i64 0),(eI .i64 0),(.row (some true) 1 []),(.row (some true) 1 []),(eI .i64 0)])⟩,some ⟨31,dD.map (eL 1 (eI .u8))⟩]) ?_ (fun J=> ?_)
 ·refine aQu (n:=0) (i:=5) (by decide +kernel) rfl (gN (h':=[some ⟨46,x17.1.flatMap bT⟩,some ⟨56,(bJ (eI .u8) fI [(eI .i64 iI),(eI .i64 pD),(.sl 2 0 dD.length 1 false),(.row (some true) 1 []),(eI .i64 0)])⟩,some ⟨31,dD.map (eL 1 (eI .u8))⟩]) (sv (aY rfl rfl (fV v7 rfl rfl rfl zl rfl))))<|aQW (by decide +kernel) ?_
  refine zz ?_
  refine aQz fun K1 hK1 hG1=> ?_
  have J1: ∀(c0:List Int)(rU rZ rC:Int)(l1:List (List Int))(l2:List aG),uQ N c0 rU rZ rC l1 l2=some r→K1 (aE 50 [(11,(.ptr 0 0))]) [some ⟨56,(bJ (eI .u8) c0 [(eI .i64 rU),(eI .i64 rZ),(.sl 1 0 l1.length 1 false),(.sl 2 0 l2.length 2 true),(eI .i64 rC)])⟩,some ⟨31,l1.map (eL 1 (eI .u8))⟩,some ⟨73,l2.flatMap aM⟩]:=by
   intro c0 rU rZ rC l1 l2 hr
   unfold uQ at hr
   refine hK1 _ _<|aQv<|aQD (aQP (fr':=[(11,(.ptr 0 0))]) (h':=[some ⟨56,(bJ (eI .u8) c0 [(eI .i64 rU),(eI .i64 rZ),(.row none 1 (l1.map (eL 1 (eI .u8)))),(.sl 2 0 l2.length 2 true),(eI .i64 rC)])⟩,none,some ⟨73,l2.flatMap aM⟩]) (aQB rfl (aQy (aH rfl)) aQU) (aQH (aLr (fun _=>aQy (aH rfl)) (aQx (aQy (aH rfl)) (aQx (aQy (aH rfl)) (aQx (aQN (aH rfl) rfl rfl (dB (fun _=>rfl)) (by first|rfl|(simp only[aQA,bE,bF];done))) (aQx (aQy (aH rfl)) (aQx (aQy (aH rfl)) aQK)))))) rfl (aQR (aQH (aQC (aH rfl)) (mU (fun _=>rfl) _) aQV)))) ?_
   obtain⟨x47,h_9,hr⟩:=aA hr
   refine aQM mixed [] [21] [[0,1,2,3,4,5,6,7]] ?_
   refine zz ?_
   refine zg (u2 h_9) [] ?_
   refine zz ?_
   obtain rfl:=sj hr
   exact zd3 Tryz.results9 [3]
  obtain⟨a9,hL2,hr⟩:=aA hr
  refine zz ?_
  refine aQw<|aQG (fun m s h=> ∃(x35:Int)(wT:List Int)(c0_5 c0_6 c0_7:Int)(fU:List (List Int))(l3:List aG),kD N x17 m x35 wT c0_5 c0_6 c0_7 fU l3=some a9∧Ghost 0 s h (aE 50 [(11,(.ptr 0 0)),(33,(.sl 1 0 x17.1.length 4 true)),(34,(eI .i64 (x17.1.length:Int))),(35,(eI .i64 x35))]) [some ⟨56,(bJ (eI .u8) wT [(eI .i64 c0_5),(eI .i64 c0_6),(.sl 2 0 fU.length 1 false),(.sl 3 0 l3.length 2 true),(eI .i64 c0_7)])⟩,some ⟨46,x17.1.flatMap bT⟩,some ⟨31,fU.map (eL 1 (eI .u8))⟩,some ⟨73,l3.flatMap aM⟩]) (n:=N) ⟨0,fI,iI,pD,0,dD,[],hL2,(aQI (aQ0 (fr':=[(11,(.ptr 1 0)),(33,(.sl 0 0 x17.1.length 4 true)),(34,(eI .i64 (x17.1.length:Int))),(35,(eI .i64 0))]) (h1:=[some ⟨46,x17.1.flatMap bT⟩,some ⟨56,(bJ (eI .u8) fI [(eI .i64 iI),(eI .i64 pD),(.sl 2 0 dD.length 1 false),(.sl 3 0 0 2 true),(eI .i64 0)])⟩,some ⟨31,dD.map (eL 1 (eI .u8))⟩]) 73 (FLe.same rfl (FLe.same rfl (FLe.same rfl (FLe.same rfl FLe.nil)))) (HLv.live (V.les_refl _ _) (mU (fun _=>rfl) _) (HLv.live (aHn (V.les_cons (V.le_refl _ _) (V.les_cons (V.le_refl _ _) (V.les_cons (V.le_refl _ _) (V.les_cons (V.le_virt rfl) (V.les_cons (V.le_refl _ _) V.les_nil)))))) rfl (HLv.live (V.les_refl _ _) (all_map (fun _=>rfl) _) HLv.nil)))) (lI [1,0,2,3]))⟩ (by rintro s h ⟨_,_,_,_,_,_,_,h0,_⟩;simp[kD]at h0) ?_
  rintro m2 s h ⟨x35,wT,c0_5,c0_6,c0_7,fU,l3,hr2,hg⟩
  refine aQD hg ?_
  clear hg hL2
  rw[kD]at hr2
  refine zz ?_
  refine aQv ?_
  refine zk hr2 rfl (fun h11 hr2=> ?_) (fun h11 hr2=> ?_)
  ·refine zz ?_
   refine aQv<|aQw ?_
   obtain⟨x37,h_12,hr2⟩:=aA hr2
   refine zz ?_
   refine xw (v:=(.agg [(eI .i64 x37.Code),(.row none 1 (x37.Data.map (eI .u8))),(eI .i64 x37.M),(eI .i64 x37.N)])) (bO rfl (aJp (C:=bT) (K:=4) (fun _=>rfl) rfl h_12 (zN (ds:=[(eI .i64 x37.Code),(.row none 1 (x37.Data.map (eI .u8))),(eI .i64 x37.M),(eI .i64 x37.N)]) xE rfl zl rfl))) ?_
   obtain⟨x40,h_13,hr2⟩:=aA hr2
   refine zz ?_
   refine zc (aAW h_13) [0,2,3] ?_
   refine zz ?_
   refine zk hr2 rfl (fun h14 hr2=> ?_) (fun h14 hr2=> ?_)
   ·refine zz ?_
    obtain rfl:=sj hr2
    obtain rfl:=sj hr
    exact sK Tryz.results9 aW aW aW (zW 31 [7])
   refine zz ?_
   exact⟨aQs.wrap (x35+1),x40.2.1,x40.2.2.1,x40.2.2.2.1,x40.2.2.2.2.2.2,x40.2.2.2.2.1,x40.2.2.2.2.2.1,hr2,(zG [0,1,5,6])⟩
  refine zz ?_
  obtain rfl:=sj hr2
  refine zz ?_
  exact hG1 _ _ _ _ (zG [0,2,3]) (J1 wT c0_5 c0_6 c0_7 fU l3 hr)
 refine aQO (n:=3) [2,4] (by decide +kernel) (by decide) ?_
 refine(aQF rfl (gC (v:=(.sl 2 0 dD.length 1 false)) (h':=[some ⟨27,(bJ (eI .u8) fI [(eI .i64 iI),(eI .i64 pD)])⟩,some ⟨46,x17.1.flatMap bT⟩,some ⟨31,dD.map (eL 1 (eI .u8))⟩]) (zB (u2 h_7) []) rfl (fun _=>⟨_,rfl⟩) (sv (m9 rfl r8))) ?_ (aQF rfl (gS (v:=(.ptr 2 0)) (h':=[some ⟨27,(bJ (eI .u8) fI [(eI .i64 iI),(eI .i64 pD)])⟩,some ⟨46,x17.1.flatMap bT⟩,some ⟨56,(bJ (eI .u8) (aQr 32 0) [(eI .i64 0),(eI .i64 0),(.row (some true) 1 []),(.row (some true) 1 []),(eI .i64 0)])⟩]) (sv (iL v7 rfl rfl rfl))) ?_ aQS))
 ·refine aQu (n:=2) (i:=3) (by decide +kernel) rfl (gS (v:=(.agg (bJ (eI .u8) fI [(eI .i64 iI),(eI .i64 pD),(.sl 2 0 dD.length 1 false),(.row (some true) 1 []),(eI .i64 0)]))) (sv (cH rfl (aA6 v7 aLg rfl))))<|aQu (n:=1) (i:=4) (by decide +kernel) rfl (gS (v:=(.ptr 3 0)) (h':=[some ⟨27,(bJ (eI .u8) fI [(eI .i64 iI),(eI .i64 pD)])⟩,some ⟨46,x17.1.flatMap bT⟩,some ⟨31,dD.map (eL 1 (eI .u8))⟩,some ⟨56,(bJ (eI .u8) (aQr 32 0) [(eI .i64 0),(eI .i64 0),(.row (some true) 1 []),(.row (some true) 1 []),(eI .i64 0)])⟩]) (sv (iL v7 rfl rfl rfl))) ?_
  exact aQL (by decide +kernel) (by decide +kernel) (zG [1,3,2]) J
 refine aQu (n:=2) (i:=2) (by decide +kernel) rfl (gC (v:=(.sl 3 0 dD.length 1 false)) (h':=[some ⟨27,(bJ (eI .u8) fI [(eI .i64 iI),(eI .i64 pD)])⟩,some ⟨46,x17.1.flatMap bT⟩,some ⟨56,(bJ (eI .u8) (aQr 32 0) [(eI .i64 0),(eI .i64 0),(.row (some true) 1 []),(.row (some true) 1 []),(eI .i64 0)])⟩,some ⟨31,dD.map (eL 1 (eI .u8))⟩]) (zB (u2 h_7) []) rfl (fun _=>⟨_,rfl⟩) (sv (m9 rfl r8)))<|aQu (n:=1) (i:=3) (by decide +kernel) rfl (gS (v:=(.agg (bJ (eI .u8) fI [(eI .i64 iI),(eI .i64 pD),(.sl 3 0 dD.length 1 false),(.row (some true) 1 []),(eI .i64 0)]))) (sv (cH rfl (aA6 v7 aLg rfl)))) ?_
 exact aQL (by decide +kernel) (by decide +kernel) (zG [1,2,3]) J
theorem aGn {N:Nat}{r:Bool}(hr:zO N=some r):
  Vm.Fn Tryz.prog 5 [] [] (eB r) []:=by
 refine zf Tryz.func5 Tryz.ntmps5 ?_
 unfold zO at hr
 obtain⟨bX,h_1,hr⟩:=aA hr
 refine zz ?_
 refine aQQ (zv 1) ?_
 refine zz ?_
 refine xw (v:=(.agg (bJ (eI .u8) (aQr 32 0) [(eI .i64 0),(eI .i64 0)]))) (cH rfl (aA6 aAm aNH rfl))<|aQQ (zv 0) ?_
 refine aQQ (zv 2) ?_
 refine zc (aB5 h_1) [] ?_
 obtain⟨x17,h_2,hr⟩:=aA hr
 refine zz ?_
 refine zcL (aAC h_2) [] [4] ?_
 refine zz ?_
 refine aQz fun K1 hK1 hG1=> ?_
 have J1: ∀(x0:Bool),kC N x0=some r→K1 (aE 47 [(0,(eB x0))]) []:=by
  intro x0 hr
  unfold kC at hr
  refine hK1 _ _ ?_
  refine zz ?_
  obtain rfl:=sj hr
  exact bK Tryz.results5 []
 rcases aQt (bX.2.2 == 0)with h3|h3
 ·replace hr:=cU hr h3
  rcases aQt (bX.2.1 == 2)with h4|h4
  ·replace hr:=cU hr h4
   rcases aQt ((bX.1.length:Int) == 1)with h5|h5
   ·replace hr:=cU hr h5
    obtain⟨lC,h_6,hr⟩:=aA hr
    rcases aQt ((lC.length:Int) == 1)with h7|h7
    ·replace hr:=cU hr h7
     rcases aQt (x17.2 == 82)with h8|h8
     ·replace hr:=cU hr h8
      obtain⟨x43,h_9,hr⟩:=aA hr
      refine xr ?_
      refine zz ?_
      refine wQ (v:=(.sl 5 0 x43.length 1 false)) (h':=[none,none,none,some ⟨31,bX.1.map (eL 1 (eI .u8))⟩,some ⟨5,[1,0].map (eI .u8)⟩,some ⟨5,x43.map (eI .u8)⟩]) rfl rfl h8 rfl (zB (tG h_9) []) ?_
      refine zz ?_
      exact hG1 _ _ _ _ (zG []) (J1 ((x43.length:Int) == 0) hr)
     replace hr:=cQ hr h8
     refine xr ?_
     refine zz ?_
     exact hG1 _ _ _ _ (zG []) (J1 false hr)
    replace hr:=cQ hr h7
    refine xr ?_
    refine zz ?_
    refine xX rfl<|xX rfl<|xX rfl ?_
    refine zz ?_
    exact hG1 _ _ _ _ (zG []) (J1 false hr)
   replace hr:=cQ hr h5
   refine xr ?_
   refine zz ?_
   refine xX rfl<|xX rfl ?_
   refine zz ?_
   refine xX rfl<|xX rfl<|xX rfl ?_
   refine zz ?_
   exact hG1 _ _ _ _ (zG []) (J1 false hr)
  replace hr:=cQ hr h4
  refine xr ?_
  refine zz ?_
  refine xX rfl<|xX rfl<|xX rfl<|xX rfl<|xX rfl ?_
  refine zz ?_
  refine xX rfl<|xX rfl ?_
  refine zz ?_
  refine xX rfl<|xX rfl<|xX rfl ?_
  refine zz ?_
  exact hG1 _ _ _ _ (zG []) (J1 false hr)
 replace hr:=cQ hr h3
 refine xr ?_
 refine zz ?_
 refine xX rfl<|xX rfl<|xX rfl ?_
 refine zz ?_
 refine xX rfl<|xX rfl<|xX rfl<|xX rfl<|xX rfl ?_
 refine zz ?_
 refine xX rfl<|xX rfl ?_
 refine zz ?_
 refine xX rfl<|xX rfl<|xX rfl ?_
 refine zz ?_
 exact hG1 _ _ _ _ (zG []) (J1 false hr)
theorem aDt {N:Nat}{l:List aK}{vn:Int}{r:Bool}(hr:aAu N l vn=some r):
  Vm.Fn Tryz.prog 6 [] [(.row none 4 (l.map eQ)),(eI .i64 vn)] (eB r) []:=by
 refine zf Tryz.func6 Tryz.ntmps6 ?_
 unfold aAu at hr
 refine zz ?_
 refine aQv ?_
 refine zz ?_
 refine zk hr rfl (fun h1 hr=> ?_) (fun h1 hr=> ?_)
 ·refine zz ?_
  obtain rfl:=sj hr
  exact bK Tryz.results6 []
 refine zz ?_
 refine aQz fun K1 hK1 hG1=> ?_
 have J1:aA1 N=some r→K1 (aE 22 []) []:=by
  intro hr
  unfold aA1 at hr
  refine hK1 _ _ ?_
  refine zz ?_
  obtain rfl:=sj hr
  exact bK Tryz.results6 []
 obtain⟨a9,hL2,hr⟩:=aA hr
 refine zz ?_
 refine aQw<|aQG (fun m s h=> ∃(cB:Int),l6 N l m cB=some a9∧Ghost 0 s h (aE 22 [(11,(.row none 4 (l.map eQ))),(12,(eI .i64 (l.length:Int))),(13,(eI .i64 cB))]) []) (n:=N) ⟨0,hL2,(zG [])⟩ (by rintro s h ⟨_,h0,_⟩;simp[l6]at h0) ?_
 rintro m2 s h ⟨cB,hr2,hg⟩
 refine aQD hg ?_
 clear hg hL2
 rw[l6]at hr2
 refine zz ?_
 refine aQv ?_
 refine zk hr2 rfl (fun h2 hr2=> ?_) (fun h2 hr2=> ?_)
 ·refine zz ?_
  refine aQv<|aQw ?_
  obtain⟨x15,h_3,hr2⟩:=aA hr2
  refine zz ?_
  refine zk hr2 rfl (fun h4 hr2=> ?_) (fun h4 hr2=> ?_)
  ·refine zz ?_
   obtain rfl:=sj hr2
   obtain rfl:=sj hr
   exact bK Tryz.results6 []
  refine zz ?_
  exact⟨aQs.wrap (cB+1),hr2,(zG [])⟩
 refine zz ?_
 obtain rfl:=sj hr2
 refine zz ?_
 exact hG1 _ _ _ _ (zG []) (J1 hr)
theorem aGm {N:Nat}{l:List (List Int)}{vn vm:Int}{r:Bool}(hr:vG N l vn vm=some r):
  Vm.Fn Tryz.prog 7 [] [(.row none 1 (l.map (eL 1 (eI .u8)))),(eI .i64 vn),(eI .i64 vm)] (eB r) []:=by
 refine zf Tryz.func7 Tryz.ntmps7 ?_
 unfold vG at hr
 refine zz ?_
 refine aQv ?_
 refine zz ?_
 refine zk hr rfl (fun h1 hr=> ?_) (fun h1 hr=> ?_)
 ·refine zz ?_
  obtain rfl:=sj hr
  exact bK Tryz.results7 []
 refine zz ?_
 refine aQz fun K1 hK1 hG1=> ?_
 have J1:y6 N=some r→K1 (aE 24 []) []:=by
  intro hr
  unfold y6 at hr
  refine hK1 _ _ ?_
  refine zz ?_
  obtain rfl:=sj hr
  exact bK Tryz.results7 []
 obtain⟨a9,hL2,hr⟩:=aA hr
 refine zz ?_
 refine aQw<|aQG (fun m s h=> ∃(x15:Int),kB N l vm m x15=some a9∧Ghost 0 s h (aE 24 [(2,(eI .i64 vm)),(13,(.row none 1 (l.map (eL 1 (eI .u8))))),(14,(eI .i64 (l.length:Int))),(15,(eI .i64 x15))]) []) (n:=N) ⟨0,hL2,(zG [])⟩ (by rintro s h ⟨_,h0,_⟩;simp[kB]at h0) ?_
 rintro m2 s h ⟨x15,hr2,hg⟩
 refine aQD hg ?_
 clear hg hL2
 rw[kB]at hr2
 refine zz ?_
 refine aQv ?_
 refine zk hr2 rfl (fun h2 hr2=> ?_) (fun h2 hr2=> ?_)
 ·refine zz ?_
  refine aQv<|aQw ?_
  obtain⟨x17,h_3,hr2⟩:=aA hr2
  refine zz ?_
  refine zk hr2 rfl (fun h4 hr2=> ?_) (fun h4 hr2=> ?_)
  ·refine zz ?_
   obtain rfl:=sj hr2
   obtain rfl:=sj hr
   exact bK Tryz.results7 []
  refine zz ?_
  exact⟨aQs.wrap (x15+1),hr2,(zG [])⟩
 refine zz ?_
 obtain rfl:=sj hr2
 refine zz ?_
 exact hG1 _ _ _ _ (zG []) (J1 hr)
theorem aBm {N:Nat}{aJ:Int}{aX:List Int}{o_M o_N r:Int}(hr:gT N aJ aX o_M o_N=some r):
  Vm.Fn Tryz.prog 16 [] [(.agg [(eI .i64 aJ),(.row none 1 (aX.map (eI .u8))),(eI .i64 o_M),(eI .i64 o_N)])] (eI .i64 r) []:=by
 refine zf Tryz.func16 Tryz.ntmps16 ?_
 unfold gT at hr
 refine zz ?_
 refine aQv<|aQw ?_
 refine aQz fun K1 hK1 hG1=> ?_
 have J1: ∀(x3:Bool),hH N aJ aX o_M o_N x3=some r→K1 (aE 66 [(1,(.ptr 0 0)),(3,(eB x3))]) [some ⟨46,[(eI .i64 aJ),(.row none 1 (aX.map (eI .u8))),(eI .i64 o_M),(eI .i64 o_N)]⟩]:=by
  intro x3 hr
  unfold hH at hr
  refine hK1 _ _ ?_
  refine zk hr rfl (fun h1 hr=> ?_) (fun h1 hr=> ?_)
  ·refine zz ?_
   obtain rfl:=sj hr
   exact bK Tryz.results16 []
  refine aQz fun K2 hK2 hG2=> ?_
  have J2: ∀(dL:Bool),d7 N aJ aX o_M o_N dL=some r→K2 (aE 66 [(1,(.ptr 0 0)),(12,(eB dL))]) [some ⟨46,[(eI .i64 aJ),(.row none 1 (aX.map (eI .u8))),(eI .i64 o_M),(eI .i64 o_N)]⟩]:=by
   intro dL hr
   unfold d7 at hr
   refine hK2 _ _ ?_
   refine zk hr rfl (fun h2 hr=> ?_) (fun h2 hr=> ?_)
   ·refine zz ?_
    obtain rfl:=sj hr
    exact bK Tryz.results16 []
   refine zz ?_
   refine zk hr rfl (fun h3 hr=> ?_) (fun h3 hr=> ?_)
   ·refine zz ?_
    obtain rfl:=sj hr
    exact bK Tryz.results16 []
   refine aQz fun K3 hK3 hG3=> ?_
   have J3: ∀(x40:Bool),eR N x40=some r→K3 (aE 66 [(40,(eB x40))]) []:=by
    intro x40 hr
    unfold eR at hr
    refine hK3 _ _ ?_
    refine zk hr rfl (fun h4 hr=> ?_) (fun h4 hr=> ?_)
    ·refine zz ?_
     obtain rfl:=sj hr
     exact bK Tryz.results16 []
    refine zz ?_
    obtain rfl:=sj hr
    exact bK Tryz.results16 []
   rcases aQt (aJ == 11)with h5|h5
   ·replace hr:=cU hr h5
    rcases aQt (decide (o_N<1))with h6|h6
    ·replace hr:=cU hr h6
     refine xr ?_
     refine zz ?_
     refine xX rfl<|xX rfl<|xX rfl ?_
     refine zz ?_
     refine xX rfl<|xX rfl<|xX rfl<|xX rfl<|xX rfl ?_
     refine zz ?_
     exact hG3 _ _ _ _ (zG []) (J3 true hr)
    replace hr:=cQ hr h6
    rcases aQt (decide (15<o_N))with h7|h7
    ·replace hr:=cU hr h7
     refine xr ?_
     refine zz ?_
     refine xX rfl<|xX rfl<|xX rfl<|xX rfl<|xX rfl ?_
     refine zz ?_
     exact hG3 _ _ _ _ (zG []) (J3 true hr)
    replace hr:=cQ hr h7
    rcases aQt (decide (o_M<1))with h8|h8
    ·replace hr:=cU hr h8
     refine xr ?_
     refine zz ?_
     exact hG3 _ _ _ _ (zG []) (J3 true hr)
    replace hr:=cQ hr h8
    refine xr ?_
    refine zz ?_
    exact hG3 _ _ _ _ (zG []) (J3 (decide (o_N<o_M)) hr)
   replace hr:=cQ hr h5
   refine xr ?_
   refine zz ?_
   exact hG3 _ _ _ _ (zG []) (J3 false hr)
  refine aQz fun K4 hK4 hG4=> ?_
  have J4: ∀(aBE:Bool),hY N aJ aX o_M o_N aBE=some r→K4 (aE 66 [(1,(.ptr 0 0)),(12,(eB aBE))]) [some ⟨46,[(eI .i64 aJ),(.row none 1 (aX.map (eI .u8))),(eI .i64 o_M),(eI .i64 o_N)]⟩]:=by
   intro aBE hr
   unfold hY at hr
   refine hK4 _ _ ?_
   refine zk hr rfl (fun h9 hr=> ?_) (fun h9 hr=> ?_)
   ·refine zz ?_
    exact hG2 _ _ _ _ (zG [0]) (J2 aBE hr)
   rcases aQt (o_M != 0)with h10|h10
   ·replace hr:=cU hr h10
    refine xr ?_
    refine zz ?_
    refine xSg (v:=(.ptr 0 0)) rfl rfl rfl (lV rfl (aIw ..)) ?_
    refine xSg (v:=(eI .i64 aJ)) rfl rfl rfl (bO rfl (ldP rfl (l5 cW rfl rfl))) ?_
    refine xSg (v:=(eB (aJ != 11))) rfl rfl rfl (xT rfl rfl (aIL ..)) ?_
    refine zz ?_
    exact hG2 _ _ _ _ (zG [0]) (J2 (aJ != 11) hr)
   replace hr:=cQ hr h10
   rcases aQt (o_N != 0)with h11|h11
   ·replace hr:=cU hr h11
    refine xr ?_
    refine zz ?_
    exact hG2 _ _ _ _ (zG [0]) (J2 (aJ != 11) hr)
   replace hr:=cQ hr h11
   refine xr ?_
   refine zz ?_
   exact hG2 _ _ _ _ (zG [0]) (J2 false hr)
  rcases aQt (decide (0<(aX.length:Int)))with h12|h12
  ·replace hr:=cU hr h12
   refine xr ?_
   refine zz ?_
   exact hG4 _ _ _ _ (zG [0]) (J4 (aJ != 1) hr)
  replace hr:=cQ hr h12
  refine xr ?_
  refine zz ?_
  exact hG4 _ _ _ _ (zG [0]) (J4 false hr)
 rcases aQt (decide (aJ<1))with h13|h13
 ·replace hr:=cU hr h13
  refine xr ?_
  refine zz ?_
  exact hG1 _ _ _ _ (zG [0]) (J1 true hr)
 replace hr:=cQ hr h13
 refine xr ?_
 refine zz ?_
 exact hG1 _ _ _ _ (zG [0]) (J1 (decide (17<aJ)) hr)
theorem aEk {N:Nat}{va b:List Int}{r:(List Int)}(hr:wJ N va b=some r):
  Vm.Fn Tryz.prog 51 [] [(.row none 1 (va.map (eI .u8))),(.row none 1 (b.map (eI .u8)))] (.sl 0 0 r.length 1 false) [some ⟨5,r.map (eI .u8)⟩]:=by
 refine zf Tryz.func51 Tryz.ntmps51 ?_
 unfold wJ at hr
 obtain⟨bX,h_1,hr⟩:=aA hr
 refine zz ?_
 refine xw (v:=(.sl 0 0 0 1 false)) (h':=[some ⟨5,bX.map (eI .u8)⟩]) (aLM rfl rfl (mkC (E:=(eI .u8)) (y:=0) cI dA ⟨zl,rfl,rfl⟩ rfl rfl rfl h_1 rfl rfl)) ?_
 obtain⟨bH,h_2,hr⟩:=aA hr
 obtain⟨x16,h_3,hr⟩:=aA hr
 refine zz ?_
 refine xw (v:=(.sl 1 0 bH.length 1 false)) (h':=[none,some ⟨5,bH.map (eI .u8)⟩]) (wR rfl rfl (aPT (E:=(eI .u8)) (Nat.zero_le _) cI dA ⟨rfl,rfl,zl⟩ rfl (aA4 (fun _=>rfl)) h_2 rfl rfl)) ?_
 refine zz ?_
 obtain rfl:=sj hr
 exact bK Tryz.results51 [2]
theorem qV {N:Nat}{l:List (List Int)}{r:(List Int)}(hr:k5 N l=some r):
  Vm.Fn Tryz.prog 34 [] [(.row none 1 (l.map (eL 1 (eI .u8))))] (.sl 0 0 r.length 1 false) [some ⟨5,r.map (eI .u8)⟩]:=by
 refine zf Tryz.func34 Tryz.ntmps34 ?_
 unfold k5 at hr
 refine zz ?_
 refine aQz fun K1 hK1 hG1=> ?_
 have J1: ∀(l0:List Int),zI N l0=some r→K1 (aE 17 [(3,(.sl 0 0 l0.length 1 false))]) [some ⟨5,l0.map (eI .u8)⟩]:=by
  intro l0 hr
  unfold zI at hr
  refine hK1 _ _ ?_
  refine zz ?_
  obtain rfl:=sj hr
  exact bK Tryz.results34 [0]
 obtain⟨a9,hL2,hr⟩:=aA hr
 refine zz ?_
 refine aQw<|aQG (fun m s h=> ∃(x8:Int)(aL:List Int),kG N l m x8 aL=some a9∧Ghost 0 s h (aE 17 [(3,(.sl 0 0 aL.length 1 false)),(6,(.row none 1 (l.map (eL 1 (eI .u8))))),(7,(eI .i64 (l.length:Int))),(8,(eI .i64 x8))]) [some ⟨5,aL.map (eI .u8)⟩]) (n:=N) ⟨0,[],hL2,(zW 5 [0])⟩ (by rintro s h ⟨_,_,h0,_⟩;simp[kG]at h0) ?_
 rintro m2 s h ⟨x8,aL,hr2,hg⟩
 refine aQD hg ?_
 clear hg hL2
 rw[kG]at hr2
 refine zz ?_
 refine aQv ?_
 refine zk hr2 rfl (fun h1 hr2=> ?_) (fun h1 hr2=> ?_)
 ·refine zz ?_
  refine aQv<|aQw ?_
  obtain⟨cC,h_2,hr2⟩:=aA hr2
  obtain⟨bH,h_3,hr2⟩:=aA hr2
  refine zz ?_
  refine zcL (aEk h_3) [] [0] ?_
  refine zz ?_
  exact⟨aQs.wrap (x8+1),bH,hr2,(zG [1])⟩
 refine zz ?_
 obtain rfl:=sj hr2
 refine zz ?_
 exact hG1 _ _ _ _ (zG [0]) (J1 aL hr)
theorem aEo {N:Nat}{aJ:Int}{aX:List Int}{o_M o_N:Int}{r:(List Int)}(hr:s6 N aJ aX o_M o_N=some r):
  Vm.Fn Tryz.prog 17 [] [(.agg [(eI .i64 aJ),(.row none 1 (aX.map (eI .u8))),(eI .i64 o_M),(eI .i64 o_N)])] (.sl 0 0 r.length 1 false) [some ⟨5,r.map (eI .u8)⟩]:=by
 refine zf Tryz.func17 Tryz.ntmps17 ?_
 unfold s6 at hr
 refine zz ?_
 refine aQv ?_
 refine zz ?_
 refine aQw ?_
 refine zz ?_
 refine zk hr rfl (fun h1 hr=> ?_) (fun h1 hr=> ?_)
 ·obtain⟨x15,h_2,hr⟩:=aA hr
  refine zz ?_
  refine aQQ (zv 1) ?_
  refine zz ?_
  refine zcL (qV h_2) [] [2] ?_
  refine zz ?_
  obtain rfl:=sj hr
  exact bK Tryz.results17 [3]
 refine zz ?_
 refine zk hr rfl (fun h3 hr=> ?_) (fun h3 hr=> ?_)
 ·refine zz ?_
  obtain rfl:=sj hr
  exact eW Tryz.results17 aW (lI [1])
 refine zz ?_
 obtain rfl:=sj hr
 exact eW Tryz.results17 aW (lI [1])
theorem aDe {N:Nat}{l:List aK}{r:(List Int)×Int}(hr:pU N l=some r):
  Vm.Fn Tryz.prog 8 [] [(.row none 4 (l.map eQ))] (.tup [(.sl 0 0 r.1.length 1 false),(eI .i64 r.2)]) [some ⟨5,r.1.map (eI .u8)⟩]:=by
 refine zf Tryz.func8 Tryz.ntmps8 ?_
 unfold pU at hr
 refine zz ?_
 refine aQz fun K1 hK1 hG1=> ?_
 have J1:lW N l=some r→K1 (aE 37 [(0,(.row none 4 (l.map eQ)))]) []:=by
  intro hr
  unfold lW at hr
  refine hK1 _ _ ?_
  refine zz ?_
  refine aQz fun K2 hK2 hG2=> ?_
  have J2: ∀(l0:List Int),tS N l0=some r→K2 (aE 37 [(7,(.sl 0 0 l0.length 1 false))]) [some ⟨5,l0.map (eI .u8)⟩]:=by
   intro l0 hr
   unfold tS at hr
   refine hK2 _ _ ?_
   refine zz ?_
   obtain rfl:=sj hr
   exact u6 Tryz.results8 [0]
  obtain⟨rB,hL3,hr⟩:=aA hr
  refine zz ?_
  refine aQw<|aQG (fun m s h=> ∃(dO:Int)(aL:List Int),iH N l m dO aL=some rB∧Ghost 0 s h (aE 37 [(7,(.sl 0 0 aL.length 1 false)),(22,(.row none 4 (l.map eQ))),(23,(eI .i64 (l.length:Int))),(24,(eI .i64 dO))]) [some ⟨5,aL.map (eI .u8)⟩]) (n:=N) ⟨0,[],hL3,(zW 5 [0])⟩ (by rintro s h ⟨_,_,h0,_⟩;simp[iH]at h0) ?_
  rintro m3 s h ⟨dO,aL,hr3,hg⟩
  refine aQD hg ?_
  clear hg hL3
  rw[iH]at hr3
  refine zz ?_
  refine aQv ?_
  refine zk hr3 rfl (fun h1 hr3=> ?_) (fun h1 hr3=> ?_)
  ·refine zz ?_
   refine aQv<|aQw ?_
   obtain⟨x26,h_2,hr3⟩:=aA hr3
   obtain⟨mX,h_3,hr3⟩:=aA hr3
   obtain⟨dD,h_4,hr3⟩:=aA hr3
   refine zz ?_
   refine zc (aEo h_3) [] ?_
   refine zz ?_
   refine zk hr3 rfl (fun h5 hr3=> ?_) (fun h5 hr3=> ?_)
   ·refine zz ?_
    obtain rfl:=sj hr3
    obtain rfl:=sj hr
    exact mZ Tryz.results8 aW aW (zW 5 [4])
   refine zz ?_
   exact⟨aQs.wrap (dO+1),dD,hr3,(zG [3])⟩
  refine zz ?_
  obtain rfl:=sj hr3
  refine zz ?_
  exact hG2 _ _ _ _ (zG [0]) (J2 aL hr)
 obtain⟨res4,hL4,hr⟩:=aA hr
 refine zz ?_
 refine aQw<|aQG (fun m s h=> ∃(dL:Int),iJ N l m dL=some res4∧Ghost 0 s h (aE 37 [(0,(.row none 4 (l.map eQ))),(10,(.row none 4 (l.map eQ))),(11,(eI .i64 (l.length:Int))),(12,(eI .i64 dL))]) []) (n:=N) ⟨0,hL4,(zG [])⟩ (by rintro s h ⟨_,h0,_⟩;simp[iJ]at h0) ?_
 rintro m4 s h ⟨dL,hr4,hg⟩
 refine aQD hg ?_
 clear hg hL4
 rw[iJ]at hr4
 refine zz ?_
 refine aQv ?_
 refine zk hr4 rfl (fun h6 hr4=> ?_) (fun h6 hr4=> ?_)
 ·refine zz ?_
  refine aQv<|aQw ?_
  obtain⟨bH,h_7,hr4⟩:=aA hr4
  obtain⟨x17,h_8,hr4⟩:=aA hr4
  refine zz ?_
  refine xp (aBm h_8) ?_
  refine zz ?_
  refine zk hr4 rfl (fun h9 hr4=> ?_) (fun h9 hr4=> ?_)
  ·refine zz ?_
   obtain rfl:=sj hr4
   obtain rfl:=sj hr
   exact mZ Tryz.results8 aW aW (zW 5 [1])
  refine zz ?_
  exact⟨aQs.wrap (dL+1),hr4,(zG [])⟩
 refine zz ?_
 obtain rfl:=sj hr4
 refine zz ?_
 exact hG1 _ _ _ _ (zG []) (J1 hr)
theorem aGK {N:Nat}{b:List Int}{r:Int×(List Int)×Int×Int×(List Int)×Int}(hr:yQ N b=some r):
  Vm.Fn Tryz.prog 43 [] [(.row none 1 (b.map (eI .u8)))] (.tup [(.agg [(eI .i64 r.1),(.sl 0 0 r.2.1.length 1 false),(eI .i64 r.2.2.1),(eI .i64 r.2.2.2.1)]),(.row none 1 (r.2.2.2.2.1.map (eI .u8))),(eI .i64 r.2.2.2.2.2)]) [some ⟨5,r.2.1.map (eI .u8)⟩]:=by
 refine zf Tryz.func43 Tryz.ntmps43 ?_
 unfold yQ at hr
 obtain⟨x8,h_1,hr⟩:=aA hr
 refine zz ?_
 refine aQv ?_
 refine aQz fun K1 hK1 hG1=> ?_
 have J1: ∀(x19:Bool),r6 N b x8 x19=some r→K1 (aE 77 [(0,(.row none 1 (b.map (eI .u8)))),(2,(.ptr 0 0)),(5,(.ptr 1 0)),(19,(eB x19))]) [some ⟨46,[(eI .i64 0),(.row (some true) 1 []),(eI .i64 0),(eI .i64 0)]⟩,some ⟨46,[(eI .i64 (aQs.wrap x8)),(.row (some true) 1 []),(eI .i64 0),(eI .i64 0)]⟩]:=by
  intro x19 hr
  unfold r6 at hr
  refine hK1 _ _ ?_
  refine zk hr rfl (fun h2 hr=> ?_) (fun h2 hr=> ?_)
  ·refine zz ?_
   obtain rfl:=sj hr
   exact sK Tryz.results43 aW aW aW (zW 5 [2])
  obtain⟨bN,h_3,hr⟩:=aA hr
  refine zz ?_
  refine aQz fun K2 hK2 hG2=> ?_
  have J2: ∀(b_1:List Int)(c1 xI:Int)(l2:List Int),lB N x8 b_1 c1 xI l2=some r→K2 (aE 77 [(0,(.row none 1 (b_1.map (eI .u8)))),(2,(.ptr 0 0)),(5,(.ptr 1 0))]) [some ⟨46,[(eI .i64 0),(.row (some true) 1 []),(eI .i64 0),(eI .i64 0)]⟩,some ⟨46,[(eI .i64 (aQs.wrap x8)),(.sl 2 0 l2.length 1 false),(eI .i64 c1),(eI .i64 xI)]⟩,some ⟨5,l2.map (eI .u8)⟩]:=by
   intro b_1 c1 xI l2 hr
   unfold lB at hr
   refine hK2 _ _<|aQv ?_
   obtain⟨x76,h_4,hr⟩:=aA hr
   refine aQM mixed [] [16] [[0,1,2,3,4,5,6]] ?_
   refine zz ?_
   refine xG (v:=(eI .i64 x76)) (h':=[some ⟨46,[(eI .i64 0),(.row (some true) 1 []),(eI .i64 0),(eI .i64 0)]⟩,some ⟨46,[(eI .i64 (aQs.wrap x8)),(.sl 2 0 l2.length 1 false),(eI .i64 c1),(eI .i64 xI)]⟩,some ⟨5,l2.map (eI .u8)⟩]) rfl (Vm.Fn.lendR (aBm h_4) [] [2] (by decide) rfl (by decide) Lend.nil (Brw.row (aMD (aBY rfl (aBY (aJH (d:=3) rfl rfl (fun _=>rfl)) (aBY rfl (aBY rfl aML))))) Brw.nil) rfl rfB.nil rfl zH) ?_
   refine zz ?_
   obtain rfl:=sj hr
   exact sK Tryz.results43 aW aW aW (zG [2])
  refine zz ?_
  refine aQw ?_
  refine zz ?_
  refine zk hr rfl (fun h6 hr=> ?_) (fun h6 hr=> ?_)
  ·refine aQv ?_
   refine aQz fun K3 hK3 hG3=> ?_
   have J3: ∀(x39:Bool),r9 N x8 bN x39=some r→K3 (aE 77 [(0,(.row none 1 (bN.map (eI .u8)))),(2,(.ptr 0 0)),(5,(.ptr 1 0)),(39,(eB x39))]) [some ⟨46,[(eI .i64 0),(.row (some true) 1 []),(eI .i64 0),(eI .i64 0)]⟩,some ⟨46,[(eI .i64 (aQs.wrap x8)),(.row (some true) 1 []),(eI .i64 0),(eI .i64 0)]⟩]:=by
    intro x39 hr
    unfold r9 at hr
    refine hK3 _ _ ?_
    refine zk hr rfl (fun h7 hr=> ?_) (fun h7 hr=> ?_)
    ·refine zz ?_
     obtain rfl:=sj hr
     exact sK Tryz.results43 aW aW aW (zW 5 [2])
    obtain⟨x42,h_8,hr⟩:=aA hr
    obtain⟨x48,h_9,hr⟩:=aA hr
    obtain⟨x50,h_10,hr⟩:=aA hr
    obtain⟨x53,h_12,hr⟩:=aA hr
    refine zz ?_
    refine AB.rd (eE []) (eE [34]) mixed<|aQu (n:=10) (i:=0) (by decide +kernel) rfl (gS (v:=(.row none 1 (bN.map (eI .u8)))) (sv (kK rfl)))<|aQu (n:=9) (i:=1) (by decide +kernel) rfl (gS (v:=(eI .i64 (aQs.wrap (1+(aQs.wrap x42))))) (sv (kK rfl)))<|aQu (n:=8) (i:=2) (by decide +kernel) rfl (gS (v:=(.row none 1 (x48.map (eI .u8)))) (sv (b7 rfl rfl rfl (qW cI dA rfl rfl h_9))))<|aQu (n:=7) (i:=3) (by decide +kernel) rfl (gS (v:=(.sl 2 0 1 1 false)) (h':=[some ⟨46,[(eI .i64 0),(.row (some true) 1 []),(eI .i64 0),(eI .i64 0)]⟩,some ⟨46,[(eI .i64 (aQs.wrap x8)),(.row (some true) 1 []),(eI .i64 0),(eI .i64 0)]⟩,some ⟨31,[x48].map (eL 1 (eI .u8))⟩]) (sv (qM rfl (aIT (xs:=[x48].map (eL 1 (eI .u8))) zE cI zl zl rfl rfl rfl rfl rfl rfl rfl)))) ?_
    refine aQu (n:=6) (i:=4) (by decide +kernel) rfl (gC (v:=(.sl 3 0 x50.length 1 false)) (h':=[some ⟨46,[(eI .i64 0),(.row (some true) 1 []),(eI .i64 0),(eI .i64 0)]⟩,some ⟨46,[(eI .i64 (aQs.wrap x8)),(.row (some true) 1 []),(eI .i64 0),(eI .i64 0)]⟩,some ⟨31,[x48].map (eL 1 (eI .u8))⟩,some ⟨5,x50.map (eI .u8)⟩]) (zL (qV h_10) [] [2]) rfl (fun _=>⟨_,rfl⟩) (sv (m9 rfl r8)))<|aQu (n:=5) (i:=5) (by decide +kernel) rfl (gS (v:=(.row none 1 (bN.map (eI .u8)))) (sv (kK rfl)))<|aQu (n:=4) (i:=6) (by decide +kernel) rfl (gS (v:=(eI .i64 (aQs.wrap (1+(aQs.wrap x42))))) (sv (kK rfl))) ?_
    refine aQu (n:=3) (i:=8) (by decide +kernel) rfl (gS (v:=(.ptr 1 1)) (sv (lV rfl (aEZ ..)))) ?_
    refine aQY (m:=1) (L:=lst [0,1,2,3,4,5,6,7,8,9] 11) (s1:=aE 77 [(0,(.row none 1 (bN.map (eI .u8)))),(2,(.ptr 0 0)),(5,(.ptr 1 0)),(53,(.row none 1 (x53.map (eI .u8))))]) (h1:=[some ⟨46,[(eI .i64 0),(.row (some true) 1 []),(eI .i64 0),(eI .i64 0)]⟩,some ⟨46,[(eI .i64 (aQs.wrap x8)),(.sl 2 0 x50.length 1 false),(eI .i64 0),(eI .i64 0)]⟩,some ⟨5,x50.map (eI .u8)⟩]) ?_ (fun J=> ?_)
    ·refine aQu (n:=0) (i:=10) (by decide +kernel) rfl (gS (v:=(.row none 1 (x53.map (eI .u8)))) (sv (qG rfl)))<|aQW (by decide +kernel) ?_
     refine zz ?_
     exact hG2 _ _ _ _ (zG [0,1,2]) (J2 x53 0 0 x50 hr)
    refine aQO (n:=2) [7,9] (by decide +kernel) (by decide) ?_
    refine(aQF rfl (gS (v:=(.row none 1 (x53.map (eI .u8)))) (sv (b7 rfl rfl rfl (qW cI dA rfl rfl h_12)))) ?_ (aQF rfl (gN (h':=[some ⟨46,[(eI .i64 0),(.row (some true) 1 []),(eI .i64 0),(eI .i64 0)]⟩,some ⟨46,[(eI .i64 (aQs.wrap x8)),(.sl 3 0 x50.length 1 false),(eI .i64 0),(eI .i64 0)]⟩,some ⟨31,[x48].map (eL 1 (eI .u8))⟩,some ⟨5,x50.map (eI .u8)⟩]) (sv (aY rfl rfl (fV cI rfl rfl rfl zl rfl)))) ?_ aQS))
    ·refine aQu (n:=1) (i:=9) (by decide +kernel) rfl (gN (h':=[some ⟨46,[(eI .i64 0),(.row (some true) 1 []),(eI .i64 0),(eI .i64 0)]⟩,some ⟨46,[(eI .i64 (aQs.wrap x8)),(.sl 3 0 x50.length 1 false),(eI .i64 0),(eI .i64 0)]⟩,some ⟨31,[x48].map (eL 1 (eI .u8))⟩,some ⟨5,x50.map (eI .u8)⟩]) (sv (aY rfl rfl (fV cI rfl rfl rfl zl rfl)))) ?_
     exact aQL (by decide +kernel) (by decide +kernel) (zG [0,1,3]) J
    refine aQu (n:=1) (i:=7) (by decide +kernel) rfl (gS (v:=(.row none 1 (x53.map (eI .u8)))) (sv (b7 rfl rfl rfl (qW cI dA rfl rfl h_12)))) ?_
    exact aQL (by decide +kernel) (by decide +kernel) (zG [0,1,3]) J
   rcases aQt ((bN.length:Int) == 0)with h13|h13
   ·replace hr:=cU hr h13
    refine xr ?_
    refine zz ?_
    exact hG3 _ _ _ _ (zG [0,1]) (J3 true hr)
   replace hr:=cQ hr h13
   obtain⟨x35,h_14,hr⟩:=aA hr
   refine xr ?_
   refine zz ?_
   exact hG3 _ _ _ _ (zG [0,1]) (J3 (decide ((aQs.wrap ((bN.length:Int)-1))<(aQs.wrap x35))) hr)
  refine zz ?_
  refine zk hr rfl (fun h15 hr=> ?_) (fun h15 hr=> ?_)
  ·refine aQv ?_
   refine zz ?_
   refine zk hr rfl (fun h16 hr=> ?_) (fun h16 hr=> ?_)
   ·refine zz ?_
    obtain rfl:=sj hr
    exact sK Tryz.results43 aW aW aW (zW 5 [2])
   obtain⟨x62,h_17,hr⟩:=aA hr
   obtain⟨x66,h_18,hr⟩:=aA hr
   obtain⟨x70,h_19,hr⟩:=aA hr
   refine zz ?_
   refine AB.rd (eE []) (eE []) mixed<|aQu (n:=14) (i:=0) (by decide +kernel) rfl (gS (v:=(.row none 1 (bN.map (eI .u8)))) (sv (kK rfl)))<|aQu (n:=13) (i:=1) (by decide +kernel) rfl (gS (sv (yZ rfl rfl (iaR cI dA h_17))))<|aQu (n:=12) (i:=2) (by decide +kernel) rfl (gS (v:=(eI .u8 x62)) (sv (bO rfl (ldR h_17 (l5 dA rfl rfl)))))<|aQu (n:=11) (i:=3) (by decide +kernel) rfl (gS (v:=(eI .i64 (aQs.wrap x62))) (sv (f9 rfl (eZ _ ⟨_,dA⟩ cW rfl))))<|aQu (n:=10) (i:=4) (by decide +kernel) rfl (gS (v:=(.row none 1 (bN.map (eI .u8)))) (sv (kK rfl))) ?_
   refine aQu (n:=9) (i:=5) (by decide +kernel) rfl (gS (sv (yZ rfl rfl (iaR cI dA h_18))))<|aQu (n:=8) (i:=8) (by decide +kernel) rfl (gS (v:=(.row none 1 (bN.map (eI .u8)))) (sv (kK rfl)))<|aQu (n:=7) (i:=10) (by decide +kernel) rfl (gS (v:=(.ptr 1 2)) (sv (lV rfl (aFc ..)))) ?_
   refine aQY (m:=1) (L:=lst [0,1,2,3,4,5,6,7,8,9,10,11,12,13] 15) (s1:=aE 77 [(0,(.row none 1 (bN.map (eI .u8)))),(2,(.ptr 0 0)),(5,(.ptr 1 0)),(70,(.row none 1 (x70.map (eI .u8))))]) (h1:=[some ⟨46,[(eI .i64 0),(.row (some true) 1 []),(eI .i64 0),(eI .i64 0)]⟩,some ⟨46,[(eI .i64 (aQs.wrap x8)),(.row (some true) 1 []),(eI .i64 (aQs.wrap x62)),(eI .i64 (aQs.wrap x66))]⟩]) ?_ (fun J=> ?_)
   ·refine aQu (n:=0) (i:=14) (by decide +kernel) rfl (gS (v:=(.row none 1 (x70.map (eI .u8)))) (sv (qG rfl)))<|aQW (by decide +kernel) ?_
    refine zz ?_
    exact hG2 _ _ _ _ (aQI (aQ0 (fr':=[(0,(.row none 1 (x70.map (eI .u8)))),(2,(.ptr 0 0)),(5,(.ptr 1 0))]) (h1:=[some ⟨46,[(eI .i64 0),(.row (some true) 1 []),(eI .i64 0),(eI .i64 0)]⟩,some ⟨46,[(eI .i64 (aQs.wrap x8)),(.sl 2 0 0 1 false),(eI .i64 (aQs.wrap x62)),(eI .i64 (aQs.wrap x66))]⟩]) 5 (FLe.same rfl (FLe.same rfl (FLe.same rfl FLe.nil))) (HLv.live (V.les_refl _ _) rfl (HLv.live (V.les_cons (V.le_refl _ _) (V.les_cons (V.le_virt rfl) (V.les_cons (V.le_refl _ _) (V.les_cons (V.le_refl _ _) V.les_nil)))) rfl HLv.nil))) (lI [0,1,2])) (J2 x70 (aQs.wrap x62) (aQs.wrap x66) [] hr)
   refine aQO (n:=6) [6,9,11] (by decide +kernel) (by decide) ?_
   refine(aQF rfl (gS (v:=(eI .u8 x66)) (sv (bO rfl (ldR h_18 (l5 dA rfl rfl))))) ?_ (aQF rfl (gS (v:=(.row none 1 (x70.map (eI .u8)))) (sv (b7 rfl rfl rfl (qW cI dA rfl rfl h_19)))) ?_ (aQF rfl (gN (h':=[some ⟨46,[(eI .i64 0),(.row (some true) 1 []),(eI .i64 0),(eI .i64 0)]⟩,some ⟨46,[(eI .i64 (aQs.wrap x8)),(.row (some true) 1 []),(eI .i64 (aQs.wrap x62)),(eI .i64 0)]⟩]) (sv (aY rfl rfl (fV cW rfl rfl rfl zl rfl)))) ?_ aQS)))
   ·refine aQO (n:=5) [7,9,11] (by decide +kernel) (by decide) ?_
    refine(aQF rfl (gS (v:=(eI .i64 (aQs.wrap x66))) (sv (f9 rfl (eZ _ ⟨_,dA⟩ cW rfl)))) ?_ (aQF rfl (gS (v:=(.row none 1 (x70.map (eI .u8)))) (sv (b7 rfl rfl rfl (qW cI dA rfl rfl h_19)))) ?_ (aQF rfl (gN (h':=[some ⟨46,[(eI .i64 0),(.row (some true) 1 []),(eI .i64 0),(eI .i64 0)]⟩,some ⟨46,[(eI .i64 (aQs.wrap x8)),(.row (some true) 1 []),(eI .i64 (aQs.wrap x62)),(eI .i64 0)]⟩]) (sv (aY rfl rfl (fV cW rfl rfl rfl zl rfl)))) ?_ aQS)))
    ·refine aQO (n:=4) [9,11] (by decide +kernel) (by decide) ?_
     refine(aQF rfl (gS (v:=(.row none 1 (x70.map (eI .u8)))) (sv (b7 rfl rfl rfl (qW cI dA rfl rfl h_19)))) ?_ (aQF rfl (gN (h':=[some ⟨46,[(eI .i64 0),(.row (some true) 1 []),(eI .i64 0),(eI .i64 0)]⟩,some ⟨46,[(eI .i64 (aQs.wrap x8)),(.row (some true) 1 []),(eI .i64 (aQs.wrap x62)),(eI .i64 0)]⟩]) (sv (aY rfl rfl (fV cW rfl rfl rfl zl rfl)))) ?_ aQS))
     ·refine aQu (n:=3) (i:=11) (by decide +kernel) rfl (gN (h':=[some ⟨46,[(eI .i64 0),(.row (some true) 1 []),(eI .i64 0),(eI .i64 0)]⟩,some ⟨46,[(eI .i64 (aQs.wrap x8)),(.row (some true) 1 []),(eI .i64 (aQs.wrap x62)),(eI .i64 0)]⟩]) (sv (aY rfl rfl (fV cW rfl rfl rfl zl rfl))))<|aQu (n:=2) (i:=12) (by decide +kernel) rfl (gS (v:=(.ptr 1 3)) (sv (lV rfl (gX ..))))<|aQu (n:=1) (i:=13) (by decide +kernel) rfl (gN (h':=[some ⟨46,[(eI .i64 0),(.row (some true) 1 []),(eI .i64 0),(eI .i64 0)]⟩,some ⟨46,[(eI .i64 (aQs.wrap x8)),(.row (some true) 1 []),(eI .i64 (aQs.wrap x62)),(eI .i64 (aQs.wrap x66))]⟩]) (sv (aY rfl rfl (fV cW rfl rfl rfl zl rfl)))) ?_
      exact aQL (by decide +kernel) (by decide +kernel) (zG [0,1]) J
     refine aQu (n:=3) (i:=12) (by decide +kernel) rfl (gS (v:=(.ptr 1 3)) (sv (lV rfl (gX ..))))<|aQO (n:=2) [9,13] (by decide +kernel) (by decide) ?_
     refine(aQF rfl (gS (v:=(.row none 1 (x70.map (eI .u8)))) (sv (b7 rfl rfl rfl (qW cI dA rfl rfl h_19)))) ?_ (aQF rfl (gN (h':=[some ⟨46,[(eI .i64 0),(.row (some true) 1 []),(eI .i64 0),(eI .i64 0)]⟩,some ⟨46,[(eI .i64 (aQs.wrap x8)),(.row (some true) 1 []),(eI .i64 (aQs.wrap x62)),(eI .i64 (aQs.wrap x66))]⟩]) (sv (aY rfl rfl (fV cW rfl rfl rfl zl rfl)))) ?_ aQS))
     ·refine aQu (n:=1) (i:=13) (by decide +kernel) rfl (gN (h':=[some ⟨46,[(eI .i64 0),(.row (some true) 1 []),(eI .i64 0),(eI .i64 0)]⟩,some ⟨46,[(eI .i64 (aQs.wrap x8)),(.row (some true) 1 []),(eI .i64 (aQs.wrap x62)),(eI .i64 (aQs.wrap x66))]⟩]) (sv (aY rfl rfl (fV cW rfl rfl rfl zl rfl)))) ?_
      exact aQL (by decide +kernel) (by decide +kernel) (zG [0,1]) J
     refine aQu (n:=1) (i:=9) (by decide +kernel) rfl (gS (v:=(.row none 1 (x70.map (eI .u8)))) (sv (b7 rfl rfl rfl (qW cI dA rfl rfl h_19)))) ?_
     exact aQL (by decide +kernel) (by decide +kernel) (zG [0,1]) J
    ·refine aQO (n:=4) [7,11] (by decide +kernel) (by decide) ?_
     refine(aQF rfl (gS (v:=(eI .i64 (aQs.wrap x66))) (sv (f9 rfl (eZ _ ⟨_,dA⟩ cW rfl)))) ?_ (aQF rfl (gN (h':=[some ⟨46,[(eI .i64 0),(.row (some true) 1 []),(eI .i64 0),(eI .i64 0)]⟩,some ⟨46,[(eI .i64 (aQs.wrap x8)),(.row (some true) 1 []),(eI .i64 (aQs.wrap x62)),(eI .i64 0)]⟩]) (sv (aY rfl rfl (fV cW rfl rfl rfl zl rfl)))) ?_ aQS))
     ·refine aQu (n:=3) (i:=11) (by decide +kernel) rfl (gN (h':=[some ⟨46,[(eI .i64 0),(.row (some true) 1 []),(eI .i64 0),(eI .i64 0)]⟩,some ⟨46,[(eI .i64 (aQs.wrap x8)),(.row (some true) 1 []),(eI .i64 (aQs.wrap x62)),(eI .i64 0)]⟩]) (sv (aY rfl rfl (fV cW rfl rfl rfl zl rfl))))<|aQu (n:=2) (i:=12) (by decide +kernel) rfl (gS (v:=(.ptr 1 3)) (sv (lV rfl (gX ..))))<|aQu (n:=1) (i:=13) (by decide +kernel) rfl (gN (h':=[some ⟨46,[(eI .i64 0),(.row (some true) 1 []),(eI .i64 0),(eI .i64 0)]⟩,some ⟨46,[(eI .i64 (aQs.wrap x8)),(.row (some true) 1 []),(eI .i64 (aQs.wrap x62)),(eI .i64 (aQs.wrap x66))]⟩]) (sv (aY rfl rfl (fV cW rfl rfl rfl zl rfl)))) ?_
      exact aQL (by decide +kernel) (by decide +kernel) (zG [0,1]) J
     refine aQu (n:=3) (i:=7) (by decide +kernel) rfl (gS (v:=(eI .i64 (aQs.wrap x66))) (sv (f9 rfl (eZ _ ⟨_,dA⟩ cW rfl))))<|aQu (n:=2) (i:=12) (by decide +kernel) rfl (gS (v:=(.ptr 1 3)) (sv (lV rfl (gX ..))))<|aQu (n:=1) (i:=13) (by decide +kernel) rfl (gN (h':=[some ⟨46,[(eI .i64 0),(.row (some true) 1 []),(eI .i64 0),(eI .i64 0)]⟩,some ⟨46,[(eI .i64 (aQs.wrap x8)),(.row (some true) 1 []),(eI .i64 (aQs.wrap x62)),(eI .i64 (aQs.wrap x66))]⟩]) (sv (aY rfl rfl (fV cW rfl rfl rfl zl rfl)))) ?_
     exact aQL (by decide +kernel) (by decide +kernel) (zG [0,1]) J
    refine aQu (n:=4) (i:=7) (by decide +kernel) rfl (gS (v:=(eI .i64 (aQs.wrap x66))) (sv (f9 rfl (eZ _ ⟨_,dA⟩ cW rfl))))<|aQu (n:=3) (i:=12) (by decide +kernel) rfl (gS (v:=(.ptr 1 3)) (sv (lV rfl (gX ..))))<|aQO (n:=2) [9,13] (by decide +kernel) (by decide) ?_
    refine(aQF rfl (gS (v:=(.row none 1 (x70.map (eI .u8)))) (sv (b7 rfl rfl rfl (qW cI dA rfl rfl h_19)))) ?_ (aQF rfl (gN (h':=[some ⟨46,[(eI .i64 0),(.row (some true) 1 []),(eI .i64 0),(eI .i64 0)]⟩,some ⟨46,[(eI .i64 (aQs.wrap x8)),(.row (some true) 1 []),(eI .i64 (aQs.wrap x62)),(eI .i64 (aQs.wrap x66))]⟩]) (sv (aY rfl rfl (fV cW rfl rfl rfl zl rfl)))) ?_ aQS))
    ·refine aQu (n:=1) (i:=13) (by decide +kernel) rfl (gN (h':=[some ⟨46,[(eI .i64 0),(.row (some true) 1 []),(eI .i64 0),(eI .i64 0)]⟩,some ⟨46,[(eI .i64 (aQs.wrap x8)),(.row (some true) 1 []),(eI .i64 (aQs.wrap x62)),(eI .i64 (aQs.wrap x66))]⟩]) (sv (aY rfl rfl (fV cW rfl rfl rfl zl rfl)))) ?_
     exact aQL (by decide +kernel) (by decide +kernel) (zG [0,1]) J
    refine aQu (n:=1) (i:=9) (by decide +kernel) rfl (gS (v:=(.row none 1 (x70.map (eI .u8)))) (sv (b7 rfl rfl rfl (qW cI dA rfl rfl h_19)))) ?_
    exact aQL (by decide +kernel) (by decide +kernel) (zG [0,1]) J
   ·refine aQO (n:=5) [6,11] (by decide +kernel) (by decide) ?_
    refine(aQF rfl (gS (v:=(eI .u8 x66)) (sv (bO rfl (ldR h_18 (l5 dA rfl rfl))))) ?_ (aQF rfl (gN (h':=[some ⟨46,[(eI .i64 0),(.row (some true) 1 []),(eI .i64 0),(eI .i64 0)]⟩,some ⟨46,[(eI .i64 (aQs.wrap x8)),(.row (some true) 1 []),(eI .i64 (aQs.wrap x62)),(eI .i64 0)]⟩]) (sv (aY rfl rfl (fV cW rfl rfl rfl zl rfl)))) ?_ aQS))
    ·refine aQO (n:=4) [7,11] (by decide +kernel) (by decide) ?_
     refine(aQF rfl (gS (v:=(eI .i64 (aQs.wrap x66))) (sv (f9 rfl (eZ _ ⟨_,dA⟩ cW rfl)))) ?_ (aQF rfl (gN (h':=[some ⟨46,[(eI .i64 0),(.row (some true) 1 []),(eI .i64 0),(eI .i64 0)]⟩,some ⟨46,[(eI .i64 (aQs.wrap x8)),(.row (some true) 1 []),(eI .i64 (aQs.wrap x62)),(eI .i64 0)]⟩]) (sv (aY rfl rfl (fV cW rfl rfl rfl zl rfl)))) ?_ aQS))
     ·refine aQu (n:=3) (i:=11) (by decide +kernel) rfl (gN (h':=[some ⟨46,[(eI .i64 0),(.row (some true) 1 []),(eI .i64 0),(eI .i64 0)]⟩,some ⟨46,[(eI .i64 (aQs.wrap x8)),(.row (some true) 1 []),(eI .i64 (aQs.wrap x62)),(eI .i64 0)]⟩]) (sv (aY rfl rfl (fV cW rfl rfl rfl zl rfl))))<|aQu (n:=2) (i:=12) (by decide +kernel) rfl (gS (v:=(.ptr 1 3)) (sv (lV rfl (gX ..))))<|aQu (n:=1) (i:=13) (by decide +kernel) rfl (gN (h':=[some ⟨46,[(eI .i64 0),(.row (some true) 1 []),(eI .i64 0),(eI .i64 0)]⟩,some ⟨46,[(eI .i64 (aQs.wrap x8)),(.row (some true) 1 []),(eI .i64 (aQs.wrap x62)),(eI .i64 (aQs.wrap x66))]⟩]) (sv (aY rfl rfl (fV cW rfl rfl rfl zl rfl)))) ?_
      exact aQL (by decide +kernel) (by decide +kernel) (zG [0,1]) J
     refine aQu (n:=3) (i:=7) (by decide +kernel) rfl (gS (v:=(eI .i64 (aQs.wrap x66))) (sv (f9 rfl (eZ _ ⟨_,dA⟩ cW rfl))))<|aQu (n:=2) (i:=12) (by decide +kernel) rfl (gS (v:=(.ptr 1 3)) (sv (lV rfl (gX ..))))<|aQu (n:=1) (i:=13) (by decide +kernel) rfl (gN (h':=[some ⟨46,[(eI .i64 0),(.row (some true) 1 []),(eI .i64 0),(eI .i64 0)]⟩,some ⟨46,[(eI .i64 (aQs.wrap x8)),(.row (some true) 1 []),(eI .i64 (aQs.wrap x62)),(eI .i64 (aQs.wrap x66))]⟩]) (sv (aY rfl rfl (fV cW rfl rfl rfl zl rfl)))) ?_
     exact aQL (by decide +kernel) (by decide +kernel) (zG [0,1]) J
    refine aQu (n:=4) (i:=6) (by decide +kernel) rfl (gS (v:=(eI .u8 x66)) (sv (bO rfl (ldR h_18 (l5 dA rfl rfl)))))<|aQu (n:=3) (i:=7) (by decide +kernel) rfl (gS (v:=(eI .i64 (aQs.wrap x66))) (sv (f9 rfl (eZ _ ⟨_,dA⟩ cW rfl))))<|aQu (n:=2) (i:=12) (by decide +kernel) rfl (gS (v:=(.ptr 1 3)) (sv (lV rfl (gX ..))))<|aQu (n:=1) (i:=13) (by decide +kernel) rfl (gN (h':=[some ⟨46,[(eI .i64 0),(.row (some true) 1 []),(eI .i64 0),(eI .i64 0)]⟩,some ⟨46,[(eI .i64 (aQs.wrap x8)),(.row (some true) 1 []),(eI .i64 (aQs.wrap x62)),(eI .i64 (aQs.wrap x66))]⟩]) (sv (aY rfl rfl (fV cW rfl rfl rfl zl rfl)))) ?_
    exact aQL (by decide +kernel) (by decide +kernel) (zG [0,1]) J
   refine aQu (n:=5) (i:=6) (by decide +kernel) rfl (gS (v:=(eI .u8 x66)) (sv (bO rfl (ldR h_18 (l5 dA rfl rfl)))))<|aQu (n:=4) (i:=7) (by decide +kernel) rfl (gS (v:=(eI .i64 (aQs.wrap x66))) (sv (f9 rfl (eZ _ ⟨_,dA⟩ cW rfl))))<|aQu (n:=3) (i:=12) (by decide +kernel) rfl (gS (v:=(.ptr 1 3)) (sv (lV rfl (gX ..))))<|aQO (n:=2) [9,13] (by decide +kernel) (by decide) ?_
   refine(aQF rfl (gS (v:=(.row none 1 (x70.map (eI .u8)))) (sv (b7 rfl rfl rfl (qW cI dA rfl rfl h_19)))) ?_ (aQF rfl (gN (h':=[some ⟨46,[(eI .i64 0),(.row (some true) 1 []),(eI .i64 0),(eI .i64 0)]⟩,some ⟨46,[(eI .i64 (aQs.wrap x8)),(.row (some true) 1 []),(eI .i64 (aQs.wrap x62)),(eI .i64 (aQs.wrap x66))]⟩]) (sv (aY rfl rfl (fV cW rfl rfl rfl zl rfl)))) ?_ aQS))
   ·refine aQu (n:=1) (i:=13) (by decide +kernel) rfl (gN (h':=[some ⟨46,[(eI .i64 0),(.row (some true) 1 []),(eI .i64 0),(eI .i64 0)]⟩,some ⟨46,[(eI .i64 (aQs.wrap x8)),(.row (some true) 1 []),(eI .i64 (aQs.wrap x62)),(eI .i64 (aQs.wrap x66))]⟩]) (sv (aY rfl rfl (fV cW rfl rfl rfl zl rfl)))) ?_
    exact aQL (by decide +kernel) (by decide +kernel) (zG [0,1]) J
   refine aQu (n:=1) (i:=9) (by decide +kernel) rfl (gS (v:=(.row none 1 (x70.map (eI .u8)))) (sv (b7 rfl rfl rfl (qW cI dA rfl rfl h_19)))) ?_
   exact aQL (by decide +kernel) (by decide +kernel) (zG [0,1]) J
  refine zz ?_
  exact hG2 _ _ _ _ (aQI (aQ0 (fr':=[(0,(.row none 1 (bN.map (eI .u8)))),(2,(.ptr 0 0)),(5,(.ptr 1 0))]) (h1:=[some ⟨46,[(eI .i64 0),(.row (some true) 1 []),(eI .i64 0),(eI .i64 0)]⟩,some ⟨46,[(eI .i64 (aQs.wrap x8)),(.sl 2 0 0 1 false),(eI .i64 0),(eI .i64 0)]⟩]) 5 (FLe.same rfl (FLe.same rfl (FLe.same rfl FLe.nil))) (HLv.live (V.les_refl _ _) rfl (HLv.live (V.les_cons (V.le_refl _ _) (V.les_cons (V.le_virt rfl) (V.les_cons (V.le_refl _ _) (V.les_cons (V.le_refl _ _) V.les_nil)))) rfl HLv.nil))) (lI [0,1,2])) (J2 bN 0 0 [] hr)
 rcases aQt (decide ((aQs.wrap x8)<1))with h20|h20
 ·replace hr:=cU hr h20
  refine xr ?_
  refine zz ?_
  exact hG1 _ _ _ _ (zG [0,1]) (J1 true hr)
 replace hr:=cQ hr h20
 refine xr ?_
 refine zz ?_
 exact hG1 _ _ _ _ (zG [0,1]) (J1 (decide (17<(aQs.wrap x8))) hr)
theorem aFE {N:Nat}{b:List Int}{r:(List aK)×Int}(hr:uJ N b=some r):
  Vm.Fn Tryz.prog 23 [] [(.row none 1 (b.map (eI .u8)))] (.tup [(.sl 0 0 r.1.length 4 true),(eI .i64 r.2)]) [some ⟨46,r.1.flatMap bT⟩]:=by
 refine zf Tryz.func23 Tryz.ntmps23 ?_
 unfold uJ at hr
 refine zz ?_
 refine aQv ?_
 refine zz ?_
 refine zk hr rfl (fun h1 hr=> ?_) (fun h1 hr=> ?_)
 ·refine zz ?_
  obtain rfl:=sj hr
  exact mZ Tryz.results23 aW aW (zW 46 [0])
 refine zz ?_
 refine aQz fun K1 hK1 hG1=> ?_
 have J1: ∀(l0:List aK),xB N l0=some r→K1 (aE 29 [(4,(.sl 0 0 l0.length 4 true))]) [some ⟨46,l0.flatMap bT⟩]:=by
  intro l0 hr
  unfold xB at hr
  refine hK1 _ _ ?_
  refine zz ?_
  obtain rfl:=sj hr
  exact u6 Tryz.results23 [0]
 obtain⟨a9,hL2,hr⟩:=aA hr
 refine aQw<|aQG (fun m s h=> ∃(b_1:List Int)(aL:List aK),kM N m b_1 aL=some a9∧Ghost 0 s h (aE 29 [(0,(.row none 1 (b_1.map (eI .u8)))),(4,(.sl 0 0 aL.length 4 true))]) [some ⟨46,aL.flatMap bT⟩]) (n:=N) ⟨b,[],hL2,(zW 46 [0])⟩ (by rintro s h ⟨_,_,h0,_⟩;simp[kM]at h0) ?_
 rintro m2 s h ⟨b_1,aL,hr2,hg⟩
 refine aQD hg ?_
 clear hg hL2
 rw[kM]at hr2
 refine aQv ?_
 refine zz ?_
 refine zk hr2 rfl (fun h2 hr2=> ?_) (fun h2 hr2=> ?_)
 ·refine zz ?_
  refine aQw ?_
  obtain⟨x16,h_3,hr2⟩:=aA hr2
  refine zz ?_
  refine zc (aGK h_3) [] ?_
  refine zz ?_
  refine aQv ?_
  refine zz ?_
  refine zk hr2 rfl (fun h4 hr2=> ?_) (fun h4 hr2=> ?_)
  ·refine zz ?_
   obtain rfl:=sj hr2
   obtain rfl:=sj hr
   exact mZ Tryz.results23 aW aW (zW 46 [3])
  obtain⟨x26,h_5,hr2⟩:=aA hr2
  refine zz ?_
  refine aQQ (aQP (fr':=[(0,(.row none 1 (b_1.map (eI .u8)))),(4,(.sl 0 0 aL.length 4 true)),(5,(.ptr 2 0)),(6,(.row none 1 (x16.2.2.2.2.1.map (eI .u8)))),(7,(eI .i64 x16.2.2.2.2.2)),(11,(.row none 1 (b_1.map (eI .u8)))),(12,(eI .i64 (b_1.length:Int))),(13,(eB (decide (0<(b_1.length:Int))))),(14,(.tup [(.agg [(eI .i64 x16.1),(.row none 1 (x16.2.1.map (eI .u8))),(eI .i64 x16.2.2.1),(eI .i64 x16.2.2.2.1)]),(.row none 1 (x16.2.2.2.2.1.map (eI .u8))),(eI .i64 x16.2.2.2.2.2)])),(15,(.row none 1 (b_1.map (eI .u8)))),(16,(.tup [(.agg [(eI .i64 x16.1),(.row none 1 (x16.2.1.map (eI .u8))),(eI .i64 x16.2.2.1),(eI .i64 x16.2.2.2.1)]),(.row none 1 (x16.2.2.2.2.1.map (eI .u8))),(eI .i64 x16.2.2.2.2.2)])),(17,(.agg [(eI .i64 x16.1),(.row none 1 (x16.2.1.map (eI .u8))),(eI .i64 x16.2.2.1),(eI .i64 x16.2.2.2.1)])),(18,(.row none 1 (x16.2.2.2.2.1.map (eI .u8)))),(19,(eI .i64 x16.2.2.2.2.2)),(20,(eI .i64 x16.2.2.2.2.2)),(21,(eB (x16.2.2.2.2.2 != 0))),(23,(.sl 0 0 aL.length 4 true)),(24,(.agg [(eI .i64 x16.1),(.row none 1 (x16.2.1.map (eI .u8))),(eI .i64 x16.2.2.1),(eI .i64 x16.2.2.2.1)]))]) (h':=[some ⟨46,aL.flatMap bT⟩,none,some ⟨46,[(eI .i64 x16.1),(.row none 1 (x16.2.1.map (eI .u8))),(eI .i64 x16.2.2.1),(eI .i64 x16.2.2.2.1)]⟩]) (aQB rfl (aQy (aH rfl)) (aQB rfl (aQy (aH rfl)) (aQB rfl (aQy (aH rfl)) (aQB rfl (aQy (aH rfl)) (aQB rfl (aQy (aH rfl)) (aQB rfl (aQy (aH rfl)) (aQB rfl (aQy (aH rfl)) (aQB rfl (aQy (aH rfl)) (aQB rfl (aQT (aQx (aQ1 (aQx (aQy (aH rfl)) (aQx (aQN (aH rfl) rfl rfl (dB (fun _=>rfl)) (by first|rfl|(simp only[aQA,bE,bF];done))) (aQx (aQy (aH rfl)) (aQx (aQy (aH rfl)) aQK))))) (aQx (aQy (aH rfl)) (aQx (aQy (aH rfl)) aQK)))) (aQB rfl (aQy (aH rfl)) (aQB rfl (aQT (aQx (aQ1 (aQx (aQy (aH rfl)) (aQx (aQN (aH rfl) rfl rfl (dB (fun _=>rfl)) (by first|rfl|(simp only[aQA,bE,bF];done))) (aQx (aQy (aH rfl)) (aQx (aQy (aH rfl)) aQK))))) (aQx (aQy (aH rfl)) (aQx (aQy (aH rfl)) aQK)))) (aQB rfl (aQ1 (aQx (aQy (aH rfl)) (aQx (aQN (aH rfl) rfl rfl (dB (fun _=>rfl)) (by first|rfl|(simp only[aQA,bE,bF];done))) (aQx (aQy (aH rfl)) (aQx (aQy (aH rfl)) aQK))))) (aQB rfl (aQy (aH rfl)) (aQB rfl (aQy (aH rfl)) (aQB rfl (aQy (aH rfl)) (aQB rfl (aQy (aH rfl)) (aQB rfl (aQy (aH rfl)) (aQB rfl (aQ1 (aQx (aQy (aH rfl)) (aQx (aQN (aH rfl) rfl rfl (dB (fun _=>rfl)) (by first|rfl|(simp only[aQA,bE,bF];done))) (aQx (aQy (aH rfl)) (aQx (aQy (aH rfl)) aQK))))) aQU)))))))))))))))))) (aQH (aQC (aH rfl)) (mU (fun _=>rfl) _) (aQR (aQH (aQx (aQy (aH rfl)) (aQx (aQN (aH rfl) rfl rfl (dB (fun _=>rfl)) (by first|rfl|(simp only[aQA,bE,bF];done))) (aQx (aQy (aH rfl)) (aQx (aQy (aH rfl)) aQK)))) rfl aQV)))) ?_
  refine xw (v:=(.sl 3 0 1 4 true)) (h':=[some ⟨46,aL.flatMap bT⟩,none,some ⟨46,[(eI .i64 x16.1),(.row none 1 (x16.2.1.map (eI .u8))),(eI .i64 x16.2.2.1),(eI .i64 x16.2.2.2.1)]⟩,some ⟨46,[(aK.mk x16.1 x16.2.1 x16.2.2.1 x16.2.2.2.1)].flatMap bT⟩]) (qM rfl (aCU (C:=bT) (xs:=[(aK.mk x16.1 x16.2.1 x16.2.2.1 x16.2.2.2.1)]) (K:=4) (fun _=>rfl) (fun _=>rfl) aLm xE ⟨zl,zl,zl⟩ rfl rfl rfl rfl rfl rfl)) ?_
  refine zz ?_
  exact⟨x16.2.2.2.2.1,x26,hr2,(zG [4])⟩
 refine zz ?_
 obtain rfl:=sj hr2
 refine zz ?_
 exact hG1 _ _ _ _ (zG [0]) (J1 aL hr)
theorem aD4 {N:Nat}{l:List aK}{r:Bool}(hr:sF N l=some r):
  Vm.Fn Tryz.prog 24 [] [(.row none 4 (l.map eQ))] (eB r) []:=by
 refine zf Tryz.func24 Tryz.ntmps24 ?_
 unfold sF at hr
 refine zz ?_
 refine aQz fun K1 hK1 hG1=> ?_
 have J1: ∀(l0:List Bool),v4 N l0=some r→K1 (aE 51 [(3,(.sl 0 0 l0.length 1 false))]) [some ⟨4,l0.map eB⟩]:=by
  intro l0 hr
  unfold v4 at hr
  refine hK1 _ _ ?_
  refine zz ?_
  obtain rfl:=sj hr
  exact bK Tryz.results24 []
 obtain⟨a9,hL2,hr⟩:=aA hr
 refine zz ?_
 refine aQw<|aQG (fun m s h=> ∃(x8:Int)(aL:List Bool),dE N l m x8 aL=some a9∧Ghost 0 s h (aE 51 [(3,(.sl 0 0 aL.length 1 false)),(6,(.row none 4 (l.map eQ))),(7,(eI .i64 (l.length:Int))),(8,(eI .i64 x8))]) [some ⟨4,aL.map eB⟩]) (n:=N) ⟨0,[],hL2,(zW 4 [0])⟩ (by rintro s h ⟨_,_,h0,_⟩;simp[dE]at h0) ?_
 rintro m2 s h ⟨x8,aL,hr2,hg⟩
 refine aQD hg ?_
 clear hg hL2
 rw[dE]at hr2
 refine zz ?_
 refine aQv ?_
 refine zk hr2 rfl (fun h1 hr2=> ?_) (fun h1 hr2=> ?_)
 ·refine zz ?_
  refine aQz fun K3 hK3 hG3=> ?_
  have J3: ∀(iZ:List Bool),jN N l x8 (dE N l m2) iZ=some a9→K3 (aE 51 [(3,(.sl 0 0 iZ.length 1 false)),(6,(.row none 4 (l.map eQ))),(7,(eI .i64 (l.length:Int))),(8,(eI .i64 x8))]) [some ⟨4,iZ.map eB⟩]:=by
   intro iZ hr2
   unfold jN at hr2
   refine hK3 _ _ ?_
   refine zz ?_
   exact⟨aQs.wrap (x8+1),iZ,hr2,(zG [0])⟩
  refine aQw ?_
  obtain⟨cC,h_2,hr2⟩:=aA hr2
  refine zz ?_
  refine aQw ?_
  refine zz ?_
  refine zk hr2 rfl (fun h3 hr2=> ?_) (fun h3 hr2=> ?_)
  ·obtain⟨x18,h_4,hr2⟩:=aA hr2
   refine zz ?_
   exact hG3 _ _ _ _ (zG [3]) (J3 x18 hr2)
  refine zz ?_
  refine zk hr2 rfl (fun h5 hr2=> ?_) (fun h5 hr2=> ?_)
  ·refine aQv ?_
   refine aQz fun K4 hK4 hG4=> ?_
   have J4: ∀(dD:Bool),oI N l x8 aL (dE N l m2) dD=some a9→K4 (aE 51 [(3,(.sl 0 0 aL.length 1 false)),(6,(.row none 4 (l.map eQ))),(7,(eI .i64 (l.length:Int))),(8,(eI .i64 x8)),(31,(eB dD))]) [some ⟨4,aL.map eB⟩]:=by
    intro dD hr2
    unfold oI at hr2
    refine hK4 _ _ ?_
    refine zk hr2 rfl (fun h6 hr2=> ?_) (fun h6 hr2=> ?_)
    ·refine zz ?_
     obtain rfl:=sj hr2
     obtain rfl:=sj hr
     exact bK Tryz.results24 []
    obtain⟨x36,h_7,hr2⟩:=aA hr2
    refine zz ?_
    exact hG3 _ _ _ _ (lI [0]) (J3 (aL.set (aQJ (aQs.wrap ((aL.length:Int)-1))) true) hr2)
   rcases aQt ((aL.length:Int) == 0)with h8|h8
   ·replace hr2:=cU hr2 h8
    refine xr ?_
    refine zz ?_
    exact hG4 _ _ _ _ (zG [0]) (J4 true hr2)
   replace hr2:=cQ hr2 h8
   obtain⟨x29,h_9,hr2⟩:=aA hr2
   refine xr ?_
   refine zz ?_
   exact hG4 _ _ _ _ (zG [0]) (J4 x29 hr2)
  refine zz ?_
  refine zk hr2 rfl (fun h10 hr2=> ?_) (fun h10 hr2=> ?_)
  ·refine aQv ?_
   refine zz ?_
   refine zk hr2 rfl (fun h11 hr2=> ?_) (fun h11 hr2=> ?_)
   ·refine zz ?_
    obtain rfl:=sj hr2
    obtain rfl:=sj hr
    exact bK Tryz.results24 []
   obtain⟨x46,h_12,hr2⟩:=aA hr2
   refine zz ?_
   refine xw (v:=(.sl 0 0 x46.length 1 false)) (b7 rfl rfl rfl (aEC (l:=aL) rfl aLA yP rfl rfl rfl h_12)) ?_
   refine aQQ (Ghost.cutM (t:=46) (E:=eB) (l:=aL) (h':=[some ⟨4,x46.map eB⟩,some ⟨46,[(eI .i64 cC.Code),(.row none 1 (cC.Data.map (eI .u8))),(eI .i64 cC.M),(eI .i64 cC.N)]⟩]) rfl rfl h_12 rfl) ?_
   refine zz ?_
   exact hG3 _ _ _ _ (zG [0]) (J3 x46 hr2)
  refine zz ?_
  exact hG3 _ _ _ _ (zG [0]) (J3 aL hr2)
 refine zz ?_
 obtain rfl:=sj hr2
 refine zz ?_
 exact hG1 _ _ _ _ (zG [0]) (J1 aL hr)
theorem aGz {N:Nat}{vs:List (List Int)}{r:Bool}(hr:vV N vs=some r):
  Vm.Fn Tryz.prog 25 [] [(.row none 1 (vs.map (eL 1 (eI .u8))))] (eB r) []:=by
 refine zf Tryz.func25 Tryz.ntmps25 ?_
 unfold vV at hr
 refine zz ?_
 refine aQv ?_
 refine zz ?_
 refine zk hr rfl (fun h1 hr=> ?_) (fun h1 hr=> ?_)
 ·refine zz ?_
  obtain rfl:=sj hr
  exact bK Tryz.results25 []
 refine zz ?_
 refine aQz fun K1 hK1 hG1=> ?_
 have J1:yW N=some r→K1 (aE 18 []) []:=by
  intro hr
  unfold yW at hr
  refine hK1 _ _ ?_
  refine zz ?_
  obtain rfl:=sj hr
  exact bK Tryz.results25 []
 obtain⟨a9,hL2,hr⟩:=aA hr
 refine zz ?_
 refine aQw<|aQG (fun m s h=> ∃(cC:Int),kA N vs m cC=some a9∧Ghost 0 s h (aE 18 [(8,(.row none 1 (vs.map (eL 1 (eI .u8))))),(9,(eI .i64 (vs.length:Int))),(10,(eI .i64 cC))]) []) (n:=N) ⟨0,hL2,(zG [])⟩ (by rintro s h ⟨_,h0,_⟩;simp[kA]at h0) ?_
 rintro m2 s h ⟨cC,hr2,hg⟩
 refine aQD hg ?_
 clear hg hL2
 rw[kA]at hr2
 refine zz ?_
 refine aQv ?_
 refine zk hr2 rfl (fun h2 hr2=> ?_) (fun h2 hr2=> ?_)
 ·refine zz ?_
  refine aQv<|aQw ?_
  obtain⟨dL,h_3,hr2⟩:=aA hr2
  refine zz ?_
  refine zk hr2 rfl (fun h4 hr2=> ?_) (fun h4 hr2=> ?_)
  ·refine zz ?_
   obtain rfl:=sj hr2
   obtain rfl:=sj hr
   exact bK Tryz.results25 []
  refine zz ?_
  exact⟨aQs.wrap (cC+1),hr2,(zG [])⟩
 refine zz ?_
 obtain rfl:=sj hr2
 refine zz ?_
 exact hG1 _ _ _ _ (zG []) (J1 hr)
theorem aEe {N:Nat}{l:List (List Int)}{r:(List (List Int))}(hr:rL N l=some r):
  Vm.Fn Tryz.prog 26 [] [(.row none 1 (l.map (eL 1 (eI .u8))))] (.sl 0 0 r.length 1 false) [some ⟨31,r.map (eL 1 (eI .u8))⟩]:=by
 refine zf Tryz.func26 Tryz.ntmps26 ?_
 unfold rL at hr
 obtain⟨x8,h_1,hr⟩:=aA hr
 refine zz ?_
 refine xw (v:=(.sl 0 0 0 1 false)) (h':=[some ⟨31,x8.map (eL 1 (eI .u8))⟩]) (aLM rfl rfl (mkC (E:=(eL 1 (eI .u8))) (y:=([]:List Int)) zE cI ⟨zl,rfl,rfl⟩ rfl rfl rfl h_1 rfl rfl)) ?_
 refine zz ?_
 refine aQz fun K1 hK1 hG1=> ?_
 have J1: ∀(l0:List (List Int)),wB N l0=some r→K1 (aE 23 [(3,(.sl 0 0 l0.length 1 false))]) [some ⟨31,l0.map (eL 1 (eI .u8))⟩]:=by
  intro l0 hr
  unfold wB at hr
  refine hK1 _ _ ?_
  refine zz ?_
  obtain rfl:=sj hr
  exact bK Tryz.results26 [0]
 refine zz ?_
 refine aQD (Ghost.cutM (t:=3) (E:=(eL 1 (eI .u8))) (l:=x8) (x:=[]) (h':=[some ⟨31,[].map (eL 1 (eI .u8))⟩]) rfl rfl aOD rfl) ?_
 obtain⟨a9,hL2,hr⟩:=aA hr
 refine aQw<|aQG (fun m s h=> ∃(bX:Int)(aL:List (List Int)),iK N l m bX aL=some a9∧Ghost 0 s h (aE 23 [(3,(.sl 0 0 aL.length 1 false)),(9,(.row none 1 (l.map (eL 1 (eI .u8))))),(10,(eI .i64 (l.length:Int))),(11,(eI .i64 bX))]) [some ⟨31,aL.map (eL 1 (eI .u8))⟩]) (n:=N) ⟨0,[],hL2,(lI [0])⟩ (by rintro s h ⟨_,_,h0,_⟩;simp[iK]at h0) ?_
 rintro m2 s h ⟨bX,aL,hr2,hg⟩
 refine aQD hg ?_
 clear hg hL2
 rw[iK]at hr2
 refine zz ?_
 refine aQv ?_
 refine zk hr2 rfl (fun h2 hr2=> ?_) (fun h2 hr2=> ?_)
 ·refine zz ?_
  refine aQv<|aQw ?_
  obtain⟨cB,h_3,hr2⟩:=aA hr2
  obtain⟨x18,h_4,hr2⟩:=aA hr2
  obtain⟨bI,h_5,hr2⟩:=aA hr2
  refine zz ?_
  refine zcL (qV h_4) [] [1] ?_
  refine aQQ (zv 2) ?_
  refine zz ?_
  exact⟨aQs.wrap (bX+1),bI,hr2,(zG [4])⟩
 refine zz ?_
 obtain rfl:=sj hr2
 refine zz ?_
 exact hG1 _ _ _ _ (zG [0]) (J1 aL hr)
theorem aEF {N:Nat}{l:List aR}{r:Bool}(hr:sI N l=some r):
  Vm.Fn Tryz.prog 27 [] [(.row none 2 (l.map aAg))] (eB r) []:=by
 refine zf Tryz.func27 Tryz.ntmps27 ?_
 unfold sI at hr
 refine zz ?_
 refine aQz fun K1 hK1 hG1=> ?_
 have J1: ∀(x2:Bool),lL N x2=some r→K1 (aE 24 [(2,(eB x2))]) []:=by
  intro x2 hr
  unfold lL at hr
  refine hK1 _ _ ?_
  refine zz ?_
  obtain rfl:=sj hr
  exact bK Tryz.results27 []
 rcases aQt ((l.length:Int) == 0)with h1|h1
 ·replace hr:=cU hr h1
  refine xr ?_
  refine zz ?_
  exact hG1 _ _ _ _ (zG []) (J1 true hr)
 replace hr:=cQ hr h1
 obtain⟨bX,h_2,hr⟩:=aA hr
 rcases aQt bX.reached with h3|h3
 ·replace hr:=cU hr h3
  refine xr ?_
  refine zz ?_
  exact hG1 _ _ _ _ (zG []) (J1 bX.done hr)
 replace hr:=cQ hr h3
 refine xr ?_
 refine zz ?_
 exact hG1 _ _ _ _ (zG []) (J1 false hr)
theorem aFu {N:Nat}{aJ:Int}{aX:List Int}{o_M o_N r:Int}(hr:xZ N aJ aX o_M o_N=some r):
  Vm.Fn Tryz.prog 28 [] [(.agg [(eI .i64 aJ),(.row none 1 (aX.map (eI .u8))),(eI .i64 o_M),(eI .i64 o_N)])] (eI .i64 r) []:=by
 refine zf Tryz.func28 Tryz.ntmps28 ?_
 unfold xZ at hr
 refine zz ?_
 refine aQv ?_
 refine zz ?_
 refine aQw ?_
 refine zz ?_
 refine zk hr rfl (fun h1 hr=> ?_) (fun h1 hr=> ?_)
 ·refine zz ?_
  obtain rfl:=sj hr
  exact bK Tryz.results28 []
 refine zz ?_
 refine zk hr rfl (fun h2 hr=> ?_) (fun h2 hr=> ?_)
 ·refine zz ?_
  obtain rfl:=sj hr
  exact bK Tryz.results28 []
 refine zz ?_
 refine zk hr rfl (fun h3 hr=> ?_) (fun h3 hr=> ?_)
 ·refine zz ?_
  obtain rfl:=sj hr
  exact bK Tryz.results28 []
 refine zz ?_
 obtain rfl:=sj hr
 exact bK Tryz.results28 []
theorem aFA {N:Nat}{aJ:Int}{aX:List Int}{o_M o_N r:Int}(hr:t7 N aJ aX o_M o_N=some r):
  Vm.Fn Tryz.prog 29 [] [(.agg [(eI .i64 aJ),(.row none 1 (aX.map (eI .u8))),(eI .i64 o_M),(eI .i64 o_N)])] (eI .i64 r) []:=by
 refine zf Tryz.func29 Tryz.ntmps29 ?_
 unfold t7 at hr
 refine zz ?_
 refine aQv ?_
 refine zz ?_
 refine aQw ?_
 refine aQz fun K1 hK1 hG1=> ?_
 have J1: ∀(x5:Bool),d8 N aJ aX o_M o_N x5=some r→K1 (aE 24 [(1,(.ptr 0 0)),(4,(eI .i64 aJ)),(5,(eB x5))]) [some ⟨46,[(eI .i64 aJ),(.row none 1 (aX.map (eI .u8))),(eI .i64 o_M),(eI .i64 o_N)]⟩]:=by
  intro x5 hr
  unfold d8 at hr
  refine hK1 _ _ ?_
  refine zk hr rfl (fun h1 hr=> ?_) (fun h1 hr=> ?_)
  ·refine zz ?_
   obtain rfl:=sj hr
   exact bK Tryz.results29 []
  refine aQz fun K2 hK2 hG2=> ?_
  have J2: ∀(x15:Bool),mD N aJ aX o_M o_N x15=some r→K2 (aE 24 [(1,(.ptr 0 0)),(4,(eI .i64 aJ)),(15,(eB x15))]) [some ⟨46,[(eI .i64 aJ),(.row none 1 (aX.map (eI .u8))),(eI .i64 o_M),(eI .i64 o_N)]⟩]:=by
   intro x15 hr
   unfold mD at hr
   refine hK2 _ _ ?_
   refine zk hr rfl (fun h2 hr=> ?_) (fun h2 hr=> ?_)
   ·refine zz ?_
    obtain rfl:=sj hr
    exact bK Tryz.results29 []
   refine zz ?_
   refine zk hr rfl (fun h3 hr=> ?_) (fun h3 hr=> ?_)
   ·refine zz ?_
    obtain rfl:=sj hr
    exact bK Tryz.results29 []
   refine zz ?_
   obtain rfl:=sj hr
   exact bK Tryz.results29 []
  refine zz ?_
  refine zk hr rfl (fun h4 hr=> ?_) (fun h4 hr=> ?_)
  ·refine zz ?_
   exact hG2 _ _ _ _ (zG [0]) (J2 (aJ == 4) hr)
  refine zz ?_
  refine zk hr rfl (fun h5 hr=> ?_) (fun h5 hr=> ?_)
  ·refine zz ?_
   exact hG2 _ _ _ _ (zG [0]) (J2 (aJ == 5) hr)
  refine zz ?_
  exact hG2 _ _ _ _ (zG [0]) (J2 (aJ == 10) hr)
 refine zz ?_
 refine zk hr rfl (fun h6 hr=> ?_) (fun h6 hr=> ?_)
 ·refine zz ?_
  exact hG1 _ _ _ _ (zG [0]) (J1 (aJ == 2) hr)
 refine zz ?_
 refine zk hr rfl (fun h7 hr=> ?_) (fun h7 hr=> ?_)
 ·refine zz ?_
  exact hG1 _ _ _ _ (zG [0]) (J1 (aJ == 3) hr)
 refine zz ?_
 refine zk hr rfl (fun h8 hr=> ?_) (fun h8 hr=> ?_)
 ·refine zz ?_
  exact hG1 _ _ _ _ (zG [0]) (J1 (aJ == 6) hr)
 refine zz ?_
 refine zk hr rfl (fun h9 hr=> ?_) (fun h9 hr=> ?_)
 ·refine zz ?_
  exact hG1 _ _ _ _ (zG [0]) (J1 (aJ == 7) hr)
 refine zz ?_
 refine zk hr rfl (fun h10 hr=> ?_) (fun h10 hr=> ?_)
 ·refine zz ?_
  exact hG1 _ _ _ _ (zG [0]) (J1 (aJ == 8) hr)
 refine zz ?_
 refine zk hr rfl (fun h11 hr=> ?_) (fun h11 hr=> ?_)
 ·refine zz ?_
  exact hG1 _ _ _ _ (zG [0]) (J1 (aJ == 9) hr)
 refine zz ?_
 refine zk hr rfl (fun h12 hr=> ?_) (fun h12 hr=> ?_)
 ·refine zz ?_
  exact hG1 _ _ _ _ (zG [0]) (J1 (aJ == 12) hr)
 refine zz ?_
 refine zk hr rfl (fun h13 hr=> ?_) (fun h13 hr=> ?_)
 ·refine zz ?_
  exact hG1 _ _ _ _ (zG [0]) (J1 (aJ == 13) hr)
 refine zz ?_
 exact hG1 _ _ _ _ (zG [0]) (J1 (aJ == 14) hr)
theorem y8 {N:Nat}{b:List Int}{r:Bool}(hr:nY N b=some r):
  Vm.Fn Tryz.prog 30 [] [(.row none 1 (b.map (eI .u8)))] (eB r) []:=by
 refine zf Tryz.func30 Tryz.ntmps30 ?_
 unfold nY at hr
 refine zz ?_
 refine aQz fun K1 hK1 hG1=> ?_
 have J1:yY N=some r→K1 (aE 14 []) []:=by
  intro hr
  unfold yY at hr
  refine hK1 _ _ ?_
  refine zz ?_
  obtain rfl:=sj hr
  exact bK Tryz.results30 []
 obtain⟨a9,hL2,hr⟩:=aA hr
 refine zz ?_
 refine aQw<|aQG (fun m s h=> ∃(x7:Int),lP N b m x7=some a9∧Ghost 0 s h (aE 14 [(5,(.row none 1 (b.map (eI .u8)))),(6,(eI .i64 (b.length:Int))),(7,(eI .i64 x7))]) []) (n:=N) ⟨0,hL2,(zG [])⟩ (by rintro s h ⟨_,h0,_⟩;simp[lP]at h0) ?_
 rintro m2 s h ⟨x7,hr2,hg⟩
 refine aQD hg ?_
 clear hg hL2
 rw[lP]at hr2
 refine zz ?_
 refine aQv ?_
 refine zk hr2 rfl (fun h1 hr2=> ?_) (fun h1 hr2=> ?_)
 ·refine zz ?_
  refine aQv<|aQw ?_
  obtain⟨x9,h_2,hr2⟩:=aA hr2
  refine zz ?_
  refine zk hr2 rfl (fun h3 hr2=> ?_) (fun h3 hr2=> ?_)
  ·refine zz ?_
   obtain rfl:=sj hr2
   obtain rfl:=sj hr
   exact bK Tryz.results30 []
  refine zz ?_
  exact⟨aQs.wrap (x7+1),hr2,(zG [])⟩
 refine zz ?_
 obtain rfl:=sj hr2
 refine zz ?_
 exact hG1 _ _ _ _ (zG []) (J1 hr)
theorem v9 {N:Nat}{vs:List (List Int)}{eJ:List Int}{r:(List (List Int))×Int}(hr:lD N vs eJ=some r):
  Vm.Fn Tryz.prog 44 [] [(.row none 1 (vs.map (eL 1 (eI .u8)))),(.row none 1 (eJ.map (eI .u8)))] (.tup [(.sl 0 0 r.1.length 1 false),(eI .i64 r.2)]) [some ⟨31,r.1.map (eL 1 (eI .u8))⟩]:=by
 refine zf Tryz.func44 Tryz.ntmps44 ?_
 unfold lD at hr
 refine zz ?_
 refine aQv ?_
 refine zz ?_
 refine zk hr rfl (fun h1 hr=> ?_) (fun h1 hr=> ?_)
 ·refine zz ?_
  obtain rfl:=sj hr
  exact mZ Tryz.results44 aW aW (zW 31 [0])
 obtain⟨bH,h_2,hr⟩:=aA hr
 obtain⟨x17,h_3,hr⟩:=aA hr
 refine zz ?_
 obtain rfl:=sj hr
 exact u6 Tryz.results44 [1]
theorem aCb {N:Nat}{va b:List Int}{r:Bool}(hr:tF N va b=some r):
  Vm.Fn Tryz.prog 32 [] [(.row none 1 (va.map (eI .u8))),(.row none 1 (b.map (eI .u8)))] (eB r) []:=by
 refine zf Tryz.func32 Tryz.ntmps32 ?_
 unfold tF at hr
 refine zz ?_
 refine xw (v:=(eS (nP va))) (f9 rfl (aGG cI ti9 dA (aA4 (fun _=>rfl)))) ?_
 refine zz ?_
 refine xw (v:=(eS (nP b))) (f9 rfl (aGG cI ti9 dA (aA4 (fun _=>rfl))))<|xw (xT rfl rfl (aHp ..)) ?_
 refine zz ?_
 obtain rfl:=sj hr
 exact bK Tryz.results32 []
theorem zJ {N:Nat}{vn:Int}{r:(List Int)}(hr:qC N vn=some r):
  Vm.Fn Tryz.prog 47 [] [(eI .u32 vn)] (.sl 0 0 r.length 1 false) [some ⟨5,r.map (eI .u8)⟩]:=by
 refine zf Tryz.func47 Tryz.ntmps47 ?_
 unfold qC at hr
 refine zz ?_
 refine aQz fun K1 hK1 hG1=> ?_
 have J1: ∀(l0:List Int),zC N l0=some r→K1 (aE 14 [(3,(.sl 0 0 l0.length 1 false))]) [some ⟨5,l0.map (eI .u8)⟩]:=by
  intro l0 hr
  unfold zC at hr
  refine hK1 _ _ ?_
  refine zz ?_
  obtain rfl:=sj hr
  exact bK Tryz.results47 [0]
 obtain⟨a9,hL2,hr⟩:=aA hr
 refine aQw<|aQG (fun m s h=> ∃(cZ:Int)(aL:List Int),lR N m cZ aL=some a9∧Ghost 0 s h (aE 14 [(0,(eI .u32 cZ)),(3,(.sl 0 0 aL.length 1 false))]) [some ⟨5,aL.map (eI .u8)⟩]) (n:=N) ⟨vn,[],hL2,(zW 5 [0])⟩ (by rintro s h ⟨_,_,h0,_⟩;simp[lR]at h0) ?_
 rintro m2 s h ⟨cZ,aL,hr2,hg⟩
 refine aQD hg ?_
 clear hg hL2
 rw[lR]at hr2
 refine aQv ?_
 refine zz ?_
 refine zk hr2 rfl (fun h1 hr2=> ?_) (fun h1 hr2=> ?_)
 ·refine zz ?_
  refine aQv<|aQw ?_
  obtain⟨dL,h_2,hr2⟩:=aA hr2
  refine zz ?_
  exact⟨aQE.wrap (aQ2 cZ 256),dL,hr2,(zG [2])⟩
 refine zz ?_
 obtain rfl:=sj hr2
 refine zz ?_
 exact hG1 _ _ _ _ (zG [0]) (J1 aL hr)
theorem tE {N:Nat}{b:Bool}{r:(List Int)}(hr:kV N b=some r):
  Vm.Fn Tryz.prog 45 [] [(eB b)] (.row none 1 (r.map (eI .u8))) []:=by
 refine zf Tryz.func45 Tryz.ntmps45 ?_
 unfold kV at hr
 refine zz ?_
 refine aQv ?_
 refine zz ?_
 refine zk hr rfl (fun h1 hr=> ?_) (fun h1 hr=> ?_)
 ·obtain⟨x4,h_2,hr⟩:=aA hr
  refine zz ?_
  refine zc (zJ h_2) [] ?_
  refine zz ?_
  obtain rfl:=sj hr
  exact eW Tryz.results45 aW (aQI (zv 0) (zG []))
 obtain⟨x5,h_3,hr⟩:=aA hr
 refine zz ?_
 refine zc (zJ h_3) [] ?_
 refine zz ?_
 obtain rfl:=sj hr
 exact eW Tryz.results45 aW (aQI (zv 0) (zG []))
theorem aHa {N:Nat}{vn:Int}{r:(List Int)}(hr:yS N vn=some r):
  Vm.Fn Tryz.prog 61 [] [(eI .u64 vn)] (.sl 0 0 r.length 1 false) [some ⟨5,r.map (eI .u8)⟩]:=by
 refine zf Tryz.func61 Tryz.ntmps61 ?_
 unfold yS at hr
 refine zz ?_
 refine aQz fun K1 hK1 hG1=> ?_
 have J1: ∀(l0:List Int),vD N vn l0=some r→K1 (aE 31 [(0,(eI .u64 vn)),(3,(.sl 0 0 l0.length 1 false))]) [some ⟨5,l0.map (eI .u8)⟩]:=by
  intro l0 hr
  unfold vD at hr
  refine hK1 _ _ ?_
  refine aQz fun K2 hK2 hG2=> ?_
  have J2: ∀(aL:List Int),aAl N aL=some r→K2 (aE 31 [(3,(.sl 0 0 aL.length 1 false))]) [some ⟨5,aL.map (eI .u8)⟩]:=by
   intro aL hr
   unfold aAl at hr
   refine hK2 _ _ ?_
   refine zz ?_
   obtain rfl:=sj hr
   exact bK Tryz.results61 [0]
  obtain⟨rB,hL3,hr⟩:=aA hr
  refine zz ?_
  refine aQw<|aQG (fun m s h=> ∃(vi:Int)(iZ:List Int),lA N vn m vi iZ=some rB∧Ghost 0 s h (aE 31 [(0,(eI .u64 vn)),(3,(.sl 0 0 iZ.length 1 false)),(4,(eI .i64 vi))]) [some ⟨5,iZ.map (eI .u8)⟩]) (n:=N) ⟨7,l0,hL3,(zG [0])⟩ (by rintro s h ⟨_,_,h0,_⟩;simp[lA]at h0) ?_
  rintro m3 s h ⟨vi,iZ,hr3,hg⟩
  refine aQD hg ?_
  clear hg hL3
  rw[lA]at hr3
  refine aQv ?_
  refine zz ?_
  refine zk hr3 rfl (fun h1 hr3=> ?_) (fun h1 hr3=> ?_)
  ·refine zz ?_
   refine aQv<|aQw ?_
   obtain⟨x26,h_2,hr3⟩:=aA hr3
   obtain⟨x29,h_3,hr3⟩:=aA hr3
   refine zz ?_
   exact⟨aQs.wrap (vi-1),x29,hr3,(zG [2])⟩
  refine zz ?_
  obtain rfl:=sj hr3
  refine zz ?_
  exact hG2 _ _ _ _ (zG [0]) (J2 iZ hr)
 obtain⟨res4,hL4,hr⟩:=aA hr
 refine aQw<|aQG (fun m s h=> ∃(k9:List Int),mW N vn m k9=some res4∧Ghost 0 s h (aE 31 [(0,(eI .u64 vn)),(3,(.sl 0 0 k9.length 1 false))]) [some ⟨5,k9.map (eI .u8)⟩]) (n:=N) ⟨[128],hL4,(lI [0])⟩ (by rintro s h ⟨_,h0,_⟩;simp[mW]at h0) ?_
 rintro m4 s h ⟨k9,hr4,hg⟩
 refine aQD hg ?_
 clear hg hL4
 rw[mW]at hr4
 refine aQv ?_
 refine zz ?_
 refine zk hr4 rfl (fun h4 hr4=> ?_) (fun h4 hr4=> ?_)
 ·refine zz ?_
  refine aQw ?_
  obtain⟨x16,h_5,hr4⟩:=aA hr4
  refine zz ?_
  exact⟨x16,hr4,(zG [2])⟩
 refine zz ?_
 obtain rfl:=sj hr4
 refine zz ?_
 exact hG1 _ _ _ _ (zG [0]) (J1 k9 hr)
theorem aDQ {N:Nat}{r:(List Int)}(hr:uT N=some r):
  Vm.Fn Tryz.prog 62 [] [] (.agg (r.map (eI .u32))) []:=by
 refine zf Tryz.func62 Tryz.ntmps62 ?_
 unfold uT at hr
 refine zz ?_
 refine xw (v:=(.agg ([1779033703,3144134277,1013904242,2773480762,1359893119,2600822924,528734635,1541459225].map (eI .u32)))) (cH rfl (lY aFz aCD rfl)) ?_
 refine zz ?_
 obtain rfl:=sj hr
 exact eW Tryz.results62 aW (zG [])
theorem gV {N:Nat}{x vn r:Int}(hr:gZ N x vn=some r):
  Vm.Fn Tryz.prog 75 [] [(eI .u32 x),(eI .i64 vn)] (eI .u32 r) []:=by
 refine zf Tryz.func75 Tryz.ntmps75 ?_
 unfold gZ at hr
 obtain⟨x8,h_1,hr⟩:=aA hr
 refine zz ?_
 refine xw (aHB rfl (aKg ..))<|xp (rE h_1) ?_
 refine zz ?_
 obtain rfl:=sj hr
 exact bK Tryz.results75 []
theorem aDd {N:Nat}{block:List Int}{r:(List Int)}(hr:pG N block=some r):
  Vm.Fn Tryz.prog 73 [] [(.agg (block.map (eI .u8)))] (.agg (r.map (eI .u32))) []:=by
 refine zf Tryz.func73 Tryz.ntmps73 ?_
 unfold pG at hr
 refine zz ?_
 refine aQz fun K1 hK1 hG1=> ?_
 have J1: ∀(l1:List Int),pC N l1=some r→K1 (aE 97 [(2,(.ptr 0 0)),(3,(.ptr 1 0))]) [some ⟨105,(aQr 64 0).map (eI .u32)⟩,some ⟨105,l1.map (eI .u32)⟩]:=by
  intro l1 hr
  unfold pC at hr
  refine hK1 _ _ ?_
  refine aQz fun K2 hK2 hG2=> ?_
  have J2: ∀(d5:List Int),pB N d5=some r→K2 (aE 97 [(2,(.ptr 0 0)),(3,(.ptr 1 0))]) [some ⟨105,(aQr 64 0).map (eI .u32)⟩,some ⟨105,d5.map (eI .u32)⟩]:=by
   intro d5 hr
   unfold pB at hr
   refine hK2 _ _ ?_
   obtain⟨q,h_1,hr⟩:=aA hr
   refine zz ?_
   obtain rfl:=sj hr
   exact eW Tryz.results73 aW (zG [])
  obtain⟨rB,hL3,hr⟩:=aA hr
  refine zz ?_
  refine aQw<|aQG (fun m s h=> ∃(vi:Int)(l1_2:List Int),iF N m vi l1_2=some rB∧Ghost 0 s h (aE 97 [(2,(.ptr 0 0)),(3,(.ptr 1 0)),(5,(eI .i64 vi))]) [some ⟨105,(aQr 64 0).map (eI .u32)⟩,some ⟨105,l1_2.map (eI .u32)⟩]) (n:=N) ⟨16,l1,hL3,(zG [0,1])⟩ (by rintro s h ⟨_,_,h0,_⟩;simp[iF]at h0) ?_
  rintro m3 s h ⟨vi,l1_2,hr3,hg⟩
  refine aQD hg ?_
  clear hg hL3
  rw[iF]at hr3
  refine aQv ?_
  refine zz ?_
  refine zk hr3 rfl (fun h2 hr3=> ?_) (fun h2 hr3=> ?_)
  ·refine zz ?_
   refine aQv<|aQw<|aQv ?_
   obtain⟨x49,h_3,hr3⟩:=aA hr3
   obtain⟨x51,h_4,hr3⟩:=aA hr3
   obtain⟨x56,h_6,hr3⟩:=aA hr3
   obtain⟨x62,h_8,hr3⟩:=aA hr3
   refine aQM mixed [75] [] [[0,1,2,3,4,5,6,7,8,9,10,11,12,13,14,15,16,17]] ?_
   refine zz ?_
   refine xu (gV h_4) ?_
   refine zz ?_
   refine xu (gV h_6) ?_
   refine zz ?_
   refine aQv ?_
   obtain⟨x66,h_9,hr3⟩:=aA hr3
   obtain⟨x68,h_10,hr3⟩:=aA hr3
   obtain⟨x73,h_12,hr3⟩:=aA hr3
   obtain⟨x79,h_14,hr3⟩:=aA hr3
   refine aQM mixed [75] [] [[0,1,2,3,4,5,6,7,8,9,10,11,12,13,14,15,16,17]] ?_
   refine zz ?_
   refine xu (gV h_10) ?_
   refine zz ?_
   refine xu (gV h_12) ?_
   obtain⟨x84,h_15,hr3⟩:=aA hr3
   obtain⟨x90,h_16,hr3⟩:=aA hr3
   obtain⟨x95,h_17,hr3⟩:=aA hr3
   refine zz ?_
   refine aQM mixed [] [] [[0,1,2,3,4,5,6,7,8,9,10,11,12,13,14,15]] ?_
   refine zz ?_
   exact⟨aQs.wrap (vi+1),l1_2.set (aQJ vi) (aQE.wrap ((aQE.wrap ((aQE.wrap (x84+(bits .xor .u32 (bits .xor .u32 x51 x56) x62)))+x90))+(bits .xor .u32 (bits .xor .u32 x68 x73) x79))),hr3,(zG [0,1])⟩
  refine zz ?_
  obtain rfl:=sj hr3
  refine zz ?_
  exact hG2 _ _ _ _ (zG [0,1]) (J2 l1_2 hr)
 obtain⟨res4,hL4,hr⟩:=aA hr
 refine zz ?_
 refine aQw<|aQG (fun m s h=> ∃(vi_1:Int)(l2:List Int),eO N block m vi_1 l2=some res4∧Ghost 0 s h (aE 97 [(1,(.ptr 0 0)),(2,(.ptr 1 0)),(3,(.ptr 2 0)),(4,(eI .i64 vi_1))]) [some ⟨93,block.map (eI .u8)⟩,some ⟨105,(aQr 64 0).map (eI .u32)⟩,some ⟨105,l2.map (eI .u32)⟩]) (n:=N) ⟨0,aQr 64 0,hL4,(zG [0,1,2])⟩ (by rintro s h ⟨_,_,h0,_⟩;simp[eO]at h0) ?_
 rintro m4 s h ⟨vi_1,l2,hr4,hg⟩
 refine aQD hg ?_
 clear hg hL4
 rw[eO]at hr4
 refine aQv ?_
 refine zz ?_
 refine zk hr4 rfl (fun h18 hr4=> ?_) (fun h18 hr4=> ?_)
 ·refine zz ?_
  refine aQv<|aQw ?_
  obtain⟨x15,h_19,hr4⟩:=aA hr4
  obtain⟨x18,h_20,hr4⟩:=aA hr4
  obtain⟨bN,h_21,hr4⟩:=aA hr4
  obtain⟨x25,h_22,hr4⟩:=aA hr4
  obtain⟨mX,h_23,hr4⟩:=aA hr4
  obtain⟨lC,h_24,hr4⟩:=aA hr4
  obtain⟨x38,h_25,hr4⟩:=aA hr4
  obtain⟨x42,h_26,hr4⟩:=aA hr4
  refine aQM mixed [] [] [[0,1,2,3,4,5,6,7,8,9,10,11,12,13,14,15,16,17,18,19,20,21,22,23,24,25,26,27,28,29,30,31]] ?_
  refine zz ?_
  exact⟨aQs.wrap (vi_1+1),l2.set (aQJ vi_1) (bits .or .u32 (bits .or .u32 (bits .or .u32 x18 x25) lC) (aQE.wrap x38)),hr4,(zG [0,1,2])⟩
 refine zz ?_
 obtain rfl:=sj hr4
 refine zz ?_
 exact hG1 _ _ _ _ (zG [1,2]) (J1 l2 hr)
theorem aCh {N:Nat}{r:(List Int)}(hr:rI N=some r):
  Vm.Fn Tryz.prog 74 [] [] (.agg (r.map (eI .u32))) []:=by
 refine zf Tryz.func74 Tryz.ntmps74 ?_
 unfold rI at hr
 refine zz ?_
 refine xw (v:=(.agg ([1116352408,1899447441,3049323471,3921009573,961987163,1508970993,2453635748,2870763221,3624381080,310598401,607225278,1426881987,1925078388,2162078206,2614888103,3248222580,3835390401,4022224774,264347078,604807628,770255983,1249150122,1555081692,1996064986,2554220882,2821834349,2952996808,3210313671,3336571891,3584528711,113926993,338241895,666307205,773529912,1294757372,1396182291,1695183700,1986661051,2177026350,2456956037,2730485921,2820302411,3259730800,3345764771,3516065817,3600352804,4094571909,275423344,430227734,506948616,659060556,883997877,958139571,1322822218,1537002063,1747873779,1955562222,2024104815,2227730452,2361852424,2428436474,2756734187,3204031479,3329325298].map (eI .u32)))) (cH rfl (lY aJi aCD rfl)) ?_
 refine zz ?_
 obtain rfl:=sj hr
 exact eW Tryz.results74 aW (zG [])
theorem aDf {N:Nat}{bY block:List Int}{r:(List Int)}(hr:mH N bY block=some r):
  Vm.Fn Tryz.prog 63 [] [(.agg (bY.map (eI .u32))),(.agg (block.map (eI .u8)))] (.agg (r.map (eI .u32))) []:=by
 refine zf Tryz.func63 Tryz.ntmps63 ?_
 unfold mH at hr
 obtain⟨q,h_1,hr⟩:=aA hr
 obtain⟨x19,h_2,hr⟩:=aA hr
 obtain⟨bI,h_3,hr⟩:=aA hr
 obtain⟨q_1,h_4,hr⟩:=aA hr
 obtain⟨q_2,h_5,hr⟩:=aA hr
 refine zz ?_
 refine xp (aDd h_2)<|xp (aCh h_3) ?_
 refine zz ?_
 refine aQv ?_
 obtain⟨dM,h_6,hr⟩:=aA hr
 obtain⟨fR,h_7,hr⟩:=aA hr
 obtain⟨x25,h_8,hr⟩:=aA hr
 obtain⟨x27,h_9,hr⟩:=aA hr
 obtain⟨x29,h_10,hr⟩:=aA hr
 obtain⟨dD,h_11,hr⟩:=aA hr
 obtain⟨lC,h_12,hr⟩:=aA hr
 obtain⟨x35,h_13,hr⟩:=aA hr
 refine aQM mixed [] [] [[0,1,2,3,4,5,6,7,8,9,10,11,12,13,14,15,16,17,18,19,20,21,22,23]] ?_
 refine zz ?_
 refine aQz fun K1 hK1 hG1=> ?_
 have J1: ∀(va b c d ve f g vh:Int),o7 N bY va b c d ve f g vh=some r→K1 (aE 133 [(2,(.ptr 0 0)),(4,(.ptr 1 0)),(7,(eI .u32 va)),(8,(eI .u32 b)),(9,(eI .u32 c)),(10,(eI .u32 d)),(11,(eI .u32 ve)),(12,(eI .u32 f)),(13,(eI .u32 g)),(14,(eI .u32 vh))]) [some ⟨91,bY.map (eI .u32)⟩,some ⟨91,(aQr 8 0).map (eI .u32)⟩]:=by
  intro va b c d ve f g vh hr
  unfold o7 at hr
  refine hK1 _ _ ?_
  obtain⟨aKK,h_14,hr⟩:=aA hr
  obtain⟨zA,h_15,hr⟩:=aA hr
  obtain⟨aKI,h_16,hr⟩:=aA hr
  obtain⟨aK3,h_17,hr⟩:=aA hr
  obtain⟨aK0,h_18,hr⟩:=aA hr
  obtain⟨aLI,h_19,hr⟩:=aA hr
  obtain⟨aFk,h_20,hr⟩:=aA hr
  obtain⟨aKZ,h_21,hr⟩:=aA hr
  refine zz ?_
  refine xw (v:=(.agg ([aQE.wrap (aKK+va),aQE.wrap (zA+b),aQE.wrap (aKI+c),aQE.wrap (aK3+d),aQE.wrap (aK0+ve),aQE.wrap (aLI+f),aQE.wrap (aFk+g),aQE.wrap (aKZ+vh)].map (eI .u32)))) (cH rfl (lY aFz aCD rfl)) ?_
  refine zz ?_
  obtain rfl:=sj hr
  exact eW Tryz.results63 aW (zG [])
 obtain⟨a9,hL2,hr⟩:=aA hr
 refine zz ?_
 refine aQw<|aQG (fun m s h=> ∃(va_1 b_1 c_1 d_1 ve_1 f_1 g_1 vh_1 vi:Int),iC N bY x19 bI m va_1 b_1 c_1 d_1 ve_1 f_1 g_1 vh_1 vi=some a9∧Ghost 0 s h (aE 133 [(2,(.ptr 0 0)),(4,(.ptr 1 0)),(5,(.ptr 2 0)),(6,(.ptr 3 0)),(7,(eI .u32 va_1)),(8,(eI .u32 b_1)),(9,(eI .u32 c_1)),(10,(eI .u32 d_1)),(11,(eI .u32 ve_1)),(12,(eI .u32 f_1)),(13,(eI .u32 g_1)),(14,(eI .u32 vh_1)),(15,(eI .i64 vi))]) [some ⟨91,bY.map (eI .u32)⟩,some ⟨91,(aQr 8 0).map (eI .u32)⟩,some ⟨105,x19.map (eI .u32)⟩,some ⟨105,bI.map (eI .u32)⟩]) (n:=N) ⟨dM,fR,x25,x27,x29,dD,lC,x35,0,hL2,(zG [0,2,3,4])⟩ (by rintro s h ⟨_,_,_,_,_,_,_,_,_,h0,_⟩;simp[iC]at h0) ?_
 rintro m2 s h ⟨va_1,b_1,c_1,d_1,ve_1,f_1,g_1,vh_1,vi,hr2,hg⟩
 refine aQD hg ?_
 clear hg hL2
 rw[iC]at hr2
 refine aQv ?_
 refine zz ?_
 refine zk hr2 rfl (fun h22 hr2=> ?_) (fun h22 hr2=> ?_)
 ·refine zz ?_
  refine aQv<|aQw<|aQv ?_
  obtain⟨x43,h_23,hr2⟩:=aA hr2
  obtain⟨x45,h_25,hr2⟩:=aA hr2
  obtain⟨x48,h_27,hr2⟩:=aA hr2
  obtain⟨x61,h_29,hr2⟩:=aA hr2
  obtain⟨x65,h_30,hr2⟩:=aA hr2
  refine aQM mixed [75] [] [[0,1,2,3,4,5,6,7,8,9,10,11,12,13,14,15,16,17,18,19,20,21,22,23,24,25,26,27]] ?_
  refine zz ?_
  refine xu (gV h_23) ?_
  refine zz ?_
  refine xu (gV h_25) ?_
  refine zz ?_
  refine xu (gV h_27) ?_
  refine zz ?_
  refine xw (v:=(eI .u32 (bits .xor .u32 (aQZ .u32) ve_1))) (aHB rfl (aIr rfl _)) ?_
  obtain⟨x69,h_31,hr2⟩:=aA hr2
  obtain⟨x71,h_32,hr2⟩:=aA hr2
  obtain⟨x74,h_33,hr2⟩:=aA hr2
  refine zz ?_
  refine xp (gV h_31) ?_
  refine zz ?_
  refine xp (gV h_32) ?_
  refine zz ?_
  refine xp (gV h_33) ?_
  refine zz ?_
  exact⟨aQE.wrap ((aQE.wrap ((aQE.wrap ((aQE.wrap ((aQE.wrap (vh_1+(bits .xor .u32 (bits .xor .u32 x43 x45) x48)))+(bits .xor .u32 (bits .and .u32 ve_1 f_1) (bits .and .u32 (bits .xor .u32 (aQZ .u32) ve_1) g_1))))+x61))+x65))+(aQE.wrap ((bits .xor .u32 (bits .xor .u32 x69 x71) x74)+(bits .xor .u32 (bits .xor .u32 (bits .and .u32 va_1 b_1) (bits .and .u32 va_1 c_1)) (bits .and .u32 b_1 c_1))))),va_1,b_1,c_1,aQE.wrap (d_1+(aQE.wrap ((aQE.wrap ((aQE.wrap ((aQE.wrap (vh_1+(bits .xor .u32 (bits .xor .u32 x43 x45) x48)))+(bits .xor .u32 (bits .and .u32 ve_1 f_1) (bits .and .u32 (bits .xor .u32 (aQZ .u32) ve_1) g_1))))+x61))+x65))),ve_1,f_1,g_1,aQs.wrap (vi+1),hr2,(zG [0,1,2,3])⟩
 refine zz ?_
 obtain rfl:=sj hr2
 refine zz ?_
 exact hG1 _ _ _ _ (zG [0,1]) (J1 va_1 b_1 c_1 d_1 ve_1 f_1 g_1 vh_1 hr)
theorem aAo {N:Nat}{b:List Int}{r:(List Int)}(hr:rW N b=some r):
  Vm.Fn Tryz.prog 46 [] [(.row none 1 (b.map (eI .u8)))] (.agg (r.map (eI .u8))) []:=by
 refine zf Tryz.func46 Tryz.ntmps46 ?_
 unfold rW at hr
 obtain⟨bX,h_1,hr⟩:=aA hr
 obtain⟨x15,h_2,hr⟩:=aA hr
 obtain⟨x16,h_3,hr⟩:=aA hr
 refine zz ?_
 refine zc (aHa h_2) [] ?_
 obtain⟨x17,h_4,hr⟩:=aA hr
 obtain⟨q,h_5,hr⟩:=aA hr
 refine zz ?_
 refine xp (aDQ h_4) ?_
 refine zz ?_
 refine aQz fun K1 hK1 hG1=> ?_
 have J1: ∀(l1:List Int),wM N l1=some r→K1 (aE 66 [(2,(.ptr 0 0)),(4,(.ptr 1 0))]) [some ⟨25,(aQr 32 0).map (eI .u8)⟩,some ⟨91,l1.map (eI .u32)⟩]:=by
  intro l1 hr
  unfold wM at hr
  refine hK1 _ _ ?_
  refine zz ?_
  refine aQz fun K2 hK2 hG2=> ?_
  have J2: ∀(d5:List Int),vH N d5=some r→K2 (aE 66 [(2,(.ptr 0 0)),(7,(.ptr 1 0))]) [some ⟨25,(aQr 32 0).map (eI .u8)⟩,some ⟨25,d5.map (eI .u8)⟩]:=by
   intro d5 hr
   unfold vH at hr
   refine hK2 _ _ ?_
   obtain⟨q_1,h_6,hr⟩:=aA hr
   refine zz ?_
   obtain rfl:=sj hr
   exact eW Tryz.results46 aW (zG [])
  obtain⟨q_2,h_7,hr⟩:=aA hr
  obtain⟨rB,hL3,hr⟩:=aA hr
  refine zz ?_
  refine aQw<|aQG (fun m s h=> ∃(fB:Int)(l1_2:List Int),mL N l1 m fB l1_2=some rB∧Ghost 0 s h (aE 66 [(2,(.ptr 0 0)),(7,(.ptr 1 0)),(33,(.agg (l1.map (eI .u32)))),(34,(eI .i64 fB))]) [some ⟨25,(aQr 32 0).map (eI .u8)⟩,some ⟨25,l1_2.map (eI .u8)⟩]) (n:=N) ⟨0,aQr 32 0,hL3,(zG [0,2])⟩ (by rintro s h ⟨_,_,h0,_⟩;simp[mL]at h0) ?_
  rintro m3 s h ⟨fB,l1_2,hr3,hg⟩
  refine aQD hg ?_
  clear hg hL3
  rw[mL]at hr3
  refine zz ?_
  refine aQv ?_
  refine zk hr3 rfl (fun h8 hr3=> ?_) (fun h8 hr3=> ?_)
  ·refine zz ?_
   refine aQv<|aQw ?_
   obtain⟨x37,h_9,hr3⟩:=aA hr3
   refine zz ?_
   refine xw (v:=(eI .u32 x37)) (aKU rfl rfl (ixA (E:=(eI .u32)) aFz aCD rfl rfl h_9)) ?_
   obtain⟨x50,h_10,hr3⟩:=aA hr3
   obtain⟨x53,h_11,hr3⟩:=aA hr3
   obtain⟨x56,h_12,hr3⟩:=aA hr3
   obtain⟨x60,h_13,hr3⟩:=aA hr3
   obtain⟨x61,h_14,hr3⟩:=aA hr3
   obtain⟨x62,h_15,hr3⟩:=aA hr3
   obtain⟨x63,h_16,hr3⟩:=aA hr3
   refine zz ?_
   exact⟨aQs.wrap (fB+1),(((l1_2.set (aQJ (aQs.wrap (4*fB))) (aQX.wrap x50)).set (aQJ (aQs.wrap ((aQs.wrap (4*fB))+1))) (aQX.wrap x53)).set (aQJ (aQs.wrap ((aQs.wrap (4*fB))+2))) (aQX.wrap x56)).set (aQJ (aQs.wrap ((aQs.wrap (4*fB))+3))) (aQX.wrap x37),hr3,(zG [0,1])⟩
  refine zz ?_
  obtain rfl:=sj hr3
  refine zz ?_
  exact hG2 _ _ _ _ (zG [0,1]) (J2 l1_2 hr)
 refine zz ?_
 refine aQD (zv 4) ?_
 obtain⟨res4,hL4,hr⟩:=aA hr
 refine aQw<|aQG (fun m s h=> ∃(vi:Int)(l1_3:List Int),mQ N x16 m vi l1_3=some res4∧Ghost 0 s h (aE 66 [(2,(.ptr 0 0)),(3,(.row none 1 (x16.map (eI .u8)))),(4,(.ptr 1 0)),(5,(eI .i64 vi))]) [some ⟨25,(aQr 32 0).map (eI .u8)⟩,some ⟨91,l1_3.map (eI .u32)⟩]) (n:=N) ⟨0,x17,hL4,(zG [0,5])⟩ (by rintro s h ⟨_,_,h0,_⟩;simp[mQ]at h0) ?_
 rintro m4 s h ⟨vi,l1_3,hr4,hg⟩
 refine aQD hg ?_
 clear hg hL4
 rw[mQ]at hr4
 refine aQv ?_
 refine zz ?_
 refine zk hr4 rfl (fun h17 hr4=> ?_) (fun h17 hr4=> ?_)
 ·refine zz ?_
  refine aQv<|aQw ?_
  refine zz ?_
  refine aQv ?_
  obtain⟨x28,h_18,hr4⟩:=aA hr4
  refine aQM mixed [] [] [[0,1,2,3,4]] ?_
  refine zz ?_
  refine xw (v:=(eI .i64 ((min x28.length (aQr 64 0).length:Nat):Int))) (h':=[some ⟨25,(aQr 32 0).map (eI .u8)⟩,some ⟨91,l1_3.map (eI .u32)⟩,some ⟨93,(kL (aQr 64 0) x28).map (eI .u8)⟩]) (aA9 rfl rfl (aEY (E:=(eI .u8)) (l:=aQr 64 0) rfl cI dA rfl rfl (aA4 (fun _=>rfl)) rfl)) ?_
  obtain⟨q_3,h_19,hr4⟩:=aA hr4
  obtain⟨q_4,h_20,hr4⟩:=aA hr4
  obtain⟨pR,h_21,hr4⟩:=aA hr4
  obtain⟨q_5,h_22,hr4⟩:=aA hr4
  refine zz ?_
  refine xp (aDf h_21) ?_
  refine zz ?_
  exact⟨aQs.wrap (vi+64),pR,hr4,(zG [0,1])⟩
 refine zz ?_
 obtain rfl:=sj hr4
 refine zz ?_
 exact hG1 _ _ _ _ (zG [0,1]) (J1 l1_3 hr)
theorem oH {N:Nat}{vh:List Int}{r:(List Int)}(hr:fT N vh=some r):
  Vm.Fn Tryz.prog 64 [] [(.agg (vh.map (eI .u8)))] (.agg (r.map (eI .u64))) []:=by
 refine zf Tryz.func64 Tryz.ntmps64 ?_
 unfold fT at hr
 refine zz ?_
 refine aQz fun K1 hK1 hG1=> ?_
 have J1: ∀(l1:List Int),nW N l1=some r→K1 (aE 27 [(2,(.ptr 0 0)),(3,(.ptr 1 0))]) [some ⟨96,(aQr 4 0).map (eI .u64)⟩,some ⟨96,l1.map (eI .u64)⟩]:=by
  intro l1 hr
  unfold nW at hr
  refine hK1 _ _ ?_
  obtain⟨q,h_1,hr⟩:=aA hr
  refine zz ?_
  obtain rfl:=sj hr
  exact eW Tryz.results64 aW (zG [])
 obtain⟨a9,hL2,hr⟩:=aA hr
 refine zz ?_
 refine aQw<|aQG (fun m s h=> ∃(x6:Int)(l2:List Int),gL N vh m x6 l2=some a9∧Ghost 0 s h (aE 27 [(1,(.ptr 0 0)),(2,(.ptr 1 0)),(3,(.ptr 2 0)),(6,(eI .i64 x6))]) [some ⟨25,vh.map (eI .u8)⟩,some ⟨96,(aQr 4 0).map (eI .u64)⟩,some ⟨96,l2.map (eI .u64)⟩]) (n:=N) ⟨0,aQr 4 0,hL2,(zG [0,1,2])⟩ (by rintro s h ⟨_,_,h0,_⟩;simp[gL]at h0) ?_
 rintro m2 s h ⟨x6,l2,hr2,hg⟩
 refine aQD hg ?_
 clear hg hL2
 rw[gL]at hr2
 refine zz ?_
 refine aQv ?_
 refine zk hr2 rfl (fun h2 hr2=> ?_) (fun h2 hr2=> ?_)
 ·refine zz ?_
  refine aQv<|aQw ?_
  obtain⟨cB,h_3,hr2⟩:=aA hr2
  obtain⟨x16,h_4,hr2⟩:=aA hr2
  obtain⟨bN,h_5,hr2⟩:=aA hr2
  refine zz ?_
  refine aQM mixed [] [] [[0,1,2,3,4,5,6,7,8,9,10,11,12,13,14]] ?_
  refine zz ?_
  exact⟨aQs.wrap (x6+1),l2.set (aQJ (aQs.wrap (aQ2 (aQs.wrap (31-x6)) 8))) (bits .or .u64 cB bN),hr2,(zG [0,1,2])⟩
 refine zz ?_
 obtain rfl:=sj hr2
 refine zz ?_
 exact hG1 _ _ _ _ (zG [1,2]) (J1 l2 hr)
theorem j7 {N:Nat}{vn:Int}{r:(List Int)}(hr:eT N vn=some r):
  Vm.Fn Tryz.prog 76 [] [(eI .u64 vn)] (.agg (r.map (eI .u64))) []:=by
 refine zf Tryz.func76 Tryz.ntmps76 ?_
 unfold eT at hr
 refine zz ?_
 refine xw (v:=(.agg ([vn,0,0,0].map (eI .u64)))) (cH rfl (lY bV kH rfl)) ?_
 refine zz ?_
 obtain rfl:=sj hr
 exact eW Tryz.results76 aW (zG [])
theorem nH {N:Nat}{va:List Int}{r:Bool}(hr:oL N va=some r):
  Vm.Fn Tryz.prog 92 [] [(.agg (va.map (eI .u64)))] (eB r) []:=by
 refine zf Tryz.func92 Tryz.ntmps92 ?_
 unfold oL at hr
 obtain⟨q,h_1,hr⟩:=aA hr
 refine zz ?_
 refine xw (v:=(.agg ([0,0,0,0].map (eI .u64)))) (cH rfl (lY bV kH rfl)) ?_
 refine zz ?_
 obtain rfl:=sj hr
 exact bK Tryz.results92 []
theorem vQ {N:Nat}{va b:List Int}{r:(List Int)×Bool}(hr:n7 N va b=some r):
  Vm.Fn Tryz.prog 79 [] [(.agg (va.map (eI .u64))),(.agg (b.map (eI .u64)))] (.tup [(.agg (r.1.map (eI .u64))),(eB r.2)]) []:=by
 refine zf Tryz.func79 Tryz.ntmps79 ?_
 unfold n7 at hr
 refine zz ?_
 refine aQz fun K1 hK1 hG1=> ?_
 have J1: ∀(borrow:Int)(l1:List Int),vP N borrow l1=some r→K1 (aE 29 [(4,(.ptr 0 0)),(6,(.ptr 1 0)),(7,(eI .u64 borrow))]) [some ⟨96,(aQr 4 0).map (eI .u64)⟩,some ⟨96,l1.map (eI .u64)⟩]:=by
  intro borrow l1 hr
  unfold vP at hr
  refine hK1 _ _ ?_
  obtain⟨q,h_1,hr⟩:=aA hr
  refine zz ?_
  obtain rfl:=sj hr
  exact mZ Tryz.results79 aW aW (lI [])
 obtain⟨a9,hL2,hr⟩:=aA hr
 refine zz ?_
 refine aQw<|aQG (fun m s h=> ∃(borrow_1 x9:Int)(l3:List Int),mO N va b m borrow_1 x9 l3=some a9∧Ghost 0 s h (aE 29 [(2,(.ptr 0 0)),(3,(.ptr 1 0)),(4,(.ptr 2 0)),(6,(.ptr 3 0)),(7,(eI .u64 borrow_1)),(9,(eI .i64 x9))]) [some ⟨96,va.map (eI .u64)⟩,some ⟨96,b.map (eI .u64)⟩,some ⟨96,(aQr 4 0).map (eI .u64)⟩,some ⟨96,l3.map (eI .u64)⟩]) (n:=N) ⟨0,0,aQr 4 0,hL2,(zG [0,1,2,3])⟩ (by rintro s h ⟨_,_,_,h0,_⟩;simp[mO]at h0) ?_
 rintro m2 s h ⟨borrow_1,x9,l3,hr2,hg⟩
 refine aQD hg ?_
 clear hg hL2
 rw[mO]at hr2
 refine zz ?_
 refine aQv ?_
 refine zk hr2 rfl (fun h2 hr2=> ?_) (fun h2 hr2=> ?_)
 ·refine zz ?_
  refine aQv<|aQw ?_
  obtain⟨x15,h_3,hr2⟩:=aA hr2
  obtain⟨x18,h_4,hr2⟩:=aA hr2
  obtain⟨dM,h_5,hr2⟩:=aA hr2
  obtain⟨dO,h_7,hr2⟩:=aA hr2
  refine zz ?_
  refine aQM mixed [96] [] [[0,1,2,3,4,5,6,7,8,9,10,11,12,13,14]] ?_
  refine zz ?_
  refine xu (yO h_5) ?_
  refine zz ?_
  exact⟨dM.2,aQs.wrap (x9+1),l3.set (aQJ x9) dM.1,hr2,(zG [0,1,2,3])⟩
 refine zz ?_
 obtain rfl:=sj hr2
 refine zz ?_
 exact hG1 _ _ _ _ (zG [2,3]) (J1 borrow_1 l3 hr)
theorem nC {N:Nat}{r:(List Int)}(hr:j9 N=some r):
  Vm.Fn Tryz.prog 94 [] [] (.agg (r.map (eI .u64))) []:=by
 refine zf Tryz.func94 Tryz.ntmps94 ?_
 unfold j9 at hr
 obtain⟨x5,h_1,hr⟩:=aA hr
 obtain⟨x6,h_2,hr⟩:=aA hr
 obtain⟨q,h_3,hr⟩:=aA hr
 refine zz ?_
 refine xw (v:=(.agg ([0,0,0,0].map (eI .u64)))) (cH rfl (lY bV kH rfl))<|xp (j7 h_1)<|xp (vQ h_2) ?_
 refine zz ?_
 obtain rfl:=sj hr
 exact eW Tryz.results94 aW (zG [])
theorem p7 {N:Nat}{va b:List Int}{r:Int}(hr:oK N va b=some r):
  Vm.Fn Tryz.prog 93 [] [(.agg (va.map (eI .u64))),(.agg (b.map (eI .u64)))] (eI .i64 r) []:=by
 refine zf Tryz.func93 Tryz.ntmps93 ?_
 unfold oK at hr
 refine zz ?_
 refine aQz fun K1 hK1 hG1=> ?_
 have J1:aAF N=some r→K1 (aE 24 []) []:=by
  intro hr
  unfold aAF at hr
  refine hK1 _ _ ?_
  refine zz ?_
  obtain rfl:=sj hr
  exact bK Tryz.results93 []
 obtain⟨a9,hL2,hr⟩:=aA hr
 refine zz ?_
 refine aQw<|aQG (fun m s h=> ∃(vi:Int),mP N va b m vi=some a9∧Ghost 0 s h (aE 24 [(2,(.ptr 0 0)),(3,(.ptr 1 0)),(5,(eI .i64 vi))]) [some ⟨96,va.map (eI .u64)⟩,some ⟨96,b.map (eI .u64)⟩]) (n:=N) ⟨3,hL2,(zG [0,1])⟩ (by rintro s h ⟨_,h0,_⟩;simp[mP]at h0) ?_
 rintro m2 s h ⟨vi,hr2,hg⟩
 refine aQD hg ?_
 clear hg hL2
 rw[mP]at hr2
 refine aQv ?_
 refine zz ?_
 refine zk hr2 rfl (fun h1 hr2=> ?_) (fun h1 hr2=> ?_)
 ·refine zz ?_
  refine aQv<|aQw<|aQv<|aQv ?_
  obtain⟨bX,h_2,hr2⟩:=aA hr2
  obtain⟨bH,h_3,hr2⟩:=aA hr2
  refine aQM mixed [] [] [[0,1,2,3,4,5,6]] ?_
  refine zz ?_
  refine zk hr2 rfl (fun h4 hr2=> ?_) (fun h4 hr2=> ?_)
  ·refine zz ?_
   obtain rfl:=sj hr2
   obtain rfl:=sj hr
   exact bK Tryz.results93 []
  refine zz ?_
  refine aQv<|aQM mixed [] [] [[0,1,2,3,4,5,6]] ?_
  refine zz ?_
  refine zk hr2 rfl (fun h5 hr2=> ?_) (fun h5 hr2=> ?_)
  ·refine zz ?_
   obtain rfl:=sj hr2
   obtain rfl:=sj hr
   exact bK Tryz.results93 []
  refine zz ?_
  exact⟨aQs.wrap (vi-1),hr2,(zG [0,1])⟩
 refine zz ?_
 obtain rfl:=sj hr2
 refine zz ?_
 exact hG1 _ _ _ _ (zG []) (J1 hr)
theorem r7 {N:Nat}{va:List Int}{vi:Int}{r:Bool}(hr:k7 N va vi=some r):
  Vm.Fn Tryz.prog 112 [] [(.agg (va.map (eI .u64))),(eI .i64 vi)] (eB r) []:=by
 refine zf Tryz.func112 Tryz.ntmps112 ?_
 unfold k7 at hr
 obtain⟨x7,h_1,hr⟩:=aA hr
 obtain⟨bX,h_2,hr⟩:=aA hr
 refine zz ?_
 obtain rfl:=sj hr
 exact bK Tryz.results112 []
theorem aHX {N:Nat}{va:List Int}{vn:Int}{r:(List Int)}(hr:aAJ N va vn=some r):
  Vm.Fn Tryz.prog 97 [] [(.agg (va.map (eI .u64))),(eI .i64 vn)] (.agg (r.map (eI .u64))) []:=by
 refine zf Tryz.func97 Tryz.ntmps97 ?_
 unfold aAJ at hr
 refine zz ?_
 refine aQv ?_
 refine zz ?_
 refine zk hr rfl (fun h1 hr=> ?_) (fun h1 hr=> ?_)
 ·obtain⟨q,h_2,hr⟩:=aA hr
  refine zz ?_
  obtain rfl:=sj hr
  exact eW Tryz.results97 aW (zG [])
 refine zz ?_
 refine aQv ?_
 refine zz ?_
 refine zk hr rfl (fun h3 hr=> ?_) (fun h3 hr=> ?_)
 ·refine zz ?_
  refine xw (v:=(.agg ([0,0,0,0].map (eI .u64)))) (cH rfl (lY bV kH rfl)) ?_
  refine zz ?_
  obtain rfl:=sj hr
  exact eW Tryz.results97 aW (zG [])
 refine zz ?_
 refine aQz fun K1 hK1 hG1=> ?_
 have J1: ∀(l1:List Int),aAi N l1=some r→K1 (aE 34 [(4,(.ptr 0 0)),(5,(.ptr 1 0))]) [some ⟨96,(aQr 4 0).map (eI .u64)⟩,some ⟨96,l1.map (eI .u64)⟩]:=by
  intro l1 hr
  unfold aAi at hr
  refine hK1 _ _ ?_
  obtain⟨q_1,h_4,hr⟩:=aA hr
  refine zz ?_
  obtain rfl:=sj hr
  exact eW Tryz.results97 aW (zG [])
 obtain⟨a9,hL2,hr⟩:=aA hr
 refine zz ?_
 refine aQw<|aQG (fun m s h=> ∃(vi:Int)(l2:List Int),gE N va vn m vi l2=some a9∧Ghost 0 s h (aE 34 [(1,(eI .i64 vn)),(2,(.ptr 0 0)),(4,(.ptr 1 0)),(5,(.ptr 2 0)),(6,(eI .i64 vi))]) [some ⟨96,va.map (eI .u64)⟩,some ⟨96,(aQr 4 0).map (eI .u64)⟩,some ⟨96,l2.map (eI .u64)⟩]) (n:=N) ⟨0,aQr 4 0,hL2,(zG [0,1,2])⟩ (by rintro s h ⟨_,_,h0,_⟩;simp[gE]at h0) ?_
 rintro m2 s h ⟨vi,l2,hr2,hg⟩
 refine aQD hg ?_
 clear hg hL2
 rw[gE]at hr2
 refine aQv ?_
 refine zz ?_
 refine zk hr2 rfl (fun h5 hr2=> ?_) (fun h5 hr2=> ?_)
 ·refine zz ?_
  refine aQz fun K3 hK3 hG3=> ?_
  have J3: ∀(fU:List Int),vY N va vn vi (gE N va vn m2) fU=some a9→K3 (aE 34 [(1,(eI .i64 vn)),(2,(.ptr 0 0)),(4,(.ptr 1 0)),(5,(.ptr 2 0)),(6,(eI .i64 vi))]) [some ⟨96,va.map (eI .u64)⟩,some ⟨96,(aQr 4 0).map (eI .u64)⟩,some ⟨96,fU.map (eI .u64)⟩]:=by
   intro fU hr2
   unfold vY at hr2
   refine hK3 _ _ ?_
   refine zz ?_
   exact⟨aQs.wrap (vi+1),fU,hr2,(zG [0,1,2])⟩
  refine aQw ?_
  obtain⟨q_2,h_6,hr2⟩:=aA hr2
  obtain⟨fR,h_7,hr2⟩:=aA hr2
  refine zz ?_
  refine xp (r7 h_7) ?_
  refine zz ?_
  refine zk hr2 rfl (fun h8 hr2=> ?_) (fun h8 hr2=> ?_)
  ·obtain⟨x26,h_9,hr2⟩:=aA hr2
   obtain⟨mX,h_10,hr2⟩:=aA hr2
   refine aQM mixed [] [] [[0,1,2,3,4,5,6,7,8,9]] ?_
   refine zz ?_
   exact hG3 _ _ _ _ (zG [0,1,2]) (J3 (l2.set (aQJ (aQs.wrap (aQ2 vi 64))) (bits .or .u64 x26 mX)) hr2)
  refine zz ?_
  exact hG3 _ _ _ _ (zG [0,1,2]) (J3 l2 hr2)
 refine zz ?_
 obtain rfl:=sj hr2
 refine zz ?_
 exact hG1 _ _ _ _ (zG [1,2]) (J1 l2 hr)
theorem tJ {N:Nat}{r:(List Int)}(hr:l8 N=some r):
  Vm.Fn Tryz.prog 80 [] [] (.agg (r.map (eI .u64))) []:=by
 refine zf Tryz.func80 Tryz.ntmps80 ?_
 unfold l8 at hr
 obtain⟨x1,h_1,hr⟩:=aA hr
 obtain⟨x2,h_2,hr⟩:=aA hr
 obtain⟨q,h_3,hr⟩:=aA hr
 refine zz ?_
 refine xp (nC h_1)<|xp (aHX h_2) ?_
 refine zz ?_
 obtain rfl:=sj hr
 exact eW Tryz.results80 aW (zG [])
theorem aCK {N:Nat}{va b:List Int}{r:(List Int)×Bool}(hr:sY N va b=some r):
  Vm.Fn Tryz.prog 129 [] [(.agg (va.map (eI .u64))),(.agg (b.map (eI .u64)))] (.tup [(.agg (r.1.map (eI .u64))),(eB r.2)]) []:=by
 refine zf Tryz.func129 Tryz.ntmps129 ?_
 unfold sY at hr
 refine zz ?_
 refine aQz fun K1 hK1 hG1=> ?_
 have J1: ∀(iY:Int)(l1:List Int),wH N iY l1=some r→K1 (aE 29 [(4,(.ptr 0 0)),(6,(.ptr 1 0)),(7,(eI .u64 iY))]) [some ⟨96,(aQr 4 0).map (eI .u64)⟩,some ⟨96,l1.map (eI .u64)⟩]:=by
  intro iY l1 hr
  unfold wH at hr
  refine hK1 _ _ ?_
  obtain⟨q,h_1,hr⟩:=aA hr
  refine zz ?_
  obtain rfl:=sj hr
  exact mZ Tryz.results129 aW aW (lI [])
 obtain⟨a9,hL2,hr⟩:=aA hr
 refine zz ?_
 refine aQw<|aQG (fun m s h=> ∃(carry_1 x9:Int)(l3:List Int),nA N va b m carry_1 x9 l3=some a9∧Ghost 0 s h (aE 29 [(2,(.ptr 0 0)),(3,(.ptr 1 0)),(4,(.ptr 2 0)),(6,(.ptr 3 0)),(7,(eI .u64 carry_1)),(9,(eI .i64 x9))]) [some ⟨96,va.map (eI .u64)⟩,some ⟨96,b.map (eI .u64)⟩,some ⟨96,(aQr 4 0).map (eI .u64)⟩,some ⟨96,l3.map (eI .u64)⟩]) (n:=N) ⟨0,0,aQr 4 0,hL2,(zG [0,1,2,3])⟩ (by rintro s h ⟨_,_,_,h0,_⟩;simp[nA]at h0) ?_
 rintro m2 s h ⟨carry_1,x9,l3,hr2,hg⟩
 refine aQD hg ?_
 clear hg hL2
 rw[nA]at hr2
 refine zz ?_
 refine aQv ?_
 refine zk hr2 rfl (fun h2 hr2=> ?_) (fun h2 hr2=> ?_)
 ·refine zz ?_
  refine aQv<|aQw ?_
  obtain⟨x15,h_3,hr2⟩:=aA hr2
  obtain⟨x18,h_4,hr2⟩:=aA hr2
  obtain⟨dM,h_5,hr2⟩:=aA hr2
  obtain⟨dO,h_7,hr2⟩:=aA hr2
  refine zz ?_
  refine aQM mixed [128] [] [[0,1,2,3,4,5,6,7,8,9,10,11,12,13,14]] ?_
  refine zz ?_
  refine xu (jB h_5) ?_
  refine zz ?_
  exact⟨dM.2,aQs.wrap (x9+1),l3.set (aQJ x9) dM.1,hr2,(zG [0,1,2,3])⟩
 refine zz ?_
 obtain rfl:=sj hr2
 refine zz ?_
 exact hG1 _ _ _ _ (zG [2,3]) (J1 carry_1 l3 hr)
theorem aCj {N:Nat}{hi lo b:List Int}{r:(List Int)×(List Int)×Bool}(hr:u9 N hi lo b=some r):
  Vm.Fn Tryz.prog 115 [] [(.agg (hi.map (eI .u64))),(.agg (lo.map (eI .u64))),(.agg (b.map (eI .u64)))] (.tup [(.agg (r.1.map (eI .u64))),(.agg (r.2.1.map (eI .u64))),(eB r.2.2)]) []:=by
 refine zf Tryz.func115 Tryz.ntmps115 ?_
 unfold u9 at hr
 refine zz ?_
 refine aQv ?_
 obtain⟨q,h_1,hr⟩:=aA hr
 obtain⟨q_1,h_2,hr⟩:=aA hr
 obtain⟨cB,h_3,hr⟩:=aA hr
 refine zz ?_
 refine xp (p7 h_3) ?_
 refine zz ?_
 refine zk hr rfl (fun h4 hr=> ?_) (fun h4 hr=> ?_)
 ·refine aQv<|AB.rd (eE []) (eE []) mixed<|aQu (n:=4) (i:=0) (by decide +kernel) rfl (gS (v:=(.agg ((aQr 4 0).map (eI .u64)))) (sv (bO rfl (vS (E:=(eI .u64)) (l:=aQr 4 0) bV rfl rfl rfl)))) ?_
  refine aQY (m:=2) (L:=lst [0,1,2] 5) (s1:=aE 61 [(6,(.ptr 0 0)),(7,(.ptr 1 0)),(8,(eB false)),(16,(.agg ((aQr 4 0).map (eI .u64))))]) (h1:=[some ⟨96,(aQr 4 0).map (eI .u64)⟩,some ⟨96,(aQr 4 0).map (eI .u64)⟩]) ?_ (fun J=> ?_)
  ·refine aQu (n:=1) (i:=3) (by decide +kernel) rfl (gN (h':=[some ⟨96,(aQr 4 0).map (eI .u64)⟩,some ⟨96,(aQr 4 0).map (eI .u64)⟩]) (sv (aY rfl rfl (t8 (E:=(eI .u64)) (l:=aQr 4 0) bV rfl rfl (fun _=>rfl) rfl rfl rfl))))<|aQu (n:=0) (i:=4) (by decide +kernel) rfl (gS (v:=(eB false)) (sv (qG rfl)))<|aQW (by decide +kernel) ?_
   refine zz ?_
   obtain rfl:=sj hr
   exact sK Tryz.results115 aW aW aW (lI [])
  refine aQO (n:=3) [1,2] (by decide +kernel) (by decide) ?_
  refine(aQF rfl (gS (v:=(.agg ((aQr 4 0).map (eI .u64)))) (sv (bO rfl (vS (E:=(eI .u64)) (l:=aQr 4 0) bV rfl rfl rfl)))) ?_ (aQF rfl (gN (h':=[some ⟨96,hi.map (eI .u64)⟩,some ⟨96,lo.map (eI .u64)⟩,some ⟨96,b.map (eI .u64)⟩,some ⟨96,(aQr 4 0).map (eI .u64)⟩,some ⟨96,(aQr 4 0).map (eI .u64)⟩]) (sv (aY rfl rfl (t8 (E:=(eI .u64)) (l:=aQr 4 0) bV rfl rfl (fun _=>rfl) rfl rfl rfl)))) ?_ aQS))
  ·refine aQu (n:=2) (i:=2) (by decide +kernel) rfl (gN (h':=[some ⟨96,hi.map (eI .u64)⟩,some ⟨96,lo.map (eI .u64)⟩,some ⟨96,b.map (eI .u64)⟩,some ⟨96,(aQr 4 0).map (eI .u64)⟩,some ⟨96,(aQr 4 0).map (eI .u64)⟩]) (sv (aY rfl rfl (t8 (E:=(eI .u64)) (l:=aQr 4 0) bV rfl rfl (fun _=>rfl) rfl rfl rfl)))) ?_
   exact aQL (by decide +kernel) (by decide +kernel) (zG [3,4]) J
  refine aQu (n:=2) (i:=1) (by decide +kernel) rfl (gS (v:=(.agg ((aQr 4 0).map (eI .u64)))) (sv (bO rfl (vS (E:=(eI .u64)) (l:=aQr 4 0) bV rfl rfl rfl)))) ?_
  exact aQL (by decide +kernel) (by decide +kernel) (zG [3,4]) J
 refine zz ?_
 refine aQz fun K1 hK1 hG1=> ?_
 have J1: ∀(l0 l1:List Int),wA N l0 l1=some r→K1 (aE 61 [(6,(.ptr 0 0)),(7,(.ptr 1 0))]) [some ⟨96,l0.map (eI .u64)⟩,some ⟨96,l1.map (eI .u64)⟩]:=by
  intro l0 l1 hr
  unfold wA at hr
  refine hK1 _ _<|aQv ?_
  obtain⟨q_2,h_5,hr⟩:=aA hr
  obtain⟨q_3,h_6,hr⟩:=aA hr
  refine AB.rd (eE []) (eE []) mixed<|aQu (n:=4) (i:=0) (by decide +kernel) rfl (gS (v:=(.agg (l0.map (eI .u64)))) (sv (bO rfl (vS (E:=(eI .u64)) (l:=l0) bV rfl rfl (aV h_5))))) ?_
  refine aQY (m:=2) (L:=lst [0,1,2] 5) (s1:=aE 61 [(6,(.ptr 0 0)),(7,(.ptr 1 0)),(60,(.agg (l1.map (eI .u64))))]) (h1:=[some ⟨96,l0.map (eI .u64)⟩,some ⟨96,l1.map (eI .u64)⟩]) ?_ (fun J=> ?_)
  ·refine aQu (n:=1) (i:=3) (by decide +kernel) rfl (gN (h':=[some ⟨96,l0.map (eI .u64)⟩,some ⟨96,l1.map (eI .u64)⟩]) (sv (aY rfl rfl (t8 (E:=(eI .u64)) (l:=l1) bV rfl rfl (fun _=>rfl) (aV h_6) (aV h_6) rfl))))<|aQu (n:=0) (i:=4) (by decide +kernel) rfl (gS (v:=(eB true)) (sv (qG rfl)))<|aQW (by decide +kernel) ?_
   refine zz ?_
   obtain rfl:=sj hr
   exact sK Tryz.results115 aW aW aW (lI [])
  refine aQO (n:=3) [1,2] (by decide +kernel) (by decide) ?_
  refine(aQF rfl (gS (v:=(.agg (l1.map (eI .u64)))) (sv (bO rfl (vS (E:=(eI .u64)) (l:=l1) bV rfl rfl (aV h_6))))) ?_ (aQF rfl (gN (h':=[some ⟨96,l0.map (eI .u64)⟩,some ⟨96,l1.map (eI .u64)⟩]) (sv (aY rfl rfl (t8 (E:=(eI .u64)) (l:=l0) bV rfl rfl (fun _=>rfl) (aV h_5) (aV h_5) rfl)))) ?_ aQS))
  ·refine aQu (n:=2) (i:=2) (by decide +kernel) rfl (gN (h':=[some ⟨96,l0.map (eI .u64)⟩,some ⟨96,l1.map (eI .u64)⟩]) (sv (aY rfl rfl (t8 (E:=(eI .u64)) (l:=l0) bV rfl rfl (fun _=>rfl) (aV h_5) (aV h_5) rfl)))) ?_
   exact aQL (by decide +kernel) (by decide +kernel) (zG [0,1]) J
  refine aQu (n:=2) (i:=1) (by decide +kernel) rfl (gS (v:=(.agg (l1.map (eI .u64)))) (sv (bO rfl (vS (E:=(eI .u64)) (l:=l1) bV rfl rfl (aV h_6))))) ?_
  exact aQL (by decide +kernel) (by decide +kernel) (zG [0,1]) J
 obtain⟨a9,hL2,hr⟩:=aA hr
 refine zz ?_
 refine aQw<|aQG (fun m s h=> ∃(vi:Int)(l2 l3:List Int),dX N lo b m vi l2 l3=some a9∧Ghost 0 s h (aE 61 [(4,(.ptr 0 0)),(5,(.ptr 1 0)),(6,(.ptr 2 0)),(7,(.ptr 3 0)),(9,(eI .i64 vi))]) [some ⟨96,lo.map (eI .u64)⟩,some ⟨96,b.map (eI .u64)⟩,some ⟨96,l2.map (eI .u64)⟩,some ⟨96,l3.map (eI .u64)⟩]) (n:=N) ⟨255,aQr 4 0,hi,hL2,(zG [1,2,3,4])⟩ (by rintro s h ⟨_,_,_,h0,_⟩;simp[dX]at h0) ?_
 rintro m2 s h ⟨vi,l2,l3,hr2,hg⟩
 refine aQD hg ?_
 clear hg hL2
 rw[dX]at hr2
 refine aQv ?_
 refine zz ?_
 refine zk hr2 rfl (fun h7 hr2=> ?_) (fun h7 hr2=> ?_)
 ·refine zz ?_
  refine aQz fun K3 hK3 hG3=> ?_
  have J3: ∀(fU jS:List Int),pM N lo b vi (dX N lo b m2) fU jS=some a9→K3 (aE 61 [(4,(.ptr 0 0)),(5,(.ptr 1 0)),(6,(.ptr 2 0)),(7,(.ptr 3 0)),(9,(eI .i64 vi))]) [some ⟨96,lo.map (eI .u64)⟩,some ⟨96,b.map (eI .u64)⟩,some ⟨96,fU.map (eI .u64)⟩,some ⟨96,jS.map (eI .u64)⟩]:=by
   intro fU jS hr2
   unfold pM at hr2
   refine hK3 _ _ ?_
   refine zz ?_
   exact⟨aQs.wrap (vi-1),fU,jS,hr2,(zG [0,1,2,3])⟩
  refine aQw ?_
  obtain⟨q_4,h_8,hr2⟩:=aA hr2
  obtain⟨fR,h_9,hr2⟩:=aA hr2
  refine zz ?_
  refine xp (r7 h_9) ?_
  obtain⟨x27,h_10,hr2⟩:=aA hr2
  obtain⟨q_5,h_11,hr2⟩:=aA hr2
  refine zz ?_
  refine xp (aCK h_10) ?_
  refine zz ?_
  refine aQz fun K4 hK4 hG4=> ?_
  have J4: ∀(gH:List Int),pV N lo b vi l2 fR (dX N lo b m2) gH=some a9→K4 (aE 61 [(4,(.ptr 0 0)),(5,(.ptr 1 0)),(6,(.ptr 2 0)),(7,(.ptr 3 0)),(9,(eI .i64 vi)),(10,(eB fR))]) [some ⟨96,lo.map (eI .u64)⟩,some ⟨96,b.map (eI .u64)⟩,some ⟨96,l2.map (eI .u64)⟩,some ⟨96,gH.map (eI .u64)⟩]:=by
   intro gH hr2
   unfold pV at hr2
   refine hK4 _ _ ?_
   refine aQz fun K5 hK5 hG5=> ?_
   have J5: ∀(x43:Bool),m8 N lo b vi l2 gH (dX N lo b m2) x43=some a9→K5 (aE 61 [(4,(.ptr 0 0)),(5,(.ptr 1 0)),(6,(.ptr 2 0)),(7,(.ptr 3 0)),(9,(eI .i64 vi)),(43,(eB x43))]) [some ⟨96,lo.map (eI .u64)⟩,some ⟨96,b.map (eI .u64)⟩,some ⟨96,l2.map (eI .u64)⟩,some ⟨96,gH.map (eI .u64)⟩]:=by
    intro x43 hr2
    unfold m8 at hr2
    refine hK5 _ _ ?_
    refine zk hr2 rfl (fun h12 hr2=> ?_) (fun h12 hr2=> ?_)
    ·obtain⟨q_6,h_13,hr2⟩:=aA hr2
     obtain⟨x47,h_14,hr2⟩:=aA hr2
     obtain⟨q_7,h_15,hr2⟩:=aA hr2
     refine zz ?_
     refine xp (vQ h_14) ?_
     obtain⟨x52,h_16,hr2⟩:=aA hr2
     obtain⟨x56,h_17,hr2⟩:=aA hr2
     refine zz ?_
     refine aQM mixed [] [] [[0,1,2,3,4,5,6,7,8,9]] ?_
     refine zz ?_
     exact hG3 _ _ _ _ (zG [0,1,2,3]) (J3 (l2.set (aQJ (aQs.wrap (aQ2 vi 64))) (bits .or .u64 x52 x56)) x47.1 hr2)
    refine zz ?_
    exact hG3 _ _ _ _ (zG [0,1,2,3]) (J3 l2 gH hr2)
   rcases aQt fR with h18|h18
   ·replace hr2:=cU hr2 h18
    refine xr ?_
    refine zz ?_
    exact hG5 _ _ _ _ (zG [0,1,2,3]) (J5 true hr2)
   replace hr2:=cQ hr2 h18
   obtain⟨q_8,h_19,hr2⟩:=aA hr2
   obtain⟨x41,h_20,hr2⟩:=aA hr2
   refine xr ?_
   refine zz ?_
   refine wQ (v:=(eI .i64 x41)) (h':=[some ⟨96,lo.map (eI .u64)⟩,some ⟨96,b.map (eI .u64)⟩,some ⟨96,l2.map (eI .u64)⟩,some ⟨96,gH.map (eI .u64)⟩]) rfl rfl h18 rfl (Vm.Fn.pure (p7 h_20) zR rfl) ?_
   refine zz ?_
   exact hG5 _ _ _ _ (zG [0,1,2,3]) (J5 (decide (0≤x41)) hr2)
  obtain⟨q_9,h_21,hr2⟩:=aA hr2
  obtain⟨pR,h_22,hr2⟩:=aA hr2
  refine zz ?_
  refine xp (r7 h_22) ?_
  refine zz ?_
  refine zk hr2 rfl (fun h23 hr2=> ?_) (fun h23 hr2=> ?_)
  ·obtain⟨lC,h_24,hr2⟩:=aA hr2
   refine zz ?_
   exact hG4 _ _ _ _ (zG [0,1,2,3]) (J4 (x27.1.set (aQJ 0) (bits .or .u64 lC 1)) hr2)
  refine zz ?_
  exact hG4 _ _ _ _ (zG [0,1,2,3]) (J4 x27.1 hr2)
 refine zz ?_
 obtain rfl:=sj hr2
 refine zz ?_
 exact hG1 _ _ _ _ (zG [2,3]) (J1 l2 l3 hr)
theorem nS {N:Nat}{va vm:List Int}{r:(List Int)}(hr:jZ N va vm=some r):
  Vm.Fn Tryz.prog 114 [] [(.agg (va.map (eI .u64))),(.agg (vm.map (eI .u64)))] (.agg (r.map (eI .u64))) []:=by
 refine zf Tryz.func114 Tryz.ntmps114 ?_
 unfold jZ at hr
 obtain⟨q,h_1,hr⟩:=aA hr
 obtain⟨q_1,h_2,hr⟩:=aA hr
 obtain⟨dL,h_3,hr⟩:=aA hr
 obtain⟨q_2,h_4,hr⟩:=aA hr
 obtain⟨q_3,h_5,hr⟩:=aA hr
 refine zz ?_
 refine xw (v:=(.agg ([0,0,0,0].map (eI .u64)))) (cH rfl (lY bV kH rfl)) ?_
 refine zz ?_
 refine xp (aCj h_3) ?_
 refine zz ?_
 obtain rfl:=sj hr
 exact eW Tryz.results114 aW (zG [])
theorem aHL {N:Nat}{va:List Int}{r:Int}(hr:aAK N va=some r):
  Vm.Fn Tryz.prog 116 [] [(.agg (va.map (eI .u64)))] (eI .i64 r) []:=by
 refine zf Tryz.func116 Tryz.ntmps116 ?_
 unfold aAK at hr
 refine zz ?_
 refine aQz fun K1 hK1 hG1=> ?_
 have J1:wI N=some r→K1 (aE 13 []) []:=by
  intro hr
  unfold wI at hr
  refine hK1 _ _ ?_
  refine zz ?_
  obtain rfl:=sj hr
  exact bK Tryz.results116 []
 obtain⟨a9,hL2,hr⟩:=aA hr
 refine zz ?_
 refine aQw<|aQG (fun m s h=> ∃(vi:Int),nD N va m vi=some a9∧Ghost 0 s h (aE 13 [(1,(.ptr 0 0)),(3,(eI .i64 vi))]) [some ⟨96,va.map (eI .u64)⟩]) (n:=N) ⟨255,hL2,(zG [0])⟩ (by rintro s h ⟨_,h0,_⟩;simp[nD]at h0) ?_
 rintro m2 s h ⟨vi,hr2,hg⟩
 refine aQD hg ?_
 clear hg hL2
 rw[nD]at hr2
 refine aQv ?_
 refine zz ?_
 refine zk hr2 rfl (fun h1 hr2=> ?_) (fun h1 hr2=> ?_)
 ·refine zz ?_
  refine aQv<|aQw ?_
  obtain⟨q,h_2,hr2⟩:=aA hr2
  obtain⟨cC,h_3,hr2⟩:=aA hr2
  refine zz ?_
  refine xp (r7 h_3) ?_
  refine zz ?_
  refine zk hr2 rfl (fun h4 hr2=> ?_) (fun h4 hr2=> ?_)
  ·refine zz ?_
   obtain rfl:=sj hr2
   obtain rfl:=sj hr
   exact bK Tryz.results116 []
  refine zz ?_
  exact⟨aQs.wrap (vi-1),hr2,(zG [0])⟩
 refine zz ?_
 obtain rfl:=sj hr2
 refine zz ?_
 exact hG1 _ _ _ _ (zG []) (J1 hr)
theorem aHy {N:Nat}{va b:List Int}{r:(List Int)×(List Int)}(hr:yL N va b=some r):
  Vm.Fn Tryz.prog 113 [] [(.agg (va.map (eI .u64))),(.agg (b.map (eI .u64)))] (.tup [(.agg (r.1.map (eI .u64))),(.agg (r.2.map (eI .u64)))]) []:=by
 refine zf Tryz.func113 Tryz.ntmps113 ?_
 unfold yL at hr
 refine zz ?_
 refine aQz fun K1 hK1 hG1=> ?_
 have J1: ∀(l2:List Int),r3 N l2=some r→K1 (aE 71 [(4,(.ptr 0 0)),(5,(.ptr 1 0)),(6,(.ptr 2 0))]) [some ⟨96,(aQr 4 0).map (eI .u64)⟩,some ⟨96,(aQr 4 0).map (eI .u64)⟩,some ⟨131,l2.map (eI .u64)⟩]:=by
  intro l2 hr
  unfold r3 at hr
  refine hK1 _ _<|aQv ?_
  obtain⟨q,h_1,hr⟩:=aA hr
  obtain⟨x64,h_2,hr⟩:=aA hr
  refine aQM mixed [] [] [[0,1,2]] ?_
  refine zz ?_
  refine xw (v:=(.sl 2 (aQJ 0*1) x64.length 1 false)) (b7 rfl rfl rfl (aHC (E:=(eI .u64)) (l:=l2) aC8 kH rfl rfl rfl (aV h_1) zl rfl rfl h_2)) ?_
  refine xw (v:=(eI .i64 ((min x64.length (aQr 4 0).length:Nat):Int))) (h':=[some ⟨96,(aQr 4 0).map (eI .u64)⟩,some ⟨96,(kL (aQr 4 0) x64).map (eI .u64)⟩,some ⟨131,l2.map (eI .u64)⟩]) (aA9 rfl rfl (aEY (E:=(eI .u64)) (l:=aQr 4 0) rfl aJm kH rfl rfl (aOl (l:=l2) rfl (fun _=>rfl) h_2) rfl)) ?_
  refine zz ?_
  refine aQv ?_
  obtain⟨x67,h_3,hr⟩:=aA hr
  refine aQM mixed [] [] [[0,1,2]] ?_
  refine zz ?_
  refine xw (v:=(.sl 2 (aQJ 4*1) x67.length 1 false)) (b7 rfl rfl rfl (aHC (E:=(eI .u64)) (l:=l2) aC8 kH rfl rfl rfl (aV h_1) zl rfl rfl h_3)) ?_
  refine xw (v:=(eI .i64 ((min x67.length (aQr 4 0).length:Nat):Int))) (h':=[some ⟨96,(kL (aQr 4 0) x67).map (eI .u64)⟩,some ⟨96,(kL (aQr 4 0) x64).map (eI .u64)⟩,some ⟨131,l2.map (eI .u64)⟩]) (aA9 rfl rfl (aEY (E:=(eI .u64)) (l:=aQr 4 0) rfl aJm kH rfl rfl (aOl (l:=l2) rfl (fun _=>rfl) h_3) rfl)) ?_
  obtain⟨q_1,h_4,hr⟩:=aA hr
  obtain⟨q_2,h_5,hr⟩:=aA hr
  refine zz ?_
  obtain rfl:=sj hr
  exact mZ Tryz.results113 aW aW (lI [])
 obtain⟨a9,hL2,hr⟩:=aA hr
 refine zz ?_
 refine aQw<|aQG (fun m s h=> ∃(x15:Int)(l4:List Int),jP N va b m x15 l4=some a9∧Ghost 0 s h (aE 71 [(2,(.ptr 0 0)),(3,(.ptr 1 0)),(4,(.ptr 2 0)),(5,(.ptr 3 0)),(6,(.ptr 4 0)),(15,(eI .i64 x15))]) [some ⟨96,va.map (eI .u64)⟩,some ⟨96,b.map (eI .u64)⟩,some ⟨96,(aQr 4 0).map (eI .u64)⟩,some ⟨96,(aQr 4 0).map (eI .u64)⟩,some ⟨131,l4.map (eI .u64)⟩]) (n:=N) ⟨0,aQr 8 0,hL2,(zG [0,1,2,3,4])⟩ (by rintro s h ⟨_,_,h0,_⟩;simp[jP]at h0) ?_
 rintro m2 s h ⟨x15,l4,hr2,hg⟩
 refine aQD hg ?_
 clear hg hL2
 rw[jP]at hr2
 refine zz ?_
 refine aQv ?_
 refine zk hr2 rfl (fun h6 hr2=> ?_) (fun h6 hr2=> ?_)
 ·refine zz ?_
  refine aQz fun K3 hK3 hG3=> ?_
  have J3: ∀(pS:List Int),wL N va b x15 (jP N va b m2) pS=some a9→K3 (aE 71 [(2,(.ptr 0 0)),(3,(.ptr 1 0)),(4,(.ptr 2 0)),(5,(.ptr 3 0)),(6,(.ptr 4 0)),(15,(eI .i64 x15))]) [some ⟨96,va.map (eI .u64)⟩,some ⟨96,b.map (eI .u64)⟩,some ⟨96,(aQr 4 0).map (eI .u64)⟩,some ⟨96,(aQr 4 0).map (eI .u64)⟩,some ⟨131,pS.map (eI .u64)⟩]:=by
   intro pS hr2
   unfold wL at hr2
   refine hK3 _ _ ?_
   refine zz ?_
   exact⟨aQs.wrap (x15+1),pS,hr2,(zG [0,1,2,3,4])⟩
  refine aQw ?_
  refine zz ?_
  refine aQz fun K4 hK4 hG4=> ?_
  have J4: ∀(iY:Int)(uX:List Int),vT N va b x15 (jP N va b m2) iY uX=some a9→K4 (aE 71 [(2,(.ptr 0 0)),(3,(.ptr 1 0)),(4,(.ptr 2 0)),(5,(.ptr 3 0)),(6,(.ptr 4 0)),(7,(eI .i64 x15)),(8,(eI .u64 iY)),(15,(eI .i64 x15))]) [some ⟨96,va.map (eI .u64)⟩,some ⟨96,b.map (eI .u64)⟩,some ⟨96,(aQr 4 0).map (eI .u64)⟩,some ⟨96,(aQr 4 0).map (eI .u64)⟩,some ⟨131,uX.map (eI .u64)⟩]:=by
   intro iY uX hr2
   unfold vT at hr2
   refine hK4 _ _ ?_
   obtain⟨x61,h_7,hr2⟩:=aA hr2
   refine zz ?_
   exact hG3 _ _ _ _ (zG [0,1,2,3,4]) (J3 (uX.set (aQJ (aQs.wrap (x15+4))) iY) hr2)
  obtain⟨res5,hL5,hr2⟩:=aA hr2
  refine zz ?_
  refine aQw<|aQG (fun m s h=> ∃(carry_1 x18:Int)(l4_3:List Int),mV N va b x15 m carry_1 x18 l4_3=some res5∧Ghost 0 s h (aE 71 [(2,(.ptr 0 0)),(3,(.ptr 1 0)),(4,(.ptr 2 0)),(5,(.ptr 3 0)),(6,(.ptr 4 0)),(7,(eI .i64 x15)),(8,(eI .u64 carry_1)),(15,(eI .i64 x15)),(18,(eI .i64 x18))]) [some ⟨96,va.map (eI .u64)⟩,some ⟨96,b.map (eI .u64)⟩,some ⟨96,(aQr 4 0).map (eI .u64)⟩,some ⟨96,(aQr 4 0).map (eI .u64)⟩,some ⟨131,l4_3.map (eI .u64)⟩]) (n:=N) ⟨0,0,l4,hL5,(zG [0,1,2,3,4])⟩ (by rintro s h ⟨_,_,_,h0,_⟩;simp[mV]at h0) ?_
  rintro m5 s h ⟨carry_1,x18,l4_3,hr5,hg⟩
  refine aQD hg ?_
  clear hg hL5
  rw[mV]at hr5
  refine zz ?_
  refine aQv ?_
  refine zk hr5 rfl (fun h8 hr5=> ?_) (fun h8 hr5=> ?_)
  ·refine zz ?_
   refine aQv<|aQw ?_
   refine zz ?_
   refine aQv ?_
   obtain⟨fR,h_9,hr5⟩:=aA hr5
   obtain⟨x26,h_10,hr5⟩:=aA hr5
   obtain⟨x28,h_11,hr5⟩:=aA hr5
   refine aQM mixed [127] [] [[0,1,2,3,4,5,6,7,8,9,10,11]] ?_
   refine zz ?_
   refine xu (yM h_11) ?_
   obtain⟨x35,h_13,hr5⟩:=aA hr5
   obtain⟨x38,h_14,hr5⟩:=aA hr5
   refine zz ?_
   refine xp (jB h_14) ?_
   obtain⟨x44,h_15,hr5⟩:=aA hr5
   refine zz ?_
   refine xp (jB h_15) ?_
   refine zz ?_
   exact⟨IntKind.u64.wrap ((IntKind.u64.wrap (x28.1+x38.2))+x44.2),aQs.wrap (x18+1),l4_3.set (aQJ (aQs.wrap (x15+x18))) x44.1,hr5,(zG [0,1,2,3,4])⟩
  refine zz ?_
  obtain rfl:=sj hr5
  refine zz ?_
  exact hG4 _ _ _ _ (zG [0,1,2,3,4]) (J4 carry_1 l4_3 hr2)
 refine zz ?_
 obtain rfl:=sj hr2
 refine zz ?_
 exact hG1 _ _ _ _ (zG [2,3,4]) (J1 l4 hr)
theorem wK {N:Nat}{va b vm:List Int}{r:(List Int)}(hr:mK N va b vm=some r):
  Vm.Fn Tryz.prog 98 [] [(.agg (va.map (eI .u64))),(.agg (b.map (eI .u64))),(.agg (vm.map (eI .u64)))] (.agg (r.map (eI .u64))) []:=by
 refine zf Tryz.func98 Tryz.ntmps98 ?_
 unfold mK at hr
 refine zz ?_
 refine aQv ?_
 obtain⟨q,h_1,hr⟩:=aA hr
 obtain⟨cB,h_2,hr⟩:=aA hr
 refine zz ?_
 refine xp (nH h_2) ?_
 refine zz ?_
 refine zk hr rfl (fun h3 hr=> ?_) (fun h3 hr=> ?_)
 ·refine zz ?_
  obtain rfl:=sj hr
  exact eW Tryz.results98 aW (zG [])
 refine zz ?_
 refine aQv ?_
 obtain⟨q_1,h_4,hr⟩:=aA hr
 obtain⟨x18,h_5,hr⟩:=aA hr
 obtain⟨q_2,h_7,hr⟩:=aA hr
 obtain⟨dM,h_8,hr⟩:=aA hr
 obtain⟨bN,h_10,hr⟩:=aA hr
 obtain⟨q_3,h_12,hr⟩:=aA hr
 obtain⟨q_4,h_13,hr⟩:=aA hr
 refine AB.rd (eE [113,114]) (eE []) mixed<|aQu (n:=13) (i:=0) (by decide +kernel) rfl (gS (v:=(.agg (va.map (eI .u64)))) (sv (bO rfl (vS (E:=(eI .u64)) (l:=va) bV rfl rfl (aV h_4)))))<|aQu (n:=12) (i:=1) (by decide +kernel) rfl (gS (v:=(.agg (vm.map (eI .u64)))) (sv (bO rfl (vS (E:=(eI .u64)) (l:=vm) bV rfl rfl (aV h_1)))))<|aQu (n:=11) (i:=2) (by decide +kernel) rfl (gU (fun _=>(Vm.Fn.pure (nS h_5) zR zR)) rfl (sv (m9 rfl r5)))<|aQu (n:=10) (i:=3) (by decide +kernel) rfl (gS (v:=(.agg (b.map (eI .u64)))) (sv (bO rfl (vS (E:=(eI .u64)) (l:=b) bV rfl rfl (aV h_7))))) ?_
 refine aQu (n:=9) (i:=4) (by decide +kernel) rfl (gS (v:=(.agg (vm.map (eI .u64)))) (sv (bO rfl (vS (E:=(eI .u64)) (l:=vm) bV rfl rfl (aV h_1)))))<|aQu (n:=8) (i:=5) (by decide +kernel) rfl (gU (fun _=>(Vm.Fn.pure (nS h_8) zR zR)) rfl (sv (m9 rfl r5)))<|aQu (n:=7) (i:=6) (by decide +kernel) rfl (gU (fun _=>(Vm.Fn.pure (aHy h_10) zR zR)) rfl (sv (m9 rfl r5)))<|aQu (n:=6) (i:=7) (by decide +kernel) rfl (gS (v:=(.tup [(.agg (bN.1.map (eI .u64))),(.agg (bN.2.map (eI .u64)))])) (sv (kK rfl)))<|aQu (n:=5) (i:=8) (by decide +kernel) rfl (gS (v:=(.agg (bN.1.map (eI .u64)))) (sv (aC5 rfl rfl))) ?_
 refine aQu (n:=4) (i:=9) (by decide +kernel) rfl (gS (v:=(.agg (bN.2.map (eI .u64)))) (sv (aC5 rfl rfl))) ?_
 refine aQY (m:=1) (L:=lst [0,1,2,3,4,5,6,7,8,9,10,11,12] 14) (s1:=aE 34 [(5,(.ptr 0 0)),(6,(.ptr 1 0)),(7,(.ptr 2 0)),(8,(.ptr 3 0)),(24,(.agg (bN.2.map (eI .u64))))]) (h1:=[some ⟨96,vm.map (eI .u64)⟩,some ⟨96,(aQr 4 0).map (eI .u64)⟩,some ⟨96,bN.1.map (eI .u64)⟩,some ⟨96,(aQr 4 0).map (eI .u64)⟩]) ?_ (fun J=> ?_)
 ·refine aQu (n:=0) (i:=13) (by decide +kernel) rfl (gN (h':=[some ⟨96,vm.map (eI .u64)⟩,some ⟨96,(aQr 4 0).map (eI .u64)⟩,some ⟨96,bN.1.map (eI .u64)⟩,some ⟨96,bN.2.map (eI .u64)⟩]) (sv (aY rfl rfl (t8 (E:=(eI .u64)) (l:=aQr 4 0) bV rfl rfl (fun _=>rfl) rfl (aV h_13) rfl))))<|aQW (by decide +kernel) ?_
  obtain⟨x29,h_14,hr⟩:=aA hr
  obtain⟨q_5,h_15,hr⟩:=aA hr
  obtain⟨q_6,h_16,hr⟩:=aA hr
  refine zz ?_
  refine xp (aCj h_14) ?_
  refine zz ?_
  obtain rfl:=sj hr
  exact eW Tryz.results98 aW (zG [])
 refine aQO (n:=3) [10,11] (by decide +kernel) (by decide) ?_
 refine(aQF rfl (gS (v:=(.ptr 4 0)) (h':=[some ⟨96,va.map (eI .u64)⟩,some ⟨96,b.map (eI .u64)⟩,some ⟨96,vm.map (eI .u64)⟩,some ⟨96,(aQr 4 0).map (eI .u64)⟩,some ⟨96,(aQr 4 0).map (eI .u64)⟩]) (sv (iL bV rfl rfl rfl))) ?_ (aQF rfl (gS (v:=(.ptr 4 0)) (h':=[some ⟨96,va.map (eI .u64)⟩,some ⟨96,b.map (eI .u64)⟩,some ⟨96,vm.map (eI .u64)⟩,some ⟨96,(aQr 4 0).map (eI .u64)⟩,some ⟨96,(aQr 4 0).map (eI .u64)⟩]) (sv (iL bV rfl rfl rfl))) ?_ aQS))
 ·refine aQu (n:=2) (i:=11) (by decide +kernel) rfl (gS (v:=(.ptr 5 0)) (h':=[some ⟨96,va.map (eI .u64)⟩,some ⟨96,b.map (eI .u64)⟩,some ⟨96,vm.map (eI .u64)⟩,some ⟨96,(aQr 4 0).map (eI .u64)⟩,some ⟨96,(aQr 4 0).map (eI .u64)⟩,some ⟨96,(aQr 4 0).map (eI .u64)⟩]) (sv (iL bV rfl rfl rfl)))<|aQu (n:=1) (i:=12) (by decide +kernel) rfl (gN (h':=[some ⟨96,va.map (eI .u64)⟩,some ⟨96,b.map (eI .u64)⟩,some ⟨96,vm.map (eI .u64)⟩,some ⟨96,(aQr 4 0).map (eI .u64)⟩,some ⟨96,bN.1.map (eI .u64)⟩,some ⟨96,(aQr 4 0).map (eI .u64)⟩]) (sv (aY rfl rfl (t8 (E:=(eI .u64)) (l:=aQr 4 0) bV rfl rfl (fun _=>rfl) rfl (aV h_12) rfl)))) ?_
  exact aQL (by decide +kernel) (by decide +kernel) (zG [2,3,4,5]) J
 refine aQu (n:=2) (i:=10) (by decide +kernel) rfl (gS (v:=(.ptr 5 0)) (h':=[some ⟨96,va.map (eI .u64)⟩,some ⟨96,b.map (eI .u64)⟩,some ⟨96,vm.map (eI .u64)⟩,some ⟨96,(aQr 4 0).map (eI .u64)⟩,some ⟨96,(aQr 4 0).map (eI .u64)⟩,some ⟨96,(aQr 4 0).map (eI .u64)⟩]) (sv (iL bV rfl rfl rfl)))<|aQu (n:=1) (i:=12) (by decide +kernel) rfl (gN (h':=[some ⟨96,va.map (eI .u64)⟩,some ⟨96,b.map (eI .u64)⟩,some ⟨96,vm.map (eI .u64)⟩,some ⟨96,(aQr 4 0).map (eI .u64)⟩,some ⟨96,(aQr 4 0).map (eI .u64)⟩,some ⟨96,bN.1.map (eI .u64)⟩]) (sv (aY rfl rfl (t8 (E:=(eI .u64)) (l:=aQr 4 0) bV rfl rfl (fun _=>rfl) rfl (aV h_12) rfl)))) ?_
 exact aQL (by decide +kernel) (by decide +kernel) (zG [2,3,5,4]) J
theorem aEp {N:Nat}{va ve vm:List Int}{r:(List Int)}(hr:sX N va ve vm=some r):
  Vm.Fn Tryz.prog 99 [] [(.agg (va.map (eI .u64))),(.agg (ve.map (eI .u64))),(.agg (vm.map (eI .u64)))] (.agg (r.map (eI .u64))) []:=by
 refine zf Tryz.func99 Tryz.ntmps99 ?_
 unfold sX at hr
 refine zz ?_
 refine aQv ?_
 obtain⟨q,h_1,hr⟩:=aA hr
 obtain⟨cC,h_2,hr⟩:=aA hr
 refine zz ?_
 refine xp (nH h_2) ?_
 refine zz ?_
 refine zk hr rfl (fun h3 hr=> ?_) (fun h3 hr=> ?_)
 ·refine zz ?_
  obtain rfl:=sj hr
  exact eW Tryz.results99 aW (zG [])
 refine zz ?_
 refine aQv ?_
 obtain⟨dL,h_4,hr⟩:=aA hr
 obtain⟨bH,h_6,hr⟩:=aA hr
 obtain⟨q_1,h_8,hr⟩:=aA hr
 refine aQM mixed [76,114] [] [[0,1,2,3,4]]<|xu (j7 h_4) ?_
 refine zz ?_
 refine xu (nS h_6) ?_
 refine zz ?_
 refine aQz fun K1 hK1 hG1=> ?_
 have J1: ∀(l1:List Int),wD N l1=some r→K1 (aE 34 [(6,(.ptr 0 0)),(7,(.ptr 1 0))]) [some ⟨96,(aQr 4 0).map (eI .u64)⟩,some ⟨96,l1.map (eI .u64)⟩]:=by
  intro l1 hr
  unfold wD at hr
  refine hK1 _ _ ?_
  obtain⟨q_2,h_9,hr⟩:=aA hr
  refine zz ?_
  obtain rfl:=sj hr
  exact eW Tryz.results99 aW (zG [])
 obtain⟨q_3,h_10,hr⟩:=aA hr
 obtain⟨x16,h_11,hr⟩:=aA hr
 refine zz ?_
 refine xp (aHL h_11) ?_
 obtain⟨a9,hL2,hr⟩:=aA hr
 refine zz ?_
 refine aQw<|aQG (fun m s h=> ∃(vi:Int)(l4:List Int),fO N va ve vm m vi l4=some a9∧Ghost 0 s h (aE 34 [(3,(.ptr 0 0)),(4,(.ptr 1 0)),(5,(.ptr 2 0)),(6,(.ptr 3 0)),(7,(.ptr 4 0)),(8,(eI .i64 vi))]) [some ⟨96,va.map (eI .u64)⟩,some ⟨96,ve.map (eI .u64)⟩,some ⟨96,vm.map (eI .u64)⟩,some ⟨96,(aQr 4 0).map (eI .u64)⟩,some ⟨96,l4.map (eI .u64)⟩]) (n:=N) ⟨aQs.wrap (x16-1),bH,hL2,(zG [0,1,2,3,4])⟩ (by rintro s h ⟨_,_,h0,_⟩;simp[fO]at h0) ?_
 rintro m2 s h ⟨vi,l4,hr2,hg⟩
 refine aQD hg ?_
 clear hg hL2
 rw[fO]at hr2
 refine aQv ?_
 refine zz ?_
 refine zk hr2 rfl (fun h12 hr2=> ?_) (fun h12 hr2=> ?_)
 ·refine zz ?_
  refine aQz fun K3 hK3 hG3=> ?_
  have J3: ∀(pS:List Int),lF N va ve vm vi (fO N va ve vm m2) pS=some a9→K3 (aE 34 [(3,(.ptr 0 0)),(4,(.ptr 1 0)),(5,(.ptr 2 0)),(6,(.ptr 3 0)),(7,(.ptr 4 0)),(8,(eI .i64 vi))]) [some ⟨96,va.map (eI .u64)⟩,some ⟨96,ve.map (eI .u64)⟩,some ⟨96,vm.map (eI .u64)⟩,some ⟨96,(aQr 4 0).map (eI .u64)⟩,some ⟨96,pS.map (eI .u64)⟩]:=by
   intro pS hr2
   unfold lF at hr2
   refine hK3 _ _ ?_
   refine zz ?_
   exact⟨aQs.wrap (vi-1),pS,hr2,(zG [0,1,2,3,4])⟩
  refine aQw ?_
  obtain⟨q_4,h_13,hr2⟩:=aA hr2
  obtain⟨x25,h_14,hr2⟩:=aA hr2
  obtain⟨q_5,h_15,hr2⟩:=aA hr2
  refine zz ?_
  refine xp (wK h_14) ?_
  obtain⟨x28,h_16,hr2⟩:=aA hr2
  refine zz ?_
  refine xp (r7 h_16) ?_
  refine zz ?_
  refine zk hr2 rfl (fun h17 hr2=> ?_) (fun h17 hr2=> ?_)
  ·obtain⟨q_6,h_18,hr2⟩:=aA hr2
   obtain⟨pR,h_19,hr2⟩:=aA hr2
   obtain⟨q_7,h_20,hr2⟩:=aA hr2
   refine zz ?_
   refine xp (wK h_19) ?_
   refine zz ?_
   exact hG3 _ _ _ _ (zG [0,1,2,3,4]) (J3 pR hr2)
  refine zz ?_
  exact hG3 _ _ _ _ (zG [0,1,2,3,4]) (J3 x25 hr2)
 refine zz ?_
 obtain rfl:=sj hr2
 refine zz ?_
 exact hG1 _ _ _ _ (zG [3,4]) (J1 l4 hr)
theorem aAq {N:Nat}{va ve:List Int}{r:(List Int)}(hr:qA N va ve=some r):
  Vm.Fn Tryz.prog 83 [] [(.agg (va.map (eI .u64))),(.agg (ve.map (eI .u64)))] (.agg (r.map (eI .u64))) []:=by
 refine zf Tryz.func83 Tryz.ntmps83 ?_
 unfold qA at hr
 refine zz ?_
 refine aQv ?_
 obtain⟨q,h_1,hr⟩:=aA hr
 obtain⟨q_1,h_2,hr⟩:=aA hr
 obtain⟨x7,h_3,hr⟩:=aA hr
 obtain⟨x8,h_5,hr⟩:=aA hr
 obtain⟨q_2,h_7,hr⟩:=aA hr
 refine aQM mixed [94,99] [] [[0,1,2,3,4]] ?_
 refine zz ?_
 refine xu (nC h_3)<|xu (aEp h_5) ?_
 refine zz ?_
 obtain rfl:=sj hr
 exact eW Tryz.results83 aW (zG [])
theorem aHo {N:Nat}{r:(List Int)}(hr:aAL N=some r):
  Vm.Fn Tryz.prog 95 [] [] (.agg (r.map (eI .u64))) []:=by
 refine zf Tryz.func95 Tryz.ntmps95 ?_
 unfold aAL at hr
 obtain⟨x1,h_1,hr⟩:=aA hr
 obtain⟨q,h_2,hr⟩:=aA hr
 refine zz ?_
 refine xp (j7 h_1) ?_
 refine zz ?_
 obtain rfl:=sj hr
 exact eW Tryz.results95 aW (zG [])
theorem aD1 {N:Nat}{va:List Int}{r:Bool}(hr:rM N va=some r):
  Vm.Fn Tryz.prog 77 [] [(.agg (va.map (eI .u64)))] (eB r) []:=by
 refine zf Tryz.func77 Tryz.ntmps77 ?_
 unfold rM at hr
 refine zz ?_
 refine aQz fun K1 hK1 hG1=> ?_
 have J1: ∀(x2:Bool),oN N x2=some r→K1 (aE 19 [(2,(eB x2))]) []:=by
  intro x2 hr
  unfold oN at hr
  refine hK1 _ _ ?_
  refine zz ?_
  obtain rfl:=sj hr
  exact bK Tryz.results77 []
 obtain⟨q,h_1,hr⟩:=aA hr
 obtain⟨x4,h_2,hr⟩:=aA hr
 rcases aQt (!x4)with h4|h4
 ·replace hr:=cU hr h4
  obtain⟨x8,h_5,hr⟩:=aA hr
  obtain⟨x9,h_7,hr⟩:=aA hr
  rcases aQt (decide (x9<0))with h9|h9
  ·replace hr:=cU hr h9
   obtain⟨bH,h_10,hr⟩:=aA hr
   obtain⟨x15,h_12,hr⟩:=aA hr
   obtain⟨x16,h_14,hr⟩:=aA hr
   obtain⟨q_1,h_16,hr⟩:=aA hr
   obtain⟨q_2,h_17,hr⟩:=aA hr
   refine aQM mixed [80,83,92,93,94,95] [] [[0,1,2,3,4,5,6,7,8,9,10,11,12,13,14,15,16]] ?_
   refine zz ?_
   refine xu (nH h_2) ?_
   refine zz ?_
   refine xu (nC h_5)<|xu (p7 h_7) ?_
   refine zz ?_
   refine xu (tJ h_10)<|xu (aAq h_12)<|xu (aHo h_14) ?_
   refine zz ?_
   exact hG1 _ _ _ _ (zG []) (J1 (x15 == x16) hr)
  replace hr:=cQ hr h9
  refine aQM mixed [80,83,92,93,94,95] [] [[0,1,2,3,4,5,6,7,8,9,10,11,12,13,14,15,16]] ?_
  refine zz ?_
  refine xu (nH h_2) ?_
  refine zz ?_
  refine xu (nC h_5)<|xu (p7 h_7) ?_
  refine zz ?_
  exact hG1 _ _ _ _ (zG []) (J1 false hr)
 replace hr:=cQ hr h4
 refine aQM mixed [80,83,92,93,94,95] [] [[0,1,2,3,4,5,6,7,8,9,10,11,12,13,14,15,16]] ?_
 refine zz ?_
 refine xu (nH h_2) ?_
 refine zz ?_
 refine xX rfl<|xX rfl<|xX rfl<|xX rfl<|xX rfl ?_
 refine zz ?_
 exact hG1 _ _ _ _ (zG []) (J1 false hr)
theorem s9 {N:Nat}{p:List Int}{r:Bool}(hr:qX N p=some r):
  Vm.Fn Tryz.prog 65 [] [(.agg (p.map (eI .u64)))] (eB r) []:=by
 refine zf Tryz.func65 Tryz.ntmps65 ?_
 unfold qX at hr
 refine zz ?_
 refine aQz fun K1 hK1 hG1=> ?_
 have J1: ∀(x2:Bool),tM N x2=some r→K1 (aE 10 [(2,(eB x2))]) []:=by
  intro x2 hr
  unfold tM at hr
  refine hK1 _ _ ?_
  refine zz ?_
  obtain rfl:=sj hr
  exact bK Tryz.results65 []
 obtain⟨q,h_1,hr⟩:=aA hr
 obtain⟨x4,h_2,hr⟩:=aA hr
 obtain⟨q_1,h_4,hr⟩:=aA hr
 rcases aQt (!(p == x4))with h5|h5
 ·replace hr:=cU hr h5
  obtain⟨x8,h_6,hr⟩:=aA hr
  refine aQM mixed [76,77] [] [[0,1,2,3,4,5,6,7]] ?_
  refine zz ?_
  refine xu (j7 h_2) ?_
  refine zz ?_
  refine xu (aD1 h_6) ?_
  refine zz ?_
  exact hG1 _ _ _ _ (zG []) (J1 x8 hr)
 replace hr:=cQ hr h5
 refine aQM mixed [76,77] [] [[0,1,2,3,4,5,6,7]] ?_
 refine zz ?_
 refine xu (j7 h_2) ?_
 refine zz ?_
 exact hG1 _ _ _ _ (zG []) (J1 false hr)
theorem mE {N:Nat}{va:List Int}{r:Bool}(hr:l7 N va=some r):
  Vm.Fn Tryz.prog 78 [] [(.agg (va.map (eI .u64)))] (eB r) []:=by
 refine zf Tryz.func78 Tryz.ntmps78 ?_
 unfold l7 at hr
 refine zz ?_
 refine aQv ?_
 obtain⟨q,h_1,hr⟩:=aA hr
 obtain⟨x4,h_2,hr⟩:=aA hr
 obtain⟨x5,h_4,hr⟩:=aA hr
 refine aQM mixed [80,93] [] [[0,1,2,3,4]] ?_
 refine zz ?_
 refine xu (tJ h_2)<|xu (p7 h_4) ?_
 refine zz ?_
 obtain rfl:=sj hr
 exact bK Tryz.results78 []
theorem aEB {N:Nat}{b:List Int}{r:(List Int)×(List Int)×Int}(hr:sC N b=some r):
  Vm.Fn Tryz.prog 66 [] [(.row none 1 (b.map (eI .u8)))] (.tup [(.agg (cA (eI .u64) r.1 (cA (eI .u64) r.2.1 []))),(eI .i64 r.2.2)]) []:=by
 refine zf Tryz.func66 Tryz.ntmps66 ?_
 unfold sC at hr
 refine zz ?_
 refine xw (v:=(.ptr 0 0)) (h':=[some ⟨100,(cA (eI .u64) (aQr 4 0) (cA (eI .u64) (aQr 4 0) []))⟩]) (iL nT rfl rfl rfl) ?_
 refine zz ?_
 refine aQv ?_
 refine zz ?_
 refine zk hr rfl (fun h1 hr=> ?_) (fun h1 hr=> ?_)
 ·refine zz ?_
  refine xw (v:=(.agg (cA (eI .u64) (aQr 4 0) (cA (eI .u64) (aQr 4 0) [])))) (cH rfl (aA6 nT aBv rfl)) ?_
  refine zz ?_
  obtain rfl:=sj hr
  exact mZ Tryz.results66 aW aW (zG [])
 refine zz ?_
 refine aQv ?_
 obtain⟨cB,h_2,hr⟩:=aA hr
 refine aQM mixed [] [] [[0,1,2,3]] ?_
 refine zz ?_
 refine xw (v:=(eI .i64 ((min cB.length (aQr 32 0).length:Nat):Int))) (h':=[some ⟨100,(cA (eI .u64) (aQr 4 0) (cA (eI .u64) (aQr 4 0) []))⟩,some ⟨25,(kL (aQr 32 0) cB).map (eI .u8)⟩,some ⟨25,(aQr 32 0).map (eI .u8)⟩]) (aA9 rfl rfl (aEY (E:=(eI .u8)) (l:=aQr 32 0) rfl cI dA rfl rfl (aA4 (fun _=>rfl)) rfl)) ?_
 refine zz ?_
 refine aQv ?_
 obtain⟨x17,h_3,hr⟩:=aA hr
 refine aQM mixed [] [] [[0,1,2,3]] ?_
 refine zz ?_
 refine xw (v:=(eI .i64 ((min x17.length (aQr 32 0).length:Nat):Int))) (h':=[some ⟨100,(cA (eI .u64) (aQr 4 0) (cA (eI .u64) (aQr 4 0) []))⟩,some ⟨25,(kL (aQr 32 0) cB).map (eI .u8)⟩,some ⟨25,(kL (aQr 32 0) x17).map (eI .u8)⟩]) (aA9 rfl rfl (aEY (E:=(eI .u8)) (l:=aQr 32 0) rfl cI dA rfl rfl (aA4 (fun _=>rfl)) rfl)) ?_
 refine zz ?_
 refine aQv ?_
 obtain⟨q,h_4,hr⟩:=aA hr
 obtain⟨bI,h_5,hr⟩:=aA hr
 obtain⟨q_1,h_7,hr⟩:=aA hr
 obtain⟨bN,h_8,hr⟩:=aA hr
 obtain⟨q_2,h_10,hr⟩:=aA hr
 obtain⟨q_3,h_11,hr⟩:=aA hr
 refine aQM mixed [64] [] [[0,1,2,3,4,5,6]] ?_
 refine zz ?_
 refine xu (oH h_5) ?_
 refine zz ?_
 refine xu (oH h_8)<|xw (v:=(.agg (cA (eI .u64) bI (cA (eI .u64) bN [])))) (cH rfl (aNW (ps':=[(0,(.agg (cA (eI .u64) bI []))),(1,(.agg (cA (eI .u64) bN [])))]) (by simp only[aBg (l:=bI) (aV h_10),aBg (l:=bN) (aV h_11)]) (aA6 nT aBv rfl)))<|xw (v:=(.ptr 3 0)) (h':=[some ⟨100,(cA (eI .u64) (aQr 4 0) (cA (eI .u64) (aQr 4 0) []))⟩,some ⟨25,(kL (aQr 32 0) cB).map (eI .u8)⟩,some ⟨25,(kL (aQr 32 0) x17).map (eI .u8)⟩,some ⟨100,(cA (eI .u64) (aQr 4 0) (cA (eI .u64) (aQr 4 0) []))⟩]) (iL nT rfl rfl rfl) ?_
 refine zz ?_
 refine aQv ?_
 refine aQz fun K1 hK1 hG1=> ?_
 have J1: ∀(lC:Bool),rH N bI bN lC=some r→K1 (aE 36 [(2,(.ptr 0 0)),(6,(.ptr 1 0)),(33,(eB lC))]) [some ⟨100,(cA (eI .u64) (aQr 4 0) (cA (eI .u64) (aQr 4 0) []))⟩,some ⟨100,(cA (eI .u64) bI (cA (eI .u64) bN []))⟩]:=by
  intro lC hr
  unfold rH at hr
  refine hK1 _ _ ?_
  refine zk hr rfl (fun h12 hr=> ?_) (fun h12 hr=> ?_)
  ·refine zz ?_
   refine xw (v:=(.agg (cA (eI .u64) (aQr 4 0) (cA (eI .u64) (aQr 4 0) [])))) (cH rfl (aA6 nT aBv rfl)) ?_
   refine zz ?_
   obtain rfl:=sj hr
   exact mZ Tryz.results66 aW aW (zG [])
  refine zz ?_
  obtain rfl:=sj hr
  exact mZ Tryz.results66 aW aW (zG [])
 obtain⟨x26,h_13,hr⟩:=aA hr
 rcases aQt (!x26)with h14|h14
 ·replace hr:=cU hr h14
  refine xr ?_
  refine zz ?_
  refine xp (mE h_13) ?_
  refine zz ?_
  exact hG1 _ _ _ _ (zG [0,3]) (J1 true hr)
 replace hr:=cQ hr h14
 obtain⟨dD,h_15,hr⟩:=aA hr
 refine xr ?_
 refine zz ?_
 refine xp (mE h_13) ?_
 refine zz ?_
 refine wQ (v:=(eB dD)) (h':=[some ⟨100,(cA (eI .u64) (aQr 4 0) (cA (eI .u64) (aQr 4 0) []))⟩,some ⟨25,(kL (aQr 32 0) cB).map (eI .u8)⟩,some ⟨25,(kL (aQr 32 0) x17).map (eI .u8)⟩,some ⟨100,(cA (eI .u64) bI (cA (eI .u64) bN []))⟩]) rfl rfl h14 rfl (Vm.Fn.pure (mE h_15) zR rfl) ?_
 refine zz ?_
 exact hG1 _ _ _ _ (zG [0,3]) (J1 (!dD) hr)
theorem aFF {N:Nat}{ve:List Int}{r:(List Int)}(hr:uD N ve=some r):
  Vm.Fn Tryz.prog 82 [] [(.agg (ve.map (eI .u64)))] (.agg (r.map (eI .u64))) []:=by
 refine zf Tryz.func82 Tryz.ntmps82 ?_
 unfold uD at hr
 refine zz ?_
 refine aQv ?_
 obtain⟨x3,h_1,hr⟩:=aA hr
 obtain⟨q,h_3,hr⟩:=aA hr
 obtain⟨x5,h_4,hr⟩:=aA hr
 obtain⟨q_1,h_6,hr⟩:=aA hr
 refine aQM mixed [76,83] [] [[0,1,2,3]]<|xu (j7 h_1) ?_
 refine zz ?_
 refine xu (aAq h_4) ?_
 refine zz ?_
 obtain rfl:=sj hr
 exact eW Tryz.results82 aW (zG [])
theorem aHD {N:Nat}{va b:List Int}{r:(List Int)}(hr:yJ N va b=some r):
  Vm.Fn Tryz.prog 81 [] [(.agg (va.map (eI .u64))),(.agg (b.map (eI .u64)))] (.agg (r.map (eI .u64))) []:=by
 refine zf Tryz.func81 Tryz.ntmps81 ?_
 unfold yJ at hr
 refine zz ?_
 refine aQv ?_
 obtain⟨q,h_1,hr⟩:=aA hr
 obtain⟨q_1,h_2,hr⟩:=aA hr
 obtain⟨x7,h_3,hr⟩:=aA hr
 obtain⟨x8,h_5,hr⟩:=aA hr
 obtain⟨q_2,h_7,hr⟩:=aA hr
 refine aQM mixed [94,98] [] [[0,1,2,3,4]] ?_
 refine zz ?_
 refine xu (nC h_3)<|xu (wK h_5) ?_
 refine zz ?_
 obtain rfl:=sj hr
 exact eW Tryz.results81 aW (zG [])
theorem aE6 {N:Nat}{va:List Int}{r:(List Int)}(hr:uM N va=some r):
  Vm.Fn Tryz.prog 118 [] [(.agg (va.map (eI .u64)))] (.agg (r.map (eI .u8))) []:=by
 refine zf Tryz.func118 Tryz.ntmps118 ?_
 unfold uM at hr
 refine zz ?_
 refine aQz fun K1 hK1 hG1=> ?_
 have J1: ∀(l1:List Int),wZ N l1=some r→K1 (aE 24 [(2,(.ptr 0 0)),(3,(.ptr 1 0))]) [some ⟨25,(aQr 32 0).map (eI .u8)⟩,some ⟨25,l1.map (eI .u8)⟩]:=by
  intro l1 hr
  unfold wZ at hr
  refine hK1 _ _ ?_
  obtain⟨q,h_1,hr⟩:=aA hr
  refine zz ?_
  obtain rfl:=sj hr
  exact eW Tryz.results118 aW (zG [])
 obtain⟨a9,hL2,hr⟩:=aA hr
 refine zz ?_
 refine aQw<|aQG (fun m s h=> ∃(x6:Int)(l2:List Int),i6 N va m x6 l2=some a9∧Ghost 0 s h (aE 24 [(1,(.ptr 0 0)),(2,(.ptr 1 0)),(3,(.ptr 2 0)),(6,(eI .i64 x6))]) [some ⟨96,va.map (eI .u64)⟩,some ⟨25,(aQr 32 0).map (eI .u8)⟩,some ⟨25,l2.map (eI .u8)⟩]) (n:=N) ⟨0,aQr 32 0,hL2,(zG [0,1,2])⟩ (by rintro s h ⟨_,_,h0,_⟩;simp[i6]at h0) ?_
 rintro m2 s h ⟨x6,l2,hr2,hg⟩
 refine aQD hg ?_
 clear hg hL2
 rw[i6]at hr2
 refine zz ?_
 refine aQv ?_
 refine zk hr2 rfl (fun h2 hr2=> ?_) (fun h2 hr2=> ?_)
 ·refine zz ?_
  refine aQv<|aQw ?_
  obtain⟨bH,h_3,hr2⟩:=aA hr2
  obtain⟨x19,h_4,hr2⟩:=aA hr2
  obtain⟨dM,h_5,hr2⟩:=aA hr2
  refine zz ?_
  exact⟨aQs.wrap (x6+1),l2.set (aQJ x6) (aQX.wrap x19),hr2,(zG [0,1,2])⟩
 refine zz ?_
 obtain rfl:=sj hr2
 refine zz ?_
 exact hG1 _ _ _ _ (zG [1,2]) (J1 l2 hr)
theorem aAI {N:Nat}{va:List Int}{r:(List Int)}(hr:pN N va=some r):
  Vm.Fn Tryz.prog 102 [] [(.agg (va.map (eI .u64)))] (.row none 1 (r.map (eI .u8))) []:=by
 refine zf Tryz.func102 Tryz.ntmps102 ?_
 unfold pN at hr
 obtain⟨q,h_1,hr⟩:=aA hr
 obtain⟨x5,h_2,hr⟩:=aA hr
 obtain⟨q_1,h_3,hr⟩:=aA hr
 refine zz ?_
 refine xp (aE6 h_2) ?_
 refine zz ?_
 obtain rfl:=sj hr
 exact eW Tryz.results102 aW (aQI (zv 1) (zG []))
theorem aEN {N:Nat}{tag:ByteArray}{b:List Int}{r:(List Int)}(hr:sG N tag b=some r):
  Vm.Fn Tryz.prog 101 [] [(eS tag),(.row none 1 (b.map (eI .u8)))] (.agg (r.map (eI .u8))) []:=by
 refine zf Tryz.func101 Tryz.ntmps101 ?_
 unfold sG at hr
 obtain⟨x7,h_1,hr⟩:=aA hr
 obtain⟨x8,h_2,hr⟩:=aA hr
 obtain⟨q,h_3,hr⟩:=aA hr
 refine zz ?_
 refine aN2 (h':=[some ⟨25,(aQr 32 0).map (eI .u8)⟩,some ⟨5,x7.map (eI .u8)⟩]) rfl ti9 cI dA h_1 rfl rfl<|zcL (aAo h_2) [] [1] ?_
 refine zz ?_
 refine aQv ?_
 obtain⟨cC,h_4,hr⟩:=aA hr
 obtain⟨dL,h_5,hr⟩:=aA hr
 obtain⟨bH,h_6,hr⟩:=aA hr
 obtain⟨x15,h_7,hr⟩:=aA hr
 obtain⟨q_1,h_9,hr⟩:=aA hr
 refine aQM mixed [] [46] [[0,1,2,3,4,5,6,7]] ?_
 refine zz ?_
 refine zgL (aAo h_7) [] [6] ?_
 refine zz ?_
 obtain rfl:=sj hr
 exact eW Tryz.results101 aW (zG [])
theorem aEG {N:Nat}{va b vm:List Int}{r:(List Int)}(hr:r4 N va b vm=some r):
  Vm.Fn Tryz.prog 130 [] [(.agg (va.map (eI .u64))),(.agg (b.map (eI .u64))),(.agg (vm.map (eI .u64)))] (.agg (r.map (eI .u64))) []:=by
 refine zf Tryz.func130 Tryz.ntmps130 ?_
 unfold r4 at hr
 refine zz ?_
 refine aQv ?_
 obtain⟨q,h_1,hr⟩:=aA hr
 obtain⟨cC,h_2,hr⟩:=aA hr
 refine zz ?_
 refine xp (nH h_2) ?_
 refine zz ?_
 refine zk hr rfl (fun h3 hr=> ?_) (fun h3 hr=> ?_)
 ·refine zz ?_
  obtain rfl:=sj hr
  exact eW Tryz.results130 aW (zG [])
 refine zz ?_
 refine aQv ?_
 obtain⟨q_1,h_4,hr⟩:=aA hr
 obtain⟨bH,h_5,hr⟩:=aA hr
 obtain⟨q_2,h_7,hr⟩:=aA hr
 obtain⟨x17,h_8,hr⟩:=aA hr
 obtain⟨q_3,h_10,hr⟩:=aA hr
 obtain⟨q_4,h_11,hr⟩:=aA hr
 refine aQM mixed [114] [] [[0,1,2,3,4,5,6,7]] ?_
 refine zz ?_
 refine xu (nS h_5) ?_
 refine zz ?_
 refine xu (nS h_8) ?_
 obtain⟨dM,h_12,hr⟩:=aA hr
 obtain⟨q_5,h_13,hr⟩:=aA hr
 refine zz ?_
 refine xp (aCK h_12) ?_
 refine zz ?_
 refine aQz fun K1 hK1 hG1=> ?_
 have J1: ∀(l1:List Int),lE N l1=some r→K1 (aE 38 [(6,(.ptr 0 0)),(7,(.ptr 1 0))]) [some ⟨96,(aQr 4 0).map (eI .u64)⟩,some ⟨96,l1.map (eI .u64)⟩]:=by
  intro l1 hr
  unfold lE at hr
  refine hK1 _ _ ?_
  obtain⟨q_6,h_14,hr⟩:=aA hr
  refine zz ?_
  obtain rfl:=sj hr
  exact eW Tryz.results130 aW (zG [])
 refine aQz fun K2 hK2 hG2=> ?_
 have J2: ∀(mX:Bool),jG N vm dM mX=some r→K2 (aE 38 [(5,(.ptr 0 0)),(6,(.ptr 1 0)),(7,(.ptr 2 0)),(30,(eB mX))]) [some ⟨96,vm.map (eI .u64)⟩,some ⟨96,(aQr 4 0).map (eI .u64)⟩,some ⟨96,dM.1.map (eI .u64)⟩]:=by
  intro mX hr
  unfold jG at hr
  refine hK2 _ _ ?_
  refine zk hr rfl (fun h15 hr=> ?_) (fun h15 hr=> ?_)
  ·obtain⟨fB,h_16,hr⟩:=aA hr
   obtain⟨q_7,h_17,hr⟩:=aA hr
   refine zz ?_
   refine xp (vQ h_16) ?_
   refine zz ?_
   exact hG1 _ _ _ _ (zG [1,2]) (J1 fB.1 hr)
  refine zz ?_
  exact hG1 _ _ _ _ (zG [1,2]) (J1 dM.1 hr)
 rcases aQt dM.2 with h18|h18
 ·replace hr:=cU hr h18
  refine xr ?_
  refine zz ?_
  exact hG2 _ _ _ _ (zG [2,3,4]) (J2 true hr)
 replace hr:=cQ hr h18
 obtain⟨x28,h_19,hr⟩:=aA hr
 refine xr ?_
 refine zz ?_
 refine wQ (v:=(eI .i64 x28)) (h':=[some ⟨96,bH.map (eI .u64)⟩,some ⟨96,x17.map (eI .u64)⟩,some ⟨96,vm.map (eI .u64)⟩,some ⟨96,(aQr 4 0).map (eI .u64)⟩,some ⟨96,dM.1.map (eI .u64)⟩]) rfl rfl h18 rfl (Vm.Fn.pure (p7 h_19) zR rfl) ?_
 refine zz ?_
 exact hG2 _ _ _ _ (zG [2,3,4]) (J2 (decide (0≤x28)) hr)
theorem aCP {N:Nat}{va b:List Int}{r:(List Int)}(hr:oG N va b=some r):
  Vm.Fn Tryz.prog 117 [] [(.agg (va.map (eI .u64))),(.agg (b.map (eI .u64)))] (.agg (r.map (eI .u64))) []:=by
 refine zf Tryz.func117 Tryz.ntmps117 ?_
 unfold oG at hr
 refine zz ?_
 refine aQv ?_
 obtain⟨q,h_1,hr⟩:=aA hr
 obtain⟨q_1,h_2,hr⟩:=aA hr
 obtain⟨x7,h_3,hr⟩:=aA hr
 obtain⟨x8,h_5,hr⟩:=aA hr
 obtain⟨q_2,h_7,hr⟩:=aA hr
 refine aQM mixed [80,130] [] [[0,1,2,3,4]] ?_
 refine zz ?_
 refine xu (tJ h_3)<|xu (aEG h_5) ?_
 refine zz ?_
 obtain rfl:=sj hr
 exact eW Tryz.results117 aW (zG [])
theorem aDZ {N:Nat}{vh:List Int}{r:(List Int)}(hr:sD N vh=some r):
  Vm.Fn Tryz.prog 100 [] [(.agg (vh.map (eI .u8)))] (.agg (r.map (eI .u64))) []:=by
 refine zf Tryz.func100 Tryz.ntmps100 ?_
 unfold sD at hr
 obtain⟨q,h_1,hr⟩:=aA hr
 obtain⟨x4,h_2,hr⟩:=aA hr
 obtain⟨x6,h_3,hr⟩:=aA hr
 obtain⟨q_1,h_4,hr⟩:=aA hr
 refine zz ?_
 refine xp (oH h_2)<|xw (v:=(.agg ([0,0,0,0].map (eI .u64)))) (cH rfl (lY bV kH rfl))<|xp (aCP h_3) ?_
 refine zz ?_
 obtain rfl:=sj hr
 exact eW Tryz.results100 aW (zG [])
theorem aCw {N:Nat}{vr p vm:List Int}{r:(List Int)}(hr:oJ N vr p vm=some r):
  Vm.Fn Tryz.prog 84 [] [(.agg (vr.map (eI .u64))),(.agg (p.map (eI .u64))),(.agg (vm.map (eI .u8)))] (.agg (r.map (eI .u64))) []:=by
 refine zf Tryz.func84 Tryz.ntmps84 ?_
 unfold oJ at hr
 refine zz ?_
 refine aQv ?_
 obtain⟨q,h_1,hr⟩:=aA hr
 obtain⟨x8,h_2,hr⟩:=aA hr
 obtain⟨q_1,h_4,hr⟩:=aA hr
 obtain⟨cC,h_5,hr⟩:=aA hr
 obtain⟨q_2,h_7,hr⟩:=aA hr
 obtain⟨cB,h_8,hr⟩:=aA hr
 obtain⟨bH,h_10,hr⟩:=aA hr
 obtain⟨x15,h_12,hr⟩:=aA hr
 obtain⟨q_3,h_14,hr⟩:=aA hr
 refine aQM mixed [100,102] [34,101] [[0,1,2,3,4],[5,6,7,8,9]] ?_
 refine zz ?_
 refine xu (aAI h_2) ?_
 refine zz ?_
 refine xu (aAI h_5) ?_
 refine zz ?_
 refine⟨_,_,(zv 2), ?_⟩
 refine zz ?_
 refine zgL (qV h_8) [] [4] ?_
 refine zgL (aEN h_10) [] [5] ?_
 refine xu (aDZ h_12) ?_
 refine zz ?_
 obtain rfl:=sj hr
 exact eW Tryz.results84 aW (zG [])
theorem aD6 {N:Nat}{p vm s_E s_S:List Int}{r:Bool}(hr:sJ N p vm s_E s_S=some r):
  Vm.Fn Tryz.prog 67 [] [(.agg (p.map (eI .u64))),(.agg (vm.map (eI .u8))),(.agg (cA (eI .u64) s_E (cA (eI .u64) s_S [])))] (eB r) []:=by
 refine zf Tryz.func67 Tryz.ntmps67 ?_
 unfold sJ at hr
 refine zz ?_
 refine aQv ?_
 refine aQz fun K1 hK1 hG1=> ?_
 have J1: ∀(dO:Bool),jO N p vm s_E s_S dO=some r→K1 (aE 46 [(3,(.ptr 0 0)),(4,(.ptr 1 0)),(5,(.ptr 2 0)),(24,(eB dO))]) [some ⟨96,p.map (eI .u64)⟩,some ⟨25,vm.map (eI .u8)⟩,some ⟨100,(cA (eI .u64) s_E (cA (eI .u64) s_S []))⟩]:=by
  intro dO hr
  unfold jO at hr
  refine hK1 _ _ ?_
  refine zk hr rfl (fun h1 hr=> ?_) (fun h1 hr=> ?_)
  ·refine zz ?_
   obtain rfl:=sj hr
   exact bK Tryz.results67 []
  refine zz ?_
  refine aQv ?_
  obtain⟨x26,h_2,hr⟩:=aA hr
  obtain⟨q,h_4,hr⟩:=aA hr
  obtain⟨x29,h_5,hr⟩:=aA hr
  obtain⟨q_1,h_7,hr⟩:=aA hr
  refine aQM mixed [79,80] [] [[0,1,2,3,4,5,6,7,8,9]]<|xu (tJ h_2) ?_
  refine zz ?_
  refine xu (vQ h_5) ?_
  refine zz ?_
  refine aQv ?_
  obtain⟨q_2,h_8,hr⟩:=aA hr
  obtain⟨fB,h_9,hr⟩:=aA hr
  obtain⟨q_3,h_11,hr⟩:=aA hr
  obtain⟨x37,h_12,hr⟩:=aA hr
  obtain⟨x38,h_14,hr⟩:=aA hr
  obtain⟨q_4,h_16,hr⟩:=aA hr
  refine aQM mixed [81,82,83] [] [[0,1,2,3,4,5,6,7,8]] ?_
  refine zz ?_
  refine xu (aFF h_9) ?_
  refine zz ?_
  refine xu (aAq h_12)<|xu (aHD h_14) ?_
  refine zz ?_
  refine aQv ?_
  obtain⟨q_5,h_17,hr⟩:=aA hr
  obtain⟨x44,h_18,hr⟩:=aA hr
  obtain⟨q_6,h_20,hr⟩:=aA hr
  refine aQM mixed [84] [] [[0,1,2,3,4,5,6,7]] ?_
  refine zz ?_
  refine xu (aCw h_18) ?_
  refine zz ?_
  obtain rfl:=sj hr
  exact bK Tryz.results67 []
 obtain⟨q_7,h_21,hr⟩:=aA hr
 obtain⟨bX,h_22,hr⟩:=aA hr
 rcases aQt (!bX)with h23|h23
 ·replace hr:=cU hr h23
  refine xr ?_
  refine zz ?_
  refine xp (s9 h_22) ?_
  refine zz ?_
  refine xX rfl<|xX rfl<|xX rfl<|xX rfl ?_
  refine zz ?_
  exact hG1 _ _ _ _ (zG [0,1,2]) (J1 true hr)
 replace hr:=cQ hr h23
 obtain⟨q_8,h_24,hr⟩:=aA hr
 obtain⟨x16,h_25,hr⟩:=aA hr
 rcases aQt (!x16)with h26|h26
 ·replace hr:=cU hr h26
  refine xr ?_
  refine zz ?_
  refine xp (s9 h_22) ?_
  refine zz ?_
  refine wQ (v:=(eB x16)) (h':=[some ⟨96,p.map (eI .u64)⟩,some ⟨25,vm.map (eI .u8)⟩,some ⟨100,(cA (eI .u64) s_E (cA (eI .u64) s_S []))⟩]) rfl rfl h23 rfl (Vm.Fn.pure (mE h_25) zR rfl) ?_
  refine zz ?_
  exact hG1 _ _ _ _ (zG [0,1,2]) (J1 true hr)
 replace hr:=cQ hr h26
 obtain⟨q_9,h_27,hr⟩:=aA hr
 obtain⟨bN,h_28,hr⟩:=aA hr
 refine xr ?_
 refine zz ?_
 refine xp (s9 h_22) ?_
 refine zz ?_
 refine wQ (v:=(eB x16)) (h':=[some ⟨96,p.map (eI .u64)⟩,some ⟨25,vm.map (eI .u8)⟩,some ⟨100,(cA (eI .u64) s_E (cA (eI .u64) s_S []))⟩]) rfl rfl h23 rfl (Vm.Fn.pure (mE h_25) zR rfl) ?_
 refine zz ?_
 refine wQ (v:=(eB bN)) (h':=[some ⟨96,p.map (eI .u64)⟩,some ⟨25,vm.map (eI .u8)⟩,some ⟨100,(cA (eI .u64) s_E (cA (eI .u64) s_S []))⟩]) rfl rfl h26 rfl (Vm.Fn.pure (mE h_28) zR rfl) ?_
 refine zz ?_
 exact hG1 _ _ _ _ (zG [0,1,2]) (J1 (!bN) hr)
theorem aAN {N:Nat}{sig key vm:List Int}{r:Bool×Int}(hr:m7 N sig key vm=some r):
  Vm.Fn Tryz.prog 48 [] [(.row none 1 (sig.map (eI .u8))),(.row none 1 (key.map (eI .u8))),(.agg (vm.map (eI .u8)))] (.tup [(eB r.1),(eI .i64 r.2)]) []:=by
 refine zf Tryz.func48 Tryz.ntmps48 ?_
 unfold m7 at hr
 refine zz ?_
 refine aQv ?_
 refine zz ?_
 refine zk hr rfl (fun h1 hr=> ?_) (fun h1 hr=> ?_)
 ·refine zz ?_
  obtain rfl:=sj hr
  exact u6 Tryz.results48 []
 refine zz ?_
 refine xw (v:=(eI .i64 ((min key.length (aQr 32 0).length:Nat):Int))) (h':=[some ⟨25,vm.map (eI .u8)⟩,some ⟨25,(kL (aQr 32 0) key).map (eI .u8)⟩]) (aA9 rfl rfl (aEY (E:=(eI .u8)) (l:=aQr 32 0) rfl cI dA rfl rfl (aA4 (fun _=>rfl)) rfl)) ?_
 obtain⟨q,h_2,hr⟩:=aA hr
 obtain⟨x19,h_3,hr⟩:=aA hr
 obtain⟨q_1,h_4,hr⟩:=aA hr
 refine zz ?_
 refine xp (oH h_3) ?_
 refine zz ?_
 refine aQv ?_
 obtain⟨dM,h_5,hr⟩:=aA hr
 refine zz ?_
 refine xp (s9 h_5) ?_
 refine zz ?_
 refine zk hr rfl (fun h6 hr=> ?_) (fun h6 hr=> ?_)
 ·refine zz ?_
  obtain rfl:=sj hr
  exact u6 Tryz.results48 []
 refine zz ?_
 refine aQv ?_
 refine zz ?_
 refine zk hr rfl (fun h7 hr=> ?_) (fun h7 hr=> ?_)
 ·refine zz ?_
  obtain rfl:=sj hr
  exact u6 Tryz.results48 []
 obtain⟨x28,h_8,hr⟩:=aA hr
 refine zz ?_
 refine xp (aEB h_8) ?_
 refine zz ?_
 refine xw (v:=(.ptr 3 0)) (h':=[some ⟨25,vm.map (eI .u8)⟩,some ⟨25,(kL (aQr 32 0) key).map (eI .u8)⟩,some ⟨96,x19.map (eI .u64)⟩,some ⟨100,(cA (eI .u64) (aQr 4 0) (cA (eI .u64) (aQr 4 0) []))⟩]) (iL nT rfl rfl rfl) ?_
 refine zz ?_
 refine aQv ?_
 refine aQz fun K1 hK1 hG1=> ?_
 have J1: ∀(x39:Bool),oQ N x39=some r→K1 (aE 40 [(39,(eB x39))]) []:=by
  intro x39 hr
  unfold oQ at hr
  refine hK1 _ _ ?_
  refine zk hr rfl (fun h9 hr=> ?_) (fun h9 hr=> ?_)
  ·refine zz ?_
   obtain rfl:=sj hr
   exact u6 Tryz.results48 []
  refine zz ?_
  obtain rfl:=sj hr
  exact u6 Tryz.results48 []
 rcases aQt (x28.2.2 != 0)with h10|h10
 ·replace hr:=cU hr h10
  refine xr ?_
  refine zz ?_
  exact hG1 _ _ _ _ (zG []) (J1 true hr)
 replace hr:=cQ hr h10
 obtain⟨q_2,h_11,hr⟩:=aA hr
 obtain⟨x37,h_12,hr⟩:=aA hr
 refine xr ?_
 refine zz ?_
 refine wQ (v:=(eB x37)) (h':=[some ⟨25,vm.map (eI .u8)⟩,some ⟨25,(kL (aQr 32 0) key).map (eI .u8)⟩,some ⟨96,x19.map (eI .u64)⟩,some ⟨100,(cA (eI .u64) x28.1 (cA (eI .u64) x28.2.1 []))⟩]) rfl rfl h10 rfl (Vm.Fn.pure (aD6 h_12) zR rfl) ?_
 refine zz ?_
 exact hG1 _ _ _ _ (zG []) (J1 (!x37) hr)
theorem aEV {N:Nat}{aJ:Int}{aX:List Int}{o_M o_N:Int}{nR:List (List Int)}{vm:List Int}{r:Bool×Int}(hr:uL N aJ aX o_M o_N nR vm=some r):
  Vm.Fn Tryz.prog 49 [] [(.agg [(eI .i64 aJ),(.row none 1 (aX.map (eI .u8))),(eI .i64 o_M),(eI .i64 o_N)]),(.row none 1 (nR.map (eL 1 (eI .u8)))),(.agg (vm.map (eI .u8)))] (.tup [(eB r.1),(eI .i64 r.2)]) []:=by
 refine zf Tryz.func49 Tryz.ntmps49 ?_
 unfold uL at hr
 refine zz ?_
 refine aQz fun K1 hK1 hG1=> ?_
 have J1: ∀(vn:Int),xH N aJ aX o_M o_N vn=some r→K1 (aE 44 [(3,(.ptr 0 0)),(8,(eI .i64 vn))]) [some ⟨46,[(eI .i64 aJ),(.row none 1 (aX.map (eI .u8))),(eI .i64 o_M),(eI .i64 o_N)]⟩]:=by
  intro vn hr
  unfold xH at hr
  refine hK1 _ _ ?_
  refine zz ?_
  obtain rfl:=sj hr
  exact u6 Tryz.results49 []
 obtain⟨a9,hL2,hr⟩:=aA hr
 refine zz ?_
 refine aQw<|aQG (fun m s h=> ∃(cZ vi:Int),g7 N aJ aX o_M o_N nR vm m cZ vi=some a9∧Ghost 0 s h (aE 44 [(1,(.row none 1 (nR.map (eL 1 (eI .u8))))),(3,(.ptr 0 0)),(5,(.ptr 1 0)),(8,(eI .i64 cZ)),(9,(eI .i64 vi))]) [some ⟨46,[(eI .i64 aJ),(.row none 1 (aX.map (eI .u8))),(eI .i64 o_M),(eI .i64 o_N)]⟩,some ⟨25,vm.map (eI .u8)⟩]) (n:=N) ⟨0,0,hL2,(zG [0,1])⟩ (by rintro s h ⟨_,_,h0,_⟩;simp[g7]at h0) ?_
 rintro m2 s h ⟨cZ,vi,hr2,hg⟩
 refine aQD hg ?_
 clear hg hL2
 rw[g7]at hr2
 refine aQv ?_
 refine zz ?_
 refine zk hr2 rfl (fun h1 hr2=> ?_) (fun h1 hr2=> ?_)
 ·refine zz ?_
  refine aQz fun K3 hK3 hG3=> ?_
  have J3: ∀(y4:Int),pX N aJ aX o_M o_N nR vm vi (g7 N aJ aX o_M o_N nR vm m2) y4=some a9→K3 (aE 44 [(1,(.row none 1 (nR.map (eL 1 (eI .u8))))),(3,(.ptr 0 0)),(5,(.ptr 1 0)),(8,(eI .i64 y4)),(9,(eI .i64 vi))]) [some ⟨46,[(eI .i64 aJ),(.row none 1 (aX.map (eI .u8))),(eI .i64 o_M),(eI .i64 o_N)]⟩,some ⟨25,vm.map (eI .u8)⟩]:=by
   intro y4 hr2
   unfold pX at hr2
   refine hK3 _ _ ?_
   refine zz ?_
   exact⟨y4,aQs.wrap (vi+1),hr2,(zG [0,1])⟩
  refine aQw<|aQv ?_
  obtain⟨dM,h_2,hr2⟩:=aA hr2
  obtain⟨x28,h_3,hr2⟩:=aA hr2
  obtain⟨q,h_4,hr2⟩:=aA hr2
  obtain⟨dD,h_5,hr2⟩:=aA hr2
  refine aQM mixed [48] [] [[0,1,2,3,4,5,6,7,8,9,10,11,12,13,14,15,16,17]] ?_
  refine zz ?_
  refine xu (aAN h_5) ?_
  refine zz ?_
  refine aQv ?_
  refine zz ?_
  refine zk hr2 rfl (fun h7 hr2=> ?_) (fun h7 hr2=> ?_)
  ·refine zz ?_
   obtain rfl:=sj hr2
   obtain rfl:=sj hr
   exact u6 Tryz.results49 []
  refine zz ?_
  refine zk hr2 rfl (fun h8 hr2=> ?_) (fun h8 hr2=> ?_)
  ·refine zz ?_
   exact hG3 _ _ _ _ (zG [0,1]) (J3 (aQs.wrap (cZ+1)) hr2)
  refine zz ?_
  exact hG3 _ _ _ _ (zG [0,1]) (J3 cZ hr2)
 refine zz ?_
 obtain rfl:=sj hr2
 refine zz ?_
 exact hG1 _ _ _ _ (zG [0]) (J1 cZ hr)
theorem aD2 {N:Nat}{b:List Int}{r:Int×Int}(hr:sT N b=some r):
  Vm.Fn Tryz.prog 68 [] [(.row none 1 (b.map (eI .u8)))] (.tup [(eI .u32 r.1),(eI .i64 r.2)]) []:=by
 refine zf Tryz.func68 Tryz.ntmps68 ?_
 unfold sT at hr
 refine zz ?_
 refine aQv ?_
 refine aQz fun K1 hK1 hG1=> ?_
 have J1: ∀(bN:Bool),jK N b bN=some r→K1 (aE 40 [(0,(.row none 1 (b.map (eI .u8)))),(22,(eB bN))]) []:=by
  intro bN hr
  unfold jK at hr
  refine hK1 _ _ ?_
  refine zk hr rfl (fun h1 hr=> ?_) (fun h1 hr=> ?_)
  ·refine zz ?_
   obtain rfl:=sj hr
   exact u6 Tryz.results68 []
  refine zz ?_
  refine aQz fun K2 hK2 hG2=> ?_
  have J2: ∀(vn:Int),vZ N vn=some r→K2 (aE 40 [(4,(eI .u32 vn))]) []:=by
   intro vn hr
   unfold vZ at hr
   refine hK2 _ _ ?_
   refine zz ?_
   obtain rfl:=sj hr
   exact u6 Tryz.results68 []
  obtain⟨rB,hL3,hr⟩:=aA hr
  refine zz ?_
  refine aQw<|aQG (fun m s h=> ∃(cZ x25:Int),jY N b m cZ x25=some rB∧Ghost 0 s h (aE 40 [(0,(.row none 1 (b.map (eI .u8)))),(4,(eI .u32 cZ)),(24,(eI .i64 (b.length:Int))),(25,(eI .i64 x25))]) []) (n:=N) ⟨0,0,hL3,(zG [])⟩ (by rintro s h ⟨_,_,h0,_⟩;simp[jY]at h0) ?_
  rintro m3 s h ⟨cZ,x25,hr3,hg⟩
  refine aQD hg ?_
  clear hg hL3
  rw[jY]at hr3
  refine zz ?_
  refine aQv ?_
  refine zk hr3 rfl (fun h2 hr3=> ?_) (fun h2 hr3=> ?_)
  ·refine zz ?_
   refine aQv<|aQw ?_
   obtain⟨dD,h_3,hr3⟩:=aA hr3
   obtain⟨x36,h_4,hr3⟩:=aA hr3
   refine zz ?_
   exact⟨bits .or .u32 cZ x36,aQs.wrap (x25+1),hr3,(zG [])⟩
  refine zz ?_
  obtain rfl:=sj hr3
  refine zz ?_
  exact hG2 _ _ _ _ (zG []) (J2 cZ hr)
 rcases aQt (decide (4<(b.length:Int)))with h5|h5
 ·replace hr:=cU hr h5
  refine xr ?_
  refine zz ?_
  exact hG1 _ _ _ _ (zG []) (J1 true hr)
 replace hr:=cQ hr h5
 rcases aQt (decide (0<(b.length:Int)))with h6|h6
 ·replace hr:=cU hr h6
  obtain⟨x18,h_7,hr⟩:=aA hr
  refine xr ?_
  refine zz ?_
  exact hG1 _ _ _ _ (zG []) (J1 (x18 == 0) hr)
 replace hr:=cQ hr h6
 refine xr ?_
 refine zz ?_
 exact hG1 _ _ _ _ (zG []) (J1 false hr)
theorem aAR {N:Nat}{eJ:List Int}{now r:Int}(hr:pF N eJ now=some r):
  Vm.Fn Tryz.prog 50 [] [(.row none 1 (eJ.map (eI .u8))),(eI .i64 now)] (eI .i64 r) []:=by
 refine zf Tryz.func50 Tryz.ntmps50 ?_
 unfold pF at hr
 obtain⟨x9,h_1,hr⟩:=aA hr
 refine zz ?_
 refine xp (aD2 h_1) ?_
 refine zz ?_
 refine aQv ?_
 refine zz ?_
 refine zk hr rfl (fun h2 hr=> ?_) (fun h2 hr=> ?_)
 ·refine zz ?_
  obtain rfl:=sj hr
  exact bK Tryz.results50 []
 refine zz ?_
 refine aQv ?_
 refine zz ?_
 refine zk hr rfl (fun h3 hr=> ?_) (fun h3 hr=> ?_)
 ·refine zz ?_
  obtain rfl:=sj hr
  exact bK Tryz.results50 []
 refine zz ?_
 obtain rfl:=sj hr
 exact bK Tryz.results50 []
theorem aGr {N:Nat}{aJ:Int}{aX:List Int}{o_M o_N:Int}{vs:List (List Int)}{aO:List Int}{aT bL:Int}{r:(List (List Int))×Int}(hr:vR N aJ aX o_M o_N vs aO aT bL=some r):
  Vm.Fn Tryz.prog 31 [] [(.agg [(eI .i64 aJ),(.row none 1 (aX.map (eI .u8))),(eI .i64 o_M),(eI .i64 o_N)]),(.row none 1 (vs.map (eL 1 (eI .u8)))),(.agg (bJ (eI .u8) aO [(eI .i64 aT),(eI .i64 bL)]))] (.tup [(.row none 1 (r.1.map (eL 1 (eI .u8)))),(eI .i64 r.2)]) []:=by
 refine zf Tryz.func31 Tryz.ntmps31 ?_
 unfold vR at hr
 refine zz ?_
 refine aQv ?_
 refine zz ?_
 refine aQw ?_
 refine zz ?_
 refine zk hr rfl (fun h1 hr=> ?_) (fun h1 hr=> ?_)
 ·obtain⟨x25,h_2,hr⟩:=aA hr
  obtain⟨x26,h_3,hr⟩:=aA hr
  refine zz ?_
  refine zcL (qV h_2) [] [2] ?_
  refine aQQ (zv 3) ?_
  refine zc (v9 h_3) [] ?_
  refine zz ?_
  obtain rfl:=sj hr
  exact mZ Tryz.results31 aW aW (aQI (aQP (fr':=[(0,(.tup [(.row none 1 (x26.1.map (eL 1 (eI .u8)))),(eI .i64 x26.2)]))]) (h':=[some ⟨46,[(eI .i64 aJ),(.row none 1 (aX.map (eI .u8))),(eI .i64 o_M),(eI .i64 o_N)]⟩,some ⟨27,(bJ (eI .u8) aO [(eI .i64 aT),(eI .i64 bL)])⟩,some ⟨31,[aX].map (eL 1 (eI .u8))⟩,none,none]) (aQB rfl (aQT (aQx (aQN (aH rfl) rfl rfl (dB (fun _=>rfl)) (by first|rfl|(simp only[aQA,bE,bF];done))) (aQx (aQy (aH rfl)) aQK))) aQU) (aQH (aQC (aH rfl)) rfl (aQH (aQC (aH rfl)) rfl (aQH (aQC (aH rfl)) (all_map (fun _=>rfl) _) (aQR (aQR aQV)))))) (zG []))
 refine zz ?_
 refine zk hr rfl (fun h4 hr=> ?_) (fun h4 hr=> ?_)
 ·obtain⟨x35,h_5,hr⟩:=aA hr
  obtain⟨x37,h_6,hr⟩:=aA hr
  refine zz ?_
  refine zc (v9 h_6) [] ?_
  refine zz ?_
  obtain rfl:=sj hr
  exact mZ Tryz.results31 aW aW (aQI (aQP (fr':=[(0,(.tup [(.row none 1 (x37.1.map (eL 1 (eI .u8)))),(eI .i64 x37.2)]))]) (h':=[some ⟨46,[(eI .i64 aJ),(.row none 1 (aX.map (eI .u8))),(eI .i64 o_M),(eI .i64 o_N)]⟩,some ⟨27,(bJ (eI .u8) aO [(eI .i64 aT),(eI .i64 bL)])⟩,none]) (aQB rfl (aQT (aQx (aQN (aH rfl) rfl rfl (dB (fun _=>rfl)) (by first|rfl|(simp only[aQA,bE,bF];done))) (aQx (aQy (aH rfl)) aQK))) aQU) (aQH (aQC (aH rfl)) rfl (aQH (aQC (aH rfl)) rfl (aQR aQV)))) (zG []))
 refine zz ?_
 refine zk hr rfl (fun h7 hr=> ?_) (fun h7 hr=> ?_)
 ·obtain⟨x45,h_8,hr⟩:=aA hr
  refine zz ?_
  obtain rfl:=sj hr
  exact u6 Tryz.results31 []
 refine zz ?_
 refine zk hr rfl (fun h9 hr=> ?_) (fun h9 hr=> ?_)
 ·refine aQv ?_
  obtain⟨x53,h_10,hr⟩:=aA hr
  obtain⟨x57,h_11,hr⟩:=aA hr
  obtain⟨x62,h_12,hr⟩:=aA hr
  obtain⟨x65,h_13,hr⟩:=aA hr
  refine aQM mixed [] [] [[0,1,2,3,4,5,6,7,8,9,10,11,12,13,14,15,16,17,18,19]] ?_
  refine zz ?_
  obtain rfl:=sj hr
  exact mZ Tryz.results31 aW aW (aQI (aQP (fr':=[(0,(.tup [(.row none 1 (x65.map (eL 1 (eI .u8)))),(eI .i64 0)]))]) (h':=[some ⟨46,[(eI .i64 aJ),(.row none 1 (aX.map (eI .u8))),(eI .i64 o_M),(eI .i64 o_N)]⟩,some ⟨27,(bJ (eI .u8) aO [(eI .i64 aT),(eI .i64 bL)])⟩,some ⟨31,[x57,x62].map (eL 1 (eI .u8))⟩,none]) (aQB rfl (aQT (aQx (aQN (aH rfl) rfl rfl (dB (fun _=>rfl)) (by first|rfl|(simp only[aQA,bE,bF];done))) (aQx (aQy (aH rfl)) aQK))) aQU) (aQH (aQC (aH rfl)) rfl (aQH (aQC (aH rfl)) rfl (aQH (aQC (aH rfl)) (all_map (fun _=>rfl) _) (aQR aQV))))) (zG []))
 refine zz ?_
 refine zk hr rfl (fun h14 hr=> ?_) (fun h14 hr=> ?_)
 ·refine aQv ?_
  obtain⟨x73,h_15,hr⟩:=aA hr
  obtain⟨x77,h_16,hr⟩:=aA hr
  obtain⟨x82,h_17,hr⟩:=aA hr
  obtain⟨x84,h_18,hr⟩:=aA hr
  obtain⟨x85,h_20,hr⟩:=aA hr
  obtain⟨x87,h_22,hr⟩:=aA hr
  refine aQM mixed [32,45] [] [[0,1,2,3,4,5,6,7,8,9,10,11,12,13,14,15,16,17,18,19,20,21]] ?_
  refine zz ?_
  refine xu (aCb h_18)<|xu (tE h_20) ?_
  refine zz ?_
  obtain rfl:=sj hr
  exact mZ Tryz.results31 aW aW (aQI (aQP (fr':=[(0,(.tup [(.row none 1 (x87.map (eL 1 (eI .u8)))),(eI .i64 0)]))]) (h':=[some ⟨46,[(eI .i64 aJ),(.row none 1 (aX.map (eI .u8))),(eI .i64 o_M),(eI .i64 o_N)]⟩,some ⟨27,(bJ (eI .u8) aO [(eI .i64 aT),(eI .i64 bL)])⟩,some ⟨31,[x85].map (eL 1 (eI .u8))⟩,none]) (aQB rfl (aQT (aQx (aQN (aH rfl) rfl rfl (dB (fun _=>rfl)) (by first|rfl|(simp only[aQA,bE,bF];done))) (aQx (aQy (aH rfl)) aQK))) aQU) (aQH (aQC (aH rfl)) rfl (aQH (aQC (aH rfl)) rfl (aQH (aQC (aH rfl)) (all_map (fun _=>rfl) _) (aQR aQV))))) (zG []))
 refine zz ?_
 refine zk hr rfl (fun h23 hr=> ?_) (fun h23 hr=> ?_)
 ·refine aQv ?_
  obtain⟨x95,h_24,hr⟩:=aA hr
  obtain⟨x99,h_25,hr⟩:=aA hr
  obtain⟨aOh,h_26,hr⟩:=aA hr
  obtain⟨aDD,h_28,hr⟩:=aA hr
  obtain⟨aKM,h_30,hr⟩:=aA hr
  refine aQM mixed [30,45] [] [[0,1,2,3,4,5,6,7,8,9,10,11,12,13,14,15,16,17]] ?_
  refine zz ?_
  refine xu (y8 h_26) ?_
  refine zz ?_
  refine xu (tE h_28) ?_
  refine zz ?_
  obtain rfl:=sj hr
  exact mZ Tryz.results31 aW aW (aQI (aQP (fr':=[(0,(.tup [(.row none 1 (aKM.map (eL 1 (eI .u8)))),(eI .i64 0)]))]) (h':=[some ⟨46,[(eI .i64 aJ),(.row none 1 (aX.map (eI .u8))),(eI .i64 o_M),(eI .i64 o_N)]⟩,some ⟨27,(bJ (eI .u8) aO [(eI .i64 aT),(eI .i64 bL)])⟩,some ⟨31,[aDD].map (eL 1 (eI .u8))⟩,none]) (aQB rfl (aQT (aQx (aQN (aH rfl) rfl rfl (dB (fun _=>rfl)) (by first|rfl|(simp only[aQA,bE,bF];done))) (aQx (aQy (aH rfl)) aQK))) aQU) (aQH (aQC (aH rfl)) rfl (aQH (aQC (aH rfl)) rfl (aQH (aQC (aH rfl)) (all_map (fun _=>rfl) _) (aQR aQV))))) (zG []))
 refine zz ?_
 refine zk hr rfl (fun h31 hr=> ?_) (fun h31 hr=> ?_)
 ·refine aQv ?_
  obtain⟨aG5,h_32,hr⟩:=aA hr
  obtain⟨aCF,h_33,hr⟩:=aA hr
  refine zz ?_
  refine xp (y8 h_33) ?_
  refine zz ?_
  refine zk hr rfl (fun h34 hr=> ?_) (fun h34 hr=> ?_)
  ·refine zz ?_
   obtain rfl:=sj hr
   exact mZ Tryz.results31 aW aW (lI [])
  obtain⟨zD,h_35,hr⟩:=aA hr
  refine zz ?_
  obtain rfl:=sj hr
  exact u6 Tryz.results31 []
 refine zz ?_
 refine zk hr rfl (fun h36 hr=> ?_) (fun h36 hr=> ?_)
 ·obtain⟨aFk,h_37,hr⟩:=aA hr
  obtain⟨aCz,h_38,hr⟩:=aA hr
  obtain⟨q,h_39,hr⟩:=aA hr
  refine zz ?_
  refine xp (aAo h_38) ?_
  refine zz ?_
  refine aQv<|aQD (zv 2) ?_
  obtain⟨aOw,h_40,hr⟩:=aA hr
  obtain⟨aK6,h_41,hr⟩:=aA hr
  refine aQM mixed [] [] [[0,1,2,3,4,5,6,7,8,9,10]] ?_
  refine zz ?_
  obtain rfl:=sj hr
  exact mZ Tryz.results31 aW aW (aQI (aQP (fr':=[(0,(.tup [(.row none 1 (aK6.map (eL 1 (eI .u8)))),(eI .i64 0)]))]) (h':=[some ⟨46,[(eI .i64 aJ),(.row none 1 (aX.map (eI .u8))),(eI .i64 o_M),(eI .i64 o_N)]⟩,some ⟨27,(bJ (eI .u8) aO [(eI .i64 aT),(eI .i64 bL)])⟩,none,some ⟨31,[aCz].map (eL 1 (eI .u8))⟩,none]) (aQB rfl (aQT (aQx (aQN (aH rfl) rfl rfl (dB (fun _=>rfl)) (by first|rfl|(simp only[aQA,bE,bF];done))) (aQx (aQy (aH rfl)) aQK))) aQU) (aQH (aQC (aH rfl)) rfl (aQH (aQC (aH rfl)) rfl (aQR (aQH (aQC (aH rfl)) (all_map (fun _=>rfl) _) (aQR aQV)))))) (zG []))
 refine zz ?_
 refine zk hr rfl (fun h42 hr=> ?_) (fun h42 hr=> ?_)
 ·obtain⟨aOj,h_43,hr⟩:=aA hr
  obtain⟨aOg,h_44,hr⟩:=aA hr
  obtain⟨aCA,h_45,hr⟩:=aA hr
  refine zz ?_
  refine zc (zJ h_44) [] ?_
  refine aQQ (zv 2) ?_
  refine zc (v9 h_45) [] ?_
  refine zz ?_
  obtain rfl:=sj hr
  exact mZ Tryz.results31 aW aW (aQI (aQP (fr':=[(0,(.tup [(.row none 1 (aCA.1.map (eL 1 (eI .u8)))),(eI .i64 aCA.2)]))]) (h':=[some ⟨46,[(eI .i64 aJ),(.row none 1 (aX.map (eI .u8))),(eI .i64 o_M),(eI .i64 o_N)]⟩,some ⟨27,(bJ (eI .u8) aO [(eI .i64 aT),(eI .i64 bL)])⟩,none,none]) (aQB rfl (aQT (aQx (aQN (aH rfl) rfl rfl (dB (fun _=>rfl)) (by first|rfl|(simp only[aQA,bE,bF];done))) (aQx (aQy (aH rfl)) aQK))) aQU) (aQH (aQC (aH rfl)) rfl (aQH (aQC (aH rfl)) rfl (aQR (aQR aQV))))) (zG []))
 refine zz ?_
 refine zk hr rfl (fun h46 hr=> ?_) (fun h46 hr=> ?_)
 ·refine aQv ?_
  obtain⟨aOc,h_47,hr⟩:=aA hr
  obtain⟨aOb,h_48,hr⟩:=aA hr
  obtain⟨q_1,h_49,hr⟩:=aA hr
  obtain⟨aIQ,h_50,hr⟩:=aA hr
  refine aQM mixed [48] [] [[0,1,2,3,4,5,6,7,8,9,10,11,12,13,14,15,16,17]] ?_
  refine zz ?_
  refine xu (aAN h_50) ?_
  refine zz ?_
  refine aQv ?_
  obtain⟨aN8,h_52,hr⟩:=aA hr
  obtain⟨aLt,h_53,hr⟩:=aA hr
  obtain⟨aLq,h_55,hr⟩:=aA hr
  refine aQM mixed [45] [] [[0,1,2,3,4,5,6,7,8,9,10,11,12]] ?_
  refine zz ?_
  refine xu (tE h_53) ?_
  refine zz ?_
  obtain rfl:=sj hr
  exact mZ Tryz.results31 aW aW (aQI (aQP (fr':=[(0,(.tup [(.row none 1 (aLq.map (eL 1 (eI .u8)))),(eI .i64 aIQ.2)]))]) (h':=[some ⟨46,[(eI .i64 aJ),(.row none 1 (aX.map (eI .u8))),(eI .i64 o_M),(eI .i64 o_N)]⟩,some ⟨27,(bJ (eI .u8) aO [(eI .i64 aT),(eI .i64 bL)])⟩,some ⟨31,[aLt].map (eL 1 (eI .u8))⟩,none]) (aQB rfl (aQT (aQx (aQN (aH rfl) rfl rfl (dB (fun _=>rfl)) (by first|rfl|(simp only[aQA,bE,bF];done))) (aQx (aQy (aH rfl)) aQK))) aQU) (aQH (aQC (aH rfl)) rfl (aQH (aQC (aH rfl)) rfl (aQH (aQC (aH rfl)) (all_map (fun _=>rfl) _) (aQR aQV))))) (zG []))
 refine zz ?_
 refine zk hr rfl (fun h56 hr=> ?_) (fun h56 hr=> ?_)
 ·refine zz ?_
  refine aQv ?_
  obtain⟨aNK,h_57,hr⟩:=aA hr
  obtain⟨q_2,h_58,hr⟩:=aA hr
  obtain⟨aIY,h_59,hr⟩:=aA hr
  refine aQM mixed [49] [] [[0,1,2,3,4,5,6,7,8,9,10,11]] ?_
  refine zz ?_
  refine xu (aEV h_59) ?_
  refine zz ?_
  refine aQv ?_
  obtain⟨aNZ,h_61,hr⟩:=aA hr
  obtain⟨aKP,h_62,hr⟩:=aA hr
  obtain⟨aLe,h_64,hr⟩:=aA hr
  refine aQM mixed [45] [] [[0,1,2,3,4,5,6,7,8,9,10]] ?_
  refine zz ?_
  refine xu (tE h_62) ?_
  refine zz ?_
  obtain rfl:=sj hr
  exact mZ Tryz.results31 aW aW (aQI (aQP (fr':=[(0,(.tup [(.row none 1 (aLe.map (eL 1 (eI .u8)))),(eI .i64 aIY.2)]))]) (h':=[some ⟨46,[(eI .i64 aJ),(.row none 1 (aX.map (eI .u8))),(eI .i64 o_M),(eI .i64 o_N)]⟩,some ⟨27,(bJ (eI .u8) aO [(eI .i64 aT),(eI .i64 bL)])⟩,some ⟨31,[aKP].map (eL 1 (eI .u8))⟩,none]) (aQB rfl (aQT (aQx (aQN (aH rfl) rfl rfl (dB (fun _=>rfl)) (by first|rfl|(simp only[aQA,bE,bF];done))) (aQx (aQy (aH rfl)) aQK))) aQU) (aQH (aQC (aH rfl)) rfl (aQH (aQC (aH rfl)) rfl (aQH (aQC (aH rfl)) (all_map (fun _=>rfl) _) (aQR aQV))))) (zG []))
 refine zz ?_
 refine zk hr rfl (fun h65 hr=> ?_) (fun h65 hr=> ?_)
 ·refine aQv ?_
  obtain⟨aNU,h_66,hr⟩:=aA hr
  obtain⟨aOn,h_67,hr⟩:=aA hr
  refine aQM mixed [50] [] [[0,1,2,3,4,5,6,7,8,9,10]] ?_
  refine zz ?_
  refine xu (aAR h_67) ?_
  refine zz ?_
  obtain rfl:=sj hr
  exact u6 Tryz.results31 []
 refine zz ?_
 refine zk hr rfl (fun h69 hr=> ?_) (fun h69 hr=> ?_)
 ·refine aQv ?_
  obtain⟨aND,h_70,hr⟩:=aA hr
  obtain⟨aNT,h_71,hr⟩:=aA hr
  refine aQM mixed [50] [] [[0,1,2,3,4,5,6,7,8,9,10]] ?_
  refine zz ?_
  refine xu (aAR h_71) ?_
  refine zz ?_
  obtain rfl:=sj hr
  exact u6 Tryz.results31 []
 refine zz ?_
 obtain rfl:=sj hr
 exact mZ Tryz.results31 aW aW (lI [])
theorem aHV {N:Nat}{b:List Int}{stack:List (List Int)}{aO:List Int}{aT bL:Int}{r:(List (List Int))×Int×Int}(hr:yK N b stack aO aT bL=some r):
  Vm.Fn Tryz.prog 10 [] [(.row none 1 (b.map (eI .u8))),(.row none 1 (stack.map (eL 1 (eI .u8)))),(.agg (bJ (eI .u8) aO [(eI .i64 aT),(eI .i64 bL)]))] (.tup [(.row none 1 (r.1.map (eL 1 (eI .u8)))),(eI .i64 r.2.1),(eI .i64 r.2.2)]) []:=by
 refine zf Tryz.func10 Tryz.ntmps10 ?_
 unfold yK at hr
 obtain⟨bI,h_1,hr⟩:=aA hr
 refine zz ?_
 refine zc (aFE h_1) [] ?_
 refine zz ?_
 refine aQv ?_
 refine zz ?_
 refine zk hr rfl (fun h2 hr=> ?_) (fun h2 hr=> ?_)
 ·refine zz ?_
  obtain rfl:=sj hr
  exact sK Tryz.results10 aW aW aW (lI [])
 refine zz ?_
 refine aQv ?_
 obtain⟨x27,h_3,hr⟩:=aA hr
 refine zz ?_
 refine zcL (aD4 h_3) [] [1] ?_
 refine zz ?_
 refine zk hr rfl (fun h4 hr=> ?_) (fun h4 hr=> ?_)
 ·refine zz ?_
  obtain rfl:=sj hr
  exact sK Tryz.results10 aW aW aW (lI [])
 refine zz ?_
 refine aQv ?_
 obtain⟨mX,h_5,hr⟩:=aA hr
 refine zz ?_
 refine xp (aGz h_5) ?_
 refine zz ?_
 refine zk hr rfl (fun h6 hr=> ?_) (fun h6 hr=> ?_)
 ·refine zz ?_
  obtain rfl:=sj hr
  exact sK Tryz.results10 aW aW aW (lI [])
 obtain⟨pR,h_7,hr⟩:=aA hr
 refine zz ?_
 refine zc (aEe h_7) [] ?_
 refine zz ?_
 refine aQz fun K1 hK1 hG1=> ?_
 have J1: ∀(vs:List (List Int))(cost:Int),aAp N vs cost=some r→K1 (aE 134 [(11,(.row none 1 (vs.map (eL 1 (eI .u8))))),(12,(eI .i64 cost))]) []:=by
  intro vs cost hr
  unfold aAp at hr
  refine hK1 _ _ ?_
  refine zz ?_
  obtain rfl:=sj hr
  exact zd3 Tryz.results10 []
 refine zz ?_
 refine aQD (zv 2) ?_
 obtain⟨a9,hL2,hr⟩:=aA hr
 refine aQw<|aQG (fun m s h=> ∃(f6:List (List Int))(iO x35:Int)(l1:List aR),cS N aO aT bL bI m f6 iO x35 l1=some a9∧Ghost 0 s h (aE 134 [(5,(.ptr 0 0)),(11,(.row none 1 (f6.map (eL 1 (eI .u8))))),(12,(eI .i64 iO)),(13,(.sl 1 0 l1.length 2 true)),(33,(.sl 2 0 bI.1.length 4 true)),(34,(eI .i64 (bI.1.length:Int))),(35,(eI .i64 x35))]) [some ⟨27,(bJ (eI .u8) aO [(eI .i64 aT),(eI .i64 bL)])⟩,some ⟨60,l1.flatMap aZ⟩,some ⟨46,bI.1.flatMap bT⟩]) (n:=N) ⟨pR,0,0,[],hL2,(zW 60 [0,3,1])⟩ (by rintro s h ⟨_,_,_,_,h0,_⟩;simp[cS]at h0) ?_
 rintro m2 s h ⟨f6,iO,x35,l1,hr2,hg⟩
 refine aQD hg ?_
 clear hg hL2
 rw[cS]at hr2
 refine zz ?_
 refine aQv ?_
 refine zk hr2 rfl (fun h8 hr2=> ?_) (fun h8 hr2=> ?_)
 ·refine zz ?_
  refine aQz fun K3 hK3 hG3=> ?_
  have J3: ∀(aFi:List (List Int))(aBb:Int)(d5:List aR),fC N aO aT bL bI x35 (cS N aO aT bL bI m2) aFi aBb d5=some a9→K3 (aE 134 [(5,(.ptr 0 0)),(11,(.row none 1 (aFi.map (eL 1 (eI .u8))))),(12,(eI .i64 aBb)),(13,(.sl 1 0 d5.length 2 true)),(33,(.sl 2 0 bI.1.length 4 true)),(34,(eI .i64 (bI.1.length:Int))),(35,(eI .i64 x35))]) [some ⟨27,(bJ (eI .u8) aO [(eI .i64 aT),(eI .i64 bL)])⟩,some ⟨60,d5.flatMap aZ⟩,some ⟨46,bI.1.flatMap bT⟩]:=by
   intro aFi aBb d5 hr2
   unfold fC at hr2
   refine hK3 _ _ ?_
   refine zz ?_
   exact⟨aFi,aBb,aQs.wrap (x35+1),d5,hr2,(zG [0,1,2])⟩
  refine aQw ?_
  obtain⟨x37,h_9,hr2⟩:=aA hr2
  refine zz ?_
  refine xw (v:=(.agg [(eI .i64 x37.Code),(.row none 1 (x37.Data.map (eI .u8))),(eI .i64 x37.M),(eI .i64 x37.N)])) (bO rfl (aJp (C:=bT) (K:=4) (fun _=>rfl) rfl h_9 (zN (ds:=[(eI .i64 x37.Code),(.row none 1 (x37.Data.map (eI .u8))),(eI .i64 x37.M),(eI .i64 x37.N)]) xE rfl zl rfl))) ?_
  obtain⟨x40,h_10,hr2⟩:=aA hr2
  refine zz ?_
  refine zcL (aEF h_10) [] [1] ?_
  refine zz ?_
  refine aQz fun K4 hK4 hG4=> ?_
  have J4: ∀(fF:Bool),pW N aO aT bL bI f6 iO x35 l1 x37 (cS N aO aT bL bI m2) fF=some a9→K4 (aE 134 [(5,(.ptr 0 0)),(11,(.row none 1 (f6.map (eL 1 (eI .u8))))),(12,(eI .i64 iO)),(13,(.sl 1 0 l1.length 2 true)),(15,(.ptr 2 0)),(16,(eB fF)),(33,(.sl 3 0 bI.1.length 4 true)),(34,(eI .i64 (bI.1.length:Int))),(35,(eI .i64 x35))]) [some ⟨27,(bJ (eI .u8) aO [(eI .i64 aT),(eI .i64 bL)])⟩,some ⟨60,l1.flatMap aZ⟩,some ⟨46,[(eI .i64 x37.Code),(.row none 1 (x37.Data.map (eI .u8))),(eI .i64 x37.M),(eI .i64 x37.N)]⟩,some ⟨46,bI.1.flatMap bT⟩]:=by
   intro fF hr2
   unfold pW at hr2
   refine hK4 _ _ ?_
   refine aQz fun K5 hK5 hG5=> ?_
   have J5: ∀(jU:Int),pH N aO aT bL bI f6 x35 l1 x37 fF (cS N aO aT bL bI m2) jU=some a9→K5 (aE 134 [(5,(.ptr 0 0)),(11,(.row none 1 (f6.map (eL 1 (eI .u8))))),(12,(eI .i64 jU)),(13,(.sl 1 0 l1.length 2 true)),(15,(.ptr 2 0)),(16,(eB fF)),(33,(.sl 3 0 bI.1.length 4 true)),(34,(eI .i64 (bI.1.length:Int))),(35,(eI .i64 x35))]) [some ⟨27,(bJ (eI .u8) aO [(eI .i64 aT),(eI .i64 bL)])⟩,some ⟨60,l1.flatMap aZ⟩,some ⟨46,[(eI .i64 x37.Code),(.row none 1 (x37.Data.map (eI .u8))),(eI .i64 x37.M),(eI .i64 x37.N)]⟩,some ⟨46,bI.1.flatMap bT⟩]:=by
    intro jU hr2
    unfold pH at hr2
    refine hK5 _ _<|aQw ?_
    refine zz ?_
    refine zk hr2 rfl (fun h11 hr2=> ?_) (fun h11 hr2=> ?_)
    ·refine zz ?_
     refine aQz fun K6 hK6 hG6=> ?_
     have J6: ∀(aE3:List (List Int))(c2:Bool),pK N aO aT bL bI x35 l1 fF jU (cS N aO aT bL bI m2) aE3 c2=some a9→K6 (aE 134 [(5,(.ptr 0 0)),(11,(.row none 1 (aE3.map (eL 1 (eI .u8))))),(12,(eI .i64 jU)),(13,(.sl 1 0 l1.length 2 true)),(17,(.ptr 2 0)),(33,(.sl 3 0 bI.1.length 4 true)),(34,(eI .i64 (bI.1.length:Int))),(35,(eI .i64 x35))]) [some ⟨27,(bJ (eI .u8) aO [(eI .i64 aT),(eI .i64 bL)])⟩,some ⟨60,l1.flatMap aZ⟩,some ⟨60,[(eB fF),(eB c2)]⟩,some ⟨46,bI.1.flatMap bT⟩]:=by
      intro aE3 c2 hr2
      unfold pK at hr2
      refine hK6 _ _ ?_
      obtain⟨x91,h_12,hr2⟩:=aA hr2
      refine zz ?_
      refine xw (v:=(.sl 4 0 1 2 true)) (h':=[some ⟨27,(bJ (eI .u8) aO [(eI .i64 aT),(eI .i64 bL)])⟩,some ⟨60,l1.flatMap aZ⟩,some ⟨60,[(eB fF),(eB c2)]⟩,some ⟨46,bI.1.flatMap bT⟩,some ⟨60,[(aR.mk fF c2)].flatMap aZ⟩]) (qM rfl (aCU (C:=aZ) (xs:=[(aR.mk fF c2)]) (K:=2) (fun _=>rfl) (fun _=>rfl) aK2 aDE ⟨zl,zl,zl⟩ rfl rfl rfl rfl rfl rfl)) ?_
      refine zz ?_
      exact hG3 _ _ _ _ (zG [0,5,3]) (J3 aE3 jU x91 hr2)
     refine zz ?_
     refine zk hr2 rfl (fun h13 hr2=> ?_) (fun h13 hr2=> ?_)
     ·obtain⟨x79,h_14,hr2⟩:=aA hr2
      obtain⟨x81,h_15,hr2⟩:=aA hr2
      refine zz ?_
      refine xp (y8 h_15) ?_
      obtain⟨x87,h_16,hr2⟩:=aA hr2
      refine zz ?_
      exact hG6 _ _ _ _ (zG [0,1,4,3]) (J6 x87 x81 hr2)
     refine zz ?_
     exact hG6 _ _ _ _ (zG [0,1,4,3]) (J6 f6 false hr2)
    refine zz ?_
    refine zk hr2 rfl (fun h17 hr2=> ?_) (fun h17 hr2=> ?_)
    ·obtain⟨zA,h_18,hr2⟩:=aA hr2
     refine zz ?_
     refine xw (v:=(eB zA.done)) (bO rfl (aGJ (C:=aZ) (K:=2) (off:=1) (fun _=>rfl) rfl h_18 zl (l5 yP rfl rfl))) ?_
     refine zz ?_
     refine xy (h':=[some ⟨27,(bJ (eI .u8) aO [(eI .i64 aT),(eI .i64 bL)])⟩,some ⟨60,(l1.set (aQJ (aQs.wrap ((l1.length:Int)-1))) (aR.mk zA.reached (!zA.done))).flatMap aZ⟩,some ⟨46,[(eI .i64 x37.Code),(.row none 1 (x37.Data.map (eI .u8))),(eI .i64 x37.M),(eI .i64 x37.N)]⟩,some ⟨46,bI.1.flatMap bT⟩]) (aY rfl rfl (aNI (C:=aZ) (K:=2) (off:=1) (fun _=>rfl) yP rfl h_18 rfl rfl zl rfl rfl)) ?_
     refine zz ?_
     exact hG3 _ _ _ _ (lI [0,1,3]) (J3 f6 jU (l1.set (aQJ (aQs.wrap ((l1.length:Int)-1))) (aR.mk zA.reached (!zA.done))) hr2)
    refine zz ?_
    refine zk hr2 rfl (fun h19 hr2=> ?_) (fun h19 hr2=> ?_)
    ·obtain⟨zD,h_20,hr2⟩:=aA hr2
     refine zz ?_
     refine xw (v:=(.sl 1 0 zD.length 2 true)) (b7 rfl rfl rfl (aEC (l:=l1) rfl aK2 aDE rfl rfl rfl h_20)) ?_
     refine aQQ (Ghost.cutF (t:=118) (C:=aZ) (l:=l1) (K:=2) (h':=[some ⟨27,(bJ (eI .u8) aO [(eI .i64 aT),(eI .i64 bL)])⟩,some ⟨60,zD.flatMap aZ⟩,some ⟨46,[(eI .i64 x37.Code),(.row none 1 (x37.Data.map (eI .u8))),(eI .i64 x37.M),(eI .i64 x37.N)]⟩,some ⟨46,bI.1.flatMap bT⟩]) (fun _=>rfl) rfl rfl h_20 rfl) ?_
     refine zz ?_
     exact hG3 _ _ _ _ (zG [0,1,3]) (J3 f6 jU zD hr2)
    refine zz ?_
    refine zk hr2 rfl (fun h21 hr2=> ?_) (fun h21 hr2=> ?_)
    ·obtain⟨aHj,h_22,hr2⟩:=aA hr2
     refine zz ?_
     refine xp (aGr h_22) ?_
     refine zz ?_
     refine zk hr2 rfl (fun h23 hr2=> ?_) (fun h23 hr2=> ?_)
     ·refine zz ?_
      obtain rfl:=sj hr2
      obtain rfl:=sj hr
      exact sK Tryz.results10 aW aW aW (lI [])
     refine zz ?_
     exact hG3 _ _ _ _ (zG [0,1,3]) (J3 aHj.1 jU l1 hr2)
    refine zz ?_
    exact hG3 _ _ _ _ (zG [0,1,3]) (J3 f6 jU l1 hr2)
   refine zz ?_
   refine zk hr2 rfl (fun h24 hr2=> ?_) (fun h24 hr2=> ?_)
   ·refine aQv ?_
    obtain⟨x59,h_25,hr2⟩:=aA hr2
    refine zz ?_
    refine xp (aFu h_25) ?_
    refine zz ?_
    refine zk hr2 rfl (fun h26 hr2=> ?_) (fun h26 hr2=> ?_)
    ·refine zz ?_
     obtain rfl:=sj hr2
     obtain rfl:=sj hr
     exact sK Tryz.results10 aW aW aW (lI [])
    obtain⟨x66,h_27,hr2⟩:=aA hr2
    refine zz ?_
    refine xp (aFA h_27) ?_
    refine zz ?_
    refine zk hr2 rfl (fun h28 hr2=> ?_) (fun h28 hr2=> ?_)
    ·refine zz ?_
     obtain rfl:=sj hr2
     obtain rfl:=sj hr
     exact sK Tryz.results10 aW aW aW (lI [])
    refine zz ?_
    exact hG5 _ _ _ _ (zG [0,1,2,3]) (J5 (aQs.wrap (iO+x59)) hr2)
   refine zz ?_
   exact hG5 _ _ _ _ (zG [0,1,2,3]) (J5 iO hr2)
  refine aQz fun K7 hK7 hG7=> ?_
  have J7: ∀(x48:Bool),mN N aO aT bL bI f6 iO x35 l1 x37 x40 (cS N aO aT bL bI m2) x48=some a9→K7 (aE 134 [(5,(.ptr 0 0)),(11,(.row none 1 (f6.map (eL 1 (eI .u8))))),(12,(eI .i64 iO)),(13,(.sl 1 0 l1.length 2 true)),(15,(.ptr 2 0)),(16,(eB x40)),(33,(.sl 3 0 bI.1.length 4 true)),(34,(eI .i64 (bI.1.length:Int))),(35,(eI .i64 x35)),(48,(eB x48))]) [some ⟨27,(bJ (eI .u8) aO [(eI .i64 aT),(eI .i64 bL)])⟩,some ⟨60,l1.flatMap aZ⟩,some ⟨46,[(eI .i64 x37.Code),(.row none 1 (x37.Data.map (eI .u8))),(eI .i64 x37.M),(eI .i64 x37.N)]⟩,some ⟨46,bI.1.flatMap bT⟩]:=by
   intro x48 hr2
   unfold mN at hr2
   refine hK7 _ _ ?_
   refine zk hr2 rfl (fun h29 hr2=> ?_) (fun h29 hr2=> ?_)
   ·obtain⟨x53,h_30,hr2⟩:=aA hr2
    refine zz ?_
    refine xw (v:=(eB x53.reached)) (bO rfl (aGJ (C:=aZ) (K:=2) (off:=0) (fun _=>rfl) rfl h_30 zl (l5 yP rfl rfl))) ?_
    refine zz ?_
    exact hG4 _ _ _ _ (zG [0,1,2,3]) (J4 x53.reached hr2)
   refine zz ?_
   exact hG4 _ _ _ _ (zG [0,1,2,3]) (J4 x40 hr2)
  rcases aQt (x37.Code == 15)with h31|h31
  ·replace hr2:=cU hr2 h31
   refine xr ?_
   refine zz ?_
   exact hG7 _ _ _ _ (zG [0,1,3,2]) (J7 true hr2)
  replace hr2:=cQ hr2 h31
  refine xr ?_
  refine zz ?_
  exact hG7 _ _ _ _ (zG [0,1,3,2]) (J7 (x37.Code == 16) hr2)
 refine zz ?_
 obtain rfl:=sj hr2
 refine zz ?_
 exact hG1 _ _ _ _ (zG []) (J1 f6 iO hr)
theorem sQ {N:Nat}{va b:List (List Int)}{r:Bool}(hr:oA N va b=some r):
  Vm.Fn Tryz.prog 11 [] [(.row none 1 (va.map (eL 1 (eI .u8)))),(.row none 1 (b.map (eL 1 (eI .u8))))] (eB r) []:=by
 refine zf Tryz.func11 Tryz.ntmps11 ?_
 unfold oA at hr
 refine zz ?_
 refine aQv ?_
 refine zz ?_
 refine zk hr rfl (fun h1 hr=> ?_) (fun h1 hr=> ?_)
 ·refine zz ?_
  obtain rfl:=sj hr
  exact bK Tryz.results11 []
 refine zz ?_
 refine aQz fun K1 hK1 hG1=> ?_
 have J1:sL N=some r→K1 (aE 27 []) []:=by
  intro hr
  unfold sL at hr
  refine hK1 _ _ ?_
  refine zz ?_
  obtain rfl:=sj hr
  exact bK Tryz.results11 []
 obtain⟨a9,hL2,hr⟩:=aA hr
 refine zz ?_
 refine aQw<|aQG (fun m s h=> ∃(cB:Int),fZ N va b m cB=some a9∧Ghost 0 s h (aE 27 [(0,(.row none 1 (va.map (eL 1 (eI .u8))))),(1,(.row none 1 (b.map (eL 1 (eI .u8))))),(12,(eI .i64 (va.length:Int))),(13,(eI .i64 cB))]) []) (n:=N) ⟨0,hL2,(zG [])⟩ (by rintro s h ⟨_,h0,_⟩;simp[fZ]at h0) ?_
 rintro m2 s h ⟨cB,hr2,hg⟩
 refine aQD hg ?_
 clear hg hL2
 rw[fZ]at hr2
 refine zz ?_
 refine aQv ?_
 refine zk hr2 rfl (fun h2 hr2=> ?_) (fun h2 hr2=> ?_)
 ·refine zz ?_
  refine aQv<|aQw ?_
  refine zz ?_
  refine aQv ?_
  obtain⟨x18,h_3,hr2⟩:=aA hr2
  obtain⟨bN,h_4,hr2⟩:=aA hr2
  obtain⟨dO,h_5,hr2⟩:=aA hr2
  refine aQM mixed [32] [] [[0,1,2,3,4,5,6,7,8,9]] ?_
  refine zz ?_
  refine xu (aCb h_5) ?_
  refine zz ?_
  refine zk hr2 rfl (fun h7 hr2=> ?_) (fun h7 hr2=> ?_)
  ·refine zz ?_
   obtain rfl:=sj hr2
   obtain rfl:=sj hr
   exact bK Tryz.results11 []
  refine zz ?_
  exact⟨aQs.wrap (cB+1),hr2,(zG [])⟩
 refine zz ?_
 obtain rfl:=sj hr2
 refine zz ?_
 exact hG1 _ _ _ _ (zG []) (J1 hr)
theorem aCg {N:Nat}{l:List aK}{stack:List (List Int)}{aO:List Int}{aT bL:Int}{r:Bool}(hr:nO N l stack aO aT bL=some r):
  Vm.Fn Tryz.prog 3 [] [(.row none 4 (l.map eQ)),(.row none 1 (stack.map (eL 1 (eI .u8)))),(.agg (bJ (eI .u8) aO [(eI .i64 aT),(eI .i64 bL)]))] (eB r) []:=by
 refine zf Tryz.func3 Tryz.ntmps3 ?_
 unfold nO at hr
 refine zz ?_
 refine aQv ?_
 obtain⟨x15,h_1,hr⟩:=aA hr
 refine zz ?_
 refine xp (aGn h_1) ?_
 refine zz ?_
 refine zk hr rfl (fun h2 hr=> ?_) (fun h2 hr=> ?_)
 ·refine zz ?_
  obtain rfl:=sj hr
  exact bK Tryz.results3 []
 refine zz ?_
 refine aQv ?_
 refine aQz fun K1 hK1 hG1=> ?_
 have J1: ∀(dO:Bool),gJ N l stack aO aT bL dO=some r→K1 (aE 70 [(0,(.row none 4 (l.map eQ))),(1,(.row none 1 (stack.map (eL 1 (eI .u8))))),(5,(.ptr 0 0)),(24,(eB dO))]) [some ⟨27,(bJ (eI .u8) aO [(eI .i64 aT),(eI .i64 bL)])⟩]:=by
  intro dO hr
  unfold gJ at hr
  refine hK1 _ _ ?_
  refine zk hr rfl (fun h3 hr=> ?_) (fun h3 hr=> ?_)
  ·refine zz ?_
   obtain rfl:=sj hr
   exact bK Tryz.results3 []
  obtain⟨x27,h_4,hr⟩:=aA hr
  refine zz ?_
  refine zc (aDe h_4) [] ?_
  refine zz ?_
  refine aQv ?_
  refine zz ?_
  refine zk hr rfl (fun h5 hr=> ?_) (fun h5 hr=> ?_)
  ·refine zz ?_
   obtain rfl:=sj hr
   exact bK Tryz.results3 []
  obtain⟨x36,h_6,hr⟩:=aA hr
  refine zz ?_
  refine aQQ (aQP (fr':=[(0,(.row none 4 (l.map eQ))),(1,(.row none 1 (stack.map (eL 1 (eI .u8))))),(5,(.ptr 0 0)),(7,(.row none 1 (x27.1.map (eI .u8)))),(8,(eI .i64 x27.2)),(24,(eB dO)),(25,(.tup [(.row none 1 (x27.1.map (eI .u8))),(eI .i64 x27.2)])),(26,(.row none 4 (l.map eQ))),(27,(.tup [(.row none 1 (x27.1.map (eI .u8))),(eI .i64 x27.2)])),(28,(.row none 1 (x27.1.map (eI .u8)))),(29,(eI .i64 x27.2)),(30,(eI .i64 x27.2)),(31,(eB (x27.2 != 0))),(33,(.row none 1 (x27.1.map (eI .u8)))),(34,(.row none 1 (stack.map (eL 1 (eI .u8))))),(35,(.agg (bJ (eI .u8) aO [(eI .i64 aT),(eI .i64 bL)])))]) (h':=[some ⟨27,(bJ (eI .u8) aO [(eI .i64 aT),(eI .i64 bL)])⟩,none]) (aQB rfl (aQy (aH rfl)) (aQB rfl (aQy (aH rfl)) (aQB rfl (aQy (aH rfl)) (aQB rfl (aQN (aH rfl) rfl rfl (dB (fun _=>rfl)) (by first|rfl|(simp only[aQA,bE,bF];done))) (aQB rfl (aQy (aH rfl)) (aQB rfl (aQy (aH rfl)) (aQB rfl (aQT (aQx (aQN (aH rfl) rfl rfl (dB (fun _=>rfl)) (by first|rfl|(simp only[aQA,bE,bF];done))) (aQx (aQy (aH rfl)) aQK))) (aQB rfl (aQy (aH rfl)) (aQB rfl (aQT (aQx (aQN (aH rfl) rfl rfl (dB (fun _=>rfl)) (by first|rfl|(simp only[aQA,bE,bF];done))) (aQx (aQy (aH rfl)) aQK))) (aQB rfl (aQN (aH rfl) rfl rfl (dB (fun _=>rfl)) (by first|rfl|(simp only[aQA,bE,bF];done))) (aQB rfl (aQy (aH rfl)) (aQB rfl (aQy (aH rfl)) (aQB rfl (aQy (aH rfl)) (aQB rfl (aQN (aH rfl) rfl rfl (dB (fun _=>rfl)) (by first|rfl|(simp only[aQA,bE,bF];done))) (aQB rfl (aQy (aH rfl)) (aQB rfl (aQy (aH rfl)) aQU)))))))))))))))) (aQH (aQC (aH rfl)) rfl (aQR aQV))) ?_
  refine zc (aB5 h_6) [] ?_
  obtain⟨x44,h_7,hr⟩:=aA hr
  refine zz ?_
  refine xp (aHV h_7) ?_
  refine zz ?_
  refine aQz fun K2 hK2 hG2=> ?_
  have J2: ∀(x6:Bool),f7 N x6=some r→K2 (aE 70 [(6,(eB x6))]) []:=by
   intro x6 hr
   unfold f7 at hr
   refine hK2 _ _ ?_
   refine zz ?_
   obtain rfl:=sj hr
   exact bK Tryz.results3 []
  rcases aQt (x36.2.2 == x44.2.2)with h8|h8
  ·replace hr:=cU hr h8
   rcases aQt (x36.2.1 == x44.2.1)with h9|h9
   ·replace hr:=cU hr h9
    obtain⟨x59,h_10,hr⟩:=aA hr
    rcases aQt x59 with h11|h11
    ·replace hr:=cU hr h11
     rcases aQt (decide (x36.2.1≤500))with h12|h12
     ·replace hr:=cU hr h12
      refine xr ?_
      refine zz ?_
      refine wQ (v:=(eB x59)) (h':=[some ⟨27,(bJ (eI .u8) aO [(eI .i64 aT),(eI .i64 bL)])⟩,none,some ⟨31,x36.1.map (eL 1 (eI .u8))⟩]) rfl rfl h9 rfl (zL (sQ h_10) [] [2]) ?_
      refine zz ?_
      exact hG2 _ _ _ _ (zG []) (J2 (decide ((x36.1.length:Int)≤64)) hr)
     replace hr:=cQ hr h12
     refine xr ?_
     refine zz ?_
     refine wQ (v:=(eB x59)) (h':=[some ⟨27,(bJ (eI .u8) aO [(eI .i64 aT),(eI .i64 bL)])⟩,none,some ⟨31,x36.1.map (eL 1 (eI .u8))⟩]) rfl rfl h9 rfl (zL (sQ h_10) [] [2]) ?_
     refine zz ?_
     exact hG2 _ _ _ _ (zG []) (J2 false hr)
    replace hr:=cQ hr h11
    refine xr ?_
    refine zz ?_
    refine wQ (v:=(eB x59)) (h':=[some ⟨27,(bJ (eI .u8) aO [(eI .i64 aT),(eI .i64 bL)])⟩,none,some ⟨31,x36.1.map (eL 1 (eI .u8))⟩]) rfl rfl h9 rfl (zL (sQ h_10) [] [2]) ?_
    refine zz ?_
    refine xX rfl<|xX rfl<|xX rfl ?_
    refine zz ?_
    exact hG2 _ _ _ _ (zG []) (J2 false hr)
   replace hr:=cQ hr h9
   refine xr ?_
   refine zz ?_
   refine xX rfl<|xX rfl ?_
   refine zz ?_
   refine xX rfl<|xX rfl<|xX rfl ?_
   refine zz ?_
   exact hG2 _ _ _ _ (zG []) (J2 false hr)
  replace hr:=cQ hr h8
  refine xr ?_
  refine zz ?_
  refine xX rfl<|xX rfl<|xX rfl ?_
  refine zz ?_
  refine xX rfl<|xX rfl ?_
  refine zz ?_
  refine xX rfl<|xX rfl<|xX rfl ?_
  refine zz ?_
  exact hG2 _ _ _ _ (zG []) (J2 false hr)
 obtain⟨x18,h_13,hr⟩:=aA hr
 rcases aQt (!x18)with h14|h14
 ·replace hr:=cU hr h14
  refine xr ?_
  refine zz ?_
  refine xp (aDt h_13) ?_
  refine zz ?_
  exact hG1 _ _ _ _ (zG [0]) (J1 true hr)
 replace hr:=cQ hr h14
 obtain⟨bN,h_15,hr⟩:=aA hr
 refine xr ?_
 refine zz ?_
 refine xp (aDt h_13) ?_
 refine zz ?_
 refine wQ (v:=(eB bN)) (h':=[some ⟨27,(bJ (eI .u8) aO [(eI .i64 aT),(eI .i64 bL)])⟩]) rfl rfl h14 rfl (Vm.Fn.pure (aGm h_15) rfl rfl) ?_
 refine zz ?_
 exact hG1 _ _ _ _ (zG [0]) (J1 (!bN) hr)
end Go.Proofs.YtnllpckhipmpgaaGreatDoor
