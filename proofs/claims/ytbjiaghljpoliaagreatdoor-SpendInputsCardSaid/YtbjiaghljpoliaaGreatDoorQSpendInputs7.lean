/- Texts of ours, joined: Wk2. -/
import Derived.Test.YtbjiaghljpoliaaGreatDoorQSpendInputs6
open Go.IntKind renaming i64 → aVO,u32 → aVX,u8 → aWb,max → aWj
open List renaming replicate → aVP,length_map → aV6,forall_mem_cons → aV8
open Go.Vm.DrawG renaming pick → aVQ,fork → aV3,jg → aV4,nil → aWa,jn → aWi
open Bool renaming eq_false_or_eq_true → aVR
open Go.Vm.AB renaming seq → aVS,block → aVU,seq_g → aVV,ghost → aV1,loopN → aV2,rs → aV5
open Go.Vm.Conv renaming same → aVT,row → aWg,agg → aWl
open Go.Vm.Convs renaming cons → aVW,nil → aV9,same → aWc
open Go.Vm.Fork renaming cons → aVY,nil → aV7
open Go.Vm.FCv renaming cons → aVZ
open Int renaming toNat → aV0
open Go.Vm.OpsX renaming ghost → aWd
open Go.Vm.HCv renaming live → aWe
open Go.Vm.Ghost renaming trans → aWf,virt → aWh,conv → aWk
set_option linter.unusedVariables false
set_option linter.unusedSimpArgs false
set_option maxRecDepth 20000
set_option maxHeartbeats 1000000
namespace Go.Proofs.YtbjiaghljpoliaaGreatDoor
open Go Go.Vm
theorem aJv {N:Nat}{va b vm:List Int}{r:(List Int)}(hr:z7 N va b vm=some r):
  Vm.Fn Tryz.prog 165 [] [(.agg (va.map (eI .u64))),(.agg (b.map (eI .u64))),(.agg (vm.map (eI .u64)))] (.agg (r.map (eI .u64))) []:=by
 refine zf Tryz.func165 Tryz.ntmps165 ?_
 unfold z7 at hr
 refine zz ?_
 refine aVS ?_
 obtain⟨q,h_1,hr⟩:=aC hr
 refine zz ?_
 refine xw (v:=(.agg ([0,0,0,0].map (eI .u64)))) (cE rfl (nB b8 nA rfl)) ?_
 refine zz ?_
 refine zk hr rfl (fun h2 hr=> ?_) (fun h2 hr=> ?_)
 ·refine zz ?_
  refine xw (v:=(.agg ([0,0,0,0].map (eI .u64)))) (cE rfl (nB b8 nA rfl)) ?_
  refine zz ?_
  obtain rfl:=sj hr
  exact iA Tryz.results165 bH (zG [])
 obtain⟨q_1,h_3,hr⟩:=aC hr
 obtain⟨q_2,h_4,hr⟩:=aC hr
 obtain⟨x19,h_5,hr⟩:=aC hr
 obtain⟨q_3,h_6,hr⟩:=aC hr
 obtain⟨q_4,h_7,hr⟩:=aC hr
 refine zz ?_
 refine xp (aMG h_5) ?_
 refine zz ?_
 refine aVS ?_
 obtain⟨x25,h_8,hr⟩:=aC hr
 obtain⟨x28,h_10,hr⟩:=aC hr
 obtain⟨q_5,h_12,hr⟩:=aC hr
 obtain⟨q_6,h_13,hr⟩:=aC hr
 refine AB.rd (fQ [175,176]) (fQ []) mixed<|aVQ (n:=14) (i:=0) (by decide +kernel) rfl (gS (v:=(.agg (x19.1.map (eI .u64)))) (sv (cA rfl (ldA (E:=(eI .u64)) (l:=x19.1) b8 rfl rfl (bE h_6)))))<|aVQ (n:=13) (i:=1) (by decide +kernel) rfl (gS (v:=(.agg (vm.map (eI .u64)))) (sv (cA rfl (ldA (E:=(eI .u64)) (l:=vm) b8 rfl rfl (bE h_1)))))<|aVQ (n:=12) (i:=2) (by decide +kernel) rfl (gU (fun _=>(Vm.Fn.pure (aBJ h_8) zR zR)) rfl (sv (lS rfl xO)))<|aVQ (n:=11) (i:=3) (by decide +kernel) rfl (gS (v:=(.agg (x19.2.map (eI .u64)))) (sv (cA rfl (ldA (E:=(eI .u64)) (l:=x19.2) b8 rfl rfl (bE h_7))))) ?_
 refine aVQ (n:=10) (i:=4) (by decide +kernel) rfl (gS (v:=(.agg (vm.map (eI .u64)))) (sv (cA rfl (ldA (E:=(eI .u64)) (l:=vm) b8 rfl rfl (bE h_1)))))<|aVQ (n:=9) (i:=5) (by decide +kernel) rfl (gU (fun _=>(Vm.Fn.pure (aGW h_10) zR zR)) rfl (sv (lS rfl xO)))<|aVQ (n:=8) (i:=6) (by decide +kernel) rfl (gS (v:=(.tup [(.agg (x28.1.map (eI .u64))),(.agg (x28.2.1.map (eI .u64))),(eB x28.2.2)])) (sv (mI rfl)))<|aVQ (n:=7) (i:=7) (by decide +kernel) rfl (gS (v:=(.agg (x28.1.map (eI .u64)))) (sv (aGH rfl rfl)))<|aVQ (n:=6) (i:=8) (by decide +kernel) rfl (gS (v:=(.agg (x28.2.1.map (eI .u64)))) (sv (aGH rfl rfl))) ?_
 refine aVQ (n:=5) (i:=9) (by decide +kernel) rfl (gS (v:=(eB x28.2.2)) (sv (aGH rfl rfl))) ?_
 refine aWi (m:=1) (L:=lst [0,1,2,3,4,5,6,7,8,9,10,11,12,13] 15) (s1:=aI 33 [(6,(.ptr 0 0)),(10,(.ptr 1 0)),(31,(eB x28.2.2))]) (h1:=[some ⟨135,(aVP 4 0).map (eI .u64)⟩,some ⟨135,x28.2.1.map (eI .u64)⟩]) ?_ (fun J=> ?_)
 ·refine aVQ (n:=0) (i:=14) (by decide +kernel) rfl (gS (v:=(eB x28.2.2)) (sv (pA rfl)))<|aWa (by decide +kernel) ?_
  refine zz ?_
  obtain rfl:=sj hr
  exact iA Tryz.results165 bH (zG [])
 refine aV3 (n:=4) [10,11] (by decide +kernel) (by decide) ?_
 refine(aVY rfl (gS (v:=(.ptr 6 0)) (h':=[some ⟨135,va.map (eI .u64)⟩,some ⟨135,b.map (eI .u64)⟩,some ⟨135,vm.map (eI .u64)⟩,some ⟨135,(aVP 4 0).map (eI .u64)⟩,some ⟨135,x19.1.map (eI .u64)⟩,some ⟨135,x19.2.map (eI .u64)⟩,some ⟨135,(aVP 4 0).map (eI .u64)⟩]) (sv (dR b8 rfl rfl rfl))) ?_ (aVY rfl (gS (v:=(.ptr 6 0)) (h':=[some ⟨135,va.map (eI .u64)⟩,some ⟨135,b.map (eI .u64)⟩,some ⟨135,vm.map (eI .u64)⟩,some ⟨135,(aVP 4 0).map (eI .u64)⟩,some ⟨135,x19.1.map (eI .u64)⟩,some ⟨135,x19.2.map (eI .u64)⟩,some ⟨135,(aVP 4 0).map (eI .u64)⟩]) (sv (dR b8 rfl rfl rfl))) ?_ aV7))
 ·refine aVQ (n:=3) (i:=11) (by decide +kernel) rfl (gS (v:=(.ptr 7 0)) (h':=[some ⟨135,va.map (eI .u64)⟩,some ⟨135,b.map (eI .u64)⟩,some ⟨135,vm.map (eI .u64)⟩,some ⟨135,(aVP 4 0).map (eI .u64)⟩,some ⟨135,x19.1.map (eI .u64)⟩,some ⟨135,x19.2.map (eI .u64)⟩,some ⟨135,(aVP 4 0).map (eI .u64)⟩,some ⟨135,(aVP 4 0).map (eI .u64)⟩]) (sv (dR b8 rfl rfl rfl)))<|aVQ (n:=2) (i:=12) (by decide +kernel) rfl (gN (h':=[some ⟨135,va.map (eI .u64)⟩,some ⟨135,b.map (eI .u64)⟩,some ⟨135,vm.map (eI .u64)⟩,some ⟨135,(aVP 4 0).map (eI .u64)⟩,some ⟨135,x19.1.map (eI .u64)⟩,some ⟨135,x19.2.map (eI .u64)⟩,some ⟨135,x28.1.map (eI .u64)⟩,some ⟨135,(aVP 4 0).map (eI .u64)⟩]) (sv (bN rfl rfl (zA (E:=(eI .u64)) (l:=aVP 4 0) b8 rfl rfl (fun _=>rfl) rfl (bE h_12) rfl)))) ?_
  refine aVQ (n:=1) (i:=13) (by decide +kernel) rfl (gN (h':=[some ⟨135,va.map (eI .u64)⟩,some ⟨135,b.map (eI .u64)⟩,some ⟨135,vm.map (eI .u64)⟩,some ⟨135,(aVP 4 0).map (eI .u64)⟩,some ⟨135,x19.1.map (eI .u64)⟩,some ⟨135,x19.2.map (eI .u64)⟩,some ⟨135,x28.1.map (eI .u64)⟩,some ⟨135,x28.2.1.map (eI .u64)⟩]) (sv (bN rfl rfl (zA (E:=(eI .u64)) (l:=aVP 4 0) b8 rfl rfl (fun _=>rfl) rfl (bE h_13) rfl)))) ?_
  exact aV4 (by decide +kernel) (by decide +kernel) (zG [3,7]) J
 refine aVQ (n:=3) (i:=10) (by decide +kernel) rfl (gS (v:=(.ptr 7 0)) (h':=[some ⟨135,va.map (eI .u64)⟩,some ⟨135,b.map (eI .u64)⟩,some ⟨135,vm.map (eI .u64)⟩,some ⟨135,(aVP 4 0).map (eI .u64)⟩,some ⟨135,x19.1.map (eI .u64)⟩,some ⟨135,x19.2.map (eI .u64)⟩,some ⟨135,(aVP 4 0).map (eI .u64)⟩,some ⟨135,(aVP 4 0).map (eI .u64)⟩]) (sv (dR b8 rfl rfl rfl)))<|aVQ (n:=2) (i:=12) (by decide +kernel) rfl (gN (h':=[some ⟨135,va.map (eI .u64)⟩,some ⟨135,b.map (eI .u64)⟩,some ⟨135,vm.map (eI .u64)⟩,some ⟨135,(aVP 4 0).map (eI .u64)⟩,some ⟨135,x19.1.map (eI .u64)⟩,some ⟨135,x19.2.map (eI .u64)⟩,some ⟨135,(aVP 4 0).map (eI .u64)⟩,some ⟨135,x28.1.map (eI .u64)⟩]) (sv (bN rfl rfl (zA (E:=(eI .u64)) (l:=aVP 4 0) b8 rfl rfl (fun _=>rfl) rfl (bE h_12) rfl)))) ?_
 refine aVQ (n:=1) (i:=13) (by decide +kernel) rfl (gN (h':=[some ⟨135,va.map (eI .u64)⟩,some ⟨135,b.map (eI .u64)⟩,some ⟨135,vm.map (eI .u64)⟩,some ⟨135,(aVP 4 0).map (eI .u64)⟩,some ⟨135,x19.1.map (eI .u64)⟩,some ⟨135,x19.2.map (eI .u64)⟩,some ⟨135,x28.2.1.map (eI .u64)⟩,some ⟨135,x28.1.map (eI .u64)⟩]) (sv (bN rfl rfl (zA (E:=(eI .u64)) (l:=aVP 4 0) b8 rfl rfl (fun _=>rfl) rfl (bE h_13) rfl)))) ?_
 exact aV4 (by decide +kernel) (by decide +kernel) (zG [3,6]) J
theorem aDy {N:Nat}{va b:List Int}{r:(List Int)}(hr:wF N va b=some r):
  Vm.Fn Tryz.prog 152 [] [(.agg (va.map (eI .u64))),(.agg (b.map (eI .u64)))] (.agg (r.map (eI .u64))) []:=by
 refine zf Tryz.func152 Tryz.ntmps152 ?_
 unfold wF at hr
 refine zz ?_
 refine aVS ?_
 obtain⟨q,h_1,hr⟩:=aC hr
 obtain⟨q_1,h_2,hr⟩:=aC hr
 obtain⟨x7,h_3,hr⟩:=aC hr
 obtain⟨x8,h_5,hr⟩:=aC hr
 obtain⟨q_2,h_7,hr⟩:=aC hr
 refine aV5 mixed [164,165] [] [[0,1,2,3,4]] ?_
 refine zz ?_
 refine xu (aDv h_3)<|xu (aJv h_5) ?_
 refine zz ?_
 obtain rfl:=sj hr
 exact iA Tryz.results152 bH (zG [])
theorem aDK {N:Nat}{va ve:List Int}{r:(List Int)}(hr:xF N va ve=some r):
  Vm.Fn Tryz.prog 154 [] [(.agg (va.map (eI .u64))),(.agg (ve.map (eI .u64)))] (.agg (r.map (eI .u64))) []:=by
 refine zf Tryz.func154 Tryz.ntmps154 ?_
 unfold xF at hr
 obtain⟨x9,h_1,hr⟩:=aC hr
 obtain⟨q,h_2,hr⟩:=aC hr
 refine zz ?_
 refine xp (q5 h_1) ?_
 obtain⟨q_1,h_3,hr⟩:=aC hr
 obtain⟨b4,h_4,hr⟩:=aC hr
 refine zz ?_
 refine xp (aMC h_4) ?_
 refine zz ?_
 refine aVV fun K1 hK1 hG1=> ?_
 have J1: ∀(l1:List Int),aA1 N l1=some r→K1 (aI 37 [(4,(.ptr 0 0)),(5,(.ptr 1 0))]) [some ⟨135,(aVP 4 0).map (eI .u64)⟩,some ⟨135,l1.map (eI .u64)⟩]:=by
  intro l1 hr
  unfold aA1 at hr
  refine hK1 _ _ ?_
  obtain⟨q_2,h_5,hr⟩:=aC hr
  refine zz ?_
  obtain rfl:=sj hr
  exact iA Tryz.results154 bH (zG [])
 obtain⟨bQ,hL2,hr⟩:=aC hr
 refine zz ?_
 refine aVU<|aV2 (fun m s h=> ∃(d5:Int)(l3:List Int),mJ N va ve b4 m d5 l3=some bQ∧Ghost 0 s h (aI 37 [(2,(.ptr 0 0)),(3,(.ptr 1 0)),(4,(.ptr 2 0)),(5,(.ptr 3 0)),(6,(eI .i64 b4)),(12,(eI .i64 b4)),(13,(eI .i64 d5))]) [some ⟨135,va.map (eI .u64)⟩,some ⟨135,ve.map (eI .u64)⟩,some ⟨135,(aVP 4 0).map (eI .u64)⟩,some ⟨135,l3.map (eI .u64)⟩]) (n:=N) ⟨0,x9,hL2,(zG [0,1,2,3])⟩ (by rintro s h ⟨_,_,h0,_⟩;simp[mJ]at h0) ?_
 rintro m2 s h ⟨d5,l3,hr2,hg⟩
 refine aV1 hg ?_
 clear hg hL2
 rw[mJ]at hr2
 refine zz ?_
 refine aVS ?_
 refine zk hr2 rfl (fun h6 hr2=> ?_) (fun h6 hr2=> ?_)
 ·refine zz ?_
  refine aVV fun K3 hK3 hG3=> ?_
  have J3: ∀(eZ:List Int),tX N va ve b4 d5 (mJ N va ve b4 m2) eZ=some bQ→K3 (aI 37 [(2,(.ptr 0 0)),(3,(.ptr 1 0)),(4,(.ptr 2 0)),(5,(.ptr 3 0)),(6,(eI .i64 b4)),(12,(eI .i64 b4)),(13,(eI .i64 d5))]) [some ⟨135,va.map (eI .u64)⟩,some ⟨135,ve.map (eI .u64)⟩,some ⟨135,(aVP 4 0).map (eI .u64)⟩,some ⟨135,eZ.map (eI .u64)⟩]:=by
   intro eZ hr2
   unfold tX at hr2
   refine hK3 _ _ ?_
   refine zz ?_
   exact⟨aVO.wrap (d5+1),eZ,hr2,(zG [0,1,2,3])⟩
  refine aVU ?_
  obtain⟨q_3,h_7,hr2⟩:=aC hr2
  obtain⟨bX,h_8,hr2⟩:=aC hr2
  obtain⟨q_4,h_9,hr2⟩:=aC hr2
  refine zz ?_
  refine xp (aDy h_8) ?_
  obtain⟨x25,h_10,hr2⟩:=aC hr2
  obtain⟨x29,h_11,hr2⟩:=aC hr2
  refine zz ?_
  refine zk hr2 rfl (fun h12 hr2=> ?_) (fun h12 hr2=> ?_)
  ·obtain⟨q_5,h_13,hr2⟩:=aC hr2
   obtain⟨cV,h_14,hr2⟩:=aC hr2
   obtain⟨q_6,h_15,hr2⟩:=aC hr2
   refine zz ?_
   refine xp (aDy h_14) ?_
   refine zz ?_
   exact hG3 _ _ _ _ (zG [0,1,2,3]) (J3 cV hr2)
  refine zz ?_
  exact hG3 _ _ _ _ (zG [0,1,2,3]) (J3 bX hr2)
 refine zz ?_
 obtain rfl:=sj hr2
 refine zz ?_
 exact hG1 _ _ _ _ (zG [2,3]) (J1 l3 hr)
theorem aH9 {N:Nat}{va:List Int}{r:Bool}(hr:qO N va=some r):
  Vm.Fn Tryz.prog 148 [] [(.agg (va.map (eI .u64)))] (eB r) []:=by
 refine zf Tryz.func148 Tryz.ntmps148 ?_
 unfold qO at hr
 refine zz ?_
 refine aVS ?_
 refine aVV fun K1 hK1 hG1=> ?_
 have J1: ∀(b4:Bool),l8 N va b4=some r→K1 (aI 17 [(1,(.ptr 0 0)),(11,(eB b4))]) [some ⟨135,va.map (eI .u64)⟩]:=by
  intro b4 hr
  unfold l8 at hr
  refine hK1 _ _ ?_
  refine zk hr rfl (fun h1 hr=> ?_) (fun h1 hr=> ?_)
  ·refine zz ?_
   obtain rfl:=sj hr
   exact bI Tryz.results148 []
  refine zz ?_
  refine aVS ?_
  obtain⟨q,h_2,hr⟩:=aC hr
  obtain⟨d5,h_3,hr⟩:=aC hr
  obtain⟨bR,h_5,hr⟩:=aC hr
  obtain⟨x15,h_7,hr⟩:=aC hr
  obtain⟨q_1,h_9,hr⟩:=aC hr
  obtain⟨q_2,h_10,hr⟩:=aC hr
  refine aV5 mixed [147,151,154] [] [[0,1,2,3,4,5]] ?_
  refine zz ?_
  refine xu (yQ h_3)<|xu (aDK h_5)<|xu (q5 h_7) ?_
  refine zz ?_
  obtain rfl:=sj hr
  exact bI Tryz.results148 []
 obtain⟨q_3,h_11,hr⟩:=aC hr
 rcases aVR (va == [0,0,0,0])with h12|h12
 ·replace hr:=dD hr h12
  refine aV5 mixed [163,164] [] [[0,1,2,3,4,5,6,7,8]] ?_
  refine zz ?_
  refine xw (v:=(.agg ([0,0,0,0].map (eI .u64)))) (cE rfl (nB b8 nA rfl)) ?_
  refine zz ?_
  exact hG1 _ _ _ _ (zG [0]) (J1 true hr)
 replace hr:=dA hr h12
 obtain⟨x8,h_13,hr⟩:=aC hr
 obtain⟨x9,h_15,hr⟩:=aC hr
 refine aV5 mixed [163,164] [] [[0,1,2,3,4,5,6,7,8]] ?_
 refine zz ?_
 refine xw (v:=(.agg ([0,0,0,0].map (eI .u64)))) (cE rfl (nB b8 nA rfl)) ?_
 refine zz ?_
 refine xu (aDv h_13)<|xu (vA h_15) ?_
 refine zz ?_
 exact hG1 _ _ _ _ (zG [0]) (J1 (decide (0≤x9)) hr)
theorem aFs {N:Nat}{p:List Int}{r:Bool}(hr:sF N p=some r):
  Vm.Fn Tryz.prog 134 [] [(.agg (p.map (eI .u64)))] (eB r) []:=by
 refine zf Tryz.func134 Tryz.ntmps134 ?_
 unfold sF at hr
 refine zz ?_
 refine aVV fun K1 hK1 hG1=> ?_
 have J1: ∀(x2:Bool),aAh N x2=some r→K1 (aI 10 [(2,(eB x2))]) []:=by
  intro x2 hr
  unfold aAh at hr
  refine hK1 _ _ ?_
  refine zz ?_
  obtain rfl:=sj hr
  exact bI Tryz.results134 []
 obtain⟨q,h_1,hr⟩:=aC hr
 obtain⟨x4,h_2,hr⟩:=aC hr
 obtain⟨q_1,h_4,hr⟩:=aC hr
 rcases aVR (!(p == x4))with h5|h5
 ·replace hr:=dD hr h5
  obtain⟨x8,h_6,hr⟩:=aC hr
  refine aV5 mixed [147,148] [] [[0,1,2,3,4,5,6,7]] ?_
  refine zz ?_
  refine xu (q5 h_2) ?_
  refine zz ?_
  refine xu (aH9 h_6) ?_
  refine zz ?_
  exact hG1 _ _ _ _ (zG []) (J1 x8 hr)
 replace hr:=dA hr h5
 refine aV5 mixed [147,148] [] [[0,1,2,3,4,5,6,7]] ?_
 refine zz ?_
 refine xu (q5 h_2) ?_
 refine zz ?_
 exact hG1 _ _ _ _ (zG []) (J1 false hr)
theorem lG {N:Nat}{va:List Int}{r:Bool}(hr:pR N va=some r):
  Vm.Fn Tryz.prog 149 [] [(.agg (va.map (eI .u64)))] (eB r) []:=by
 refine zf Tryz.func149 Tryz.ntmps149 ?_
 unfold pR at hr
 refine zz ?_
 refine aVS ?_
 obtain⟨q,h_1,hr⟩:=aC hr
 obtain⟨x4,h_2,hr⟩:=aC hr
 obtain⟨x5,h_4,hr⟩:=aC hr
 refine aV5 mixed [151,163] [] [[0,1,2,3,4]] ?_
 refine zz ?_
 refine xu (yQ h_2)<|xu (vA h_4) ?_
 refine zz ?_
 obtain rfl:=sj hr
 exact bI Tryz.results149 []
theorem aIZ {N:Nat}{b:List Int}{r:(List Int)×(List Int)×Int}(hr:sR N b=some r):
  Vm.Fn Tryz.prog 135 [] [(.row none 1 (b.map (eI .u8)))] (.tup [(.agg (dK (eI .u64) r.1 (dK (eI .u64) r.2.1 []))),(eI .i64 r.2.2)]) []:=by
 refine zf Tryz.func135 Tryz.ntmps135 ?_
 unfold sR at hr
 refine zz ?_
 refine xw (v:=(.ptr 0 0)) (h':=[some ⟨139,(dK (eI .u64) (aVP 4 0) (dK (eI .u64) (aVP 4 0) []))⟩]) (dR rO rfl rfl rfl) ?_
 refine zz ?_
 refine aVS ?_
 refine zz ?_
 refine zk hr rfl (fun h1 hr=> ?_) (fun h1 hr=> ?_)
 ·refine zz ?_
  refine xw (v:=(.agg (dK (eI .u64) (aVP 4 0) (dK (eI .u64) (aVP 4 0) [])))) (cE rfl (tO rO aES rfl)) ?_
  refine zz ?_
  obtain rfl:=sj hr
  exact nX Tryz.results135 bH bH (zG [])
 refine zz ?_
 refine aVS ?_
 obtain⟨cD,h_2,hr⟩:=aC hr
 obtain⟨b4,h_3,hr⟩:=aC hr
 obtain⟨d5,h_4,hr⟩:=aC hr
 obtain⟨x15,h_6,hr⟩:=aC hr
 obtain⟨x16,h_7,hr⟩:=aC hr
 obtain⟨x18,h_8,hr⟩:=aC hr
 obtain⟨q,h_10,hr⟩:=aC hr
 obtain⟨q_1,h_11,hr⟩:=aC hr
 refine aV5 mixed [133] [] [[0,1,2,3,4,5,6,7,8,9,10,11,12]] ?_
 refine zz ?_
 refine xw (v:=(.eptr [.agg (b4.map (eI .u8))] 0 0)) (aFm rfl (apR (E:=(eI .u8)) vL (fun _=>rfl) zl h_3))<|xw (v:=(.agg (b4.map (eI .u8)))) (cA rfl (aLK (E:=(eI .u8)) (l:=b4) vL rfl (cQ h_3)))<|xu (s9 h_4) ?_
 refine zz ?_
 refine xw (v:=(.eptr [.agg (x16.map (eI .u8))] 0 0)) (aFm rfl (apR (E:=(eI .u8)) vL (fun _=>rfl) zl h_7))<|xw (v:=(.agg (x16.map (eI .u8)))) (cA rfl (aLK (E:=(eI .u8)) (l:=x16) vL rfl (cQ h_7)))<|xu (s9 h_8)<|xw (v:=(.agg (dK (eI .u64) d5 (dK (eI .u64) x18 [])))) (cE rfl (aNS (ps':=[(0,(.agg (dK (eI .u64) d5 []))),(1,(.agg (dK (eI .u64) x18 [])))]) (by simp only[aEo (l:=d5) (bE h_10),aEo (l:=x18) (bE h_11)]) (tO rO aES rfl)))<|xw (v:=(.ptr 1 0)) (h':=[some ⟨139,(dK (eI .u64) (aVP 4 0) (dK (eI .u64) (aVP 4 0) []))⟩,some ⟨139,(dK (eI .u64) (aVP 4 0) (dK (eI .u64) (aVP 4 0) []))⟩]) (dR rO rfl rfl rfl) ?_
 refine zz ?_
 refine aVS ?_
 refine aVV fun K1 hK1 hG1=> ?_
 have J1: ∀(x29:Bool),pZ N d5 x18 x29=some r→K1 (aI 32 [(2,(.ptr 0 0)),(4,(.ptr 1 0)),(29,(eB x29))]) [some ⟨139,(dK (eI .u64) (aVP 4 0) (dK (eI .u64) (aVP 4 0) []))⟩,some ⟨139,(dK (eI .u64) d5 (dK (eI .u64) x18 []))⟩]:=by
  intro x29 hr
  unfold pZ at hr
  refine hK1 _ _ ?_
  refine zk hr rfl (fun h12 hr=> ?_) (fun h12 hr=> ?_)
  ·refine zz ?_
   refine xw (v:=(.agg (dK (eI .u64) (aVP 4 0) (dK (eI .u64) (aVP 4 0) [])))) (cE rfl (tO rO aES rfl)) ?_
   refine zz ?_
   obtain rfl:=sj hr
   exact nX Tryz.results135 bH bH (zG [])
  refine zz ?_
  obtain rfl:=sj hr
  exact nX Tryz.results135 bH bH (zG [])
 obtain⟨bX,h_13,hr⟩:=aC hr
 rcases aVR (!bX)with h14|h14
 ·replace hr:=dD hr h14
  refine xr ?_
  refine zz ?_
  refine xp (lG h_13) ?_
  refine zz ?_
  exact hG1 _ _ _ _ (zG [0,1]) (J1 true hr)
 replace hr:=dA hr h14
 obtain⟨x27,h_15,hr⟩:=aC hr
 refine xr ?_
 refine zz ?_
 refine xp (lG h_13) ?_
 refine zz ?_
 refine xCg (v:=(eB x27)) (h':=[some ⟨139,(dK (eI .u64) (aVP 4 0) (dK (eI .u64) (aVP 4 0) []))⟩,some ⟨139,(dK (eI .u64) d5 (dK (eI .u64) x18 []))⟩]) rfl rfl h14 rfl (Vm.Fn.pure (lG h_15) zR rfl) ?_
 refine zz ?_
 exact hG1 _ _ _ _ (zG [0,1]) (J1 (!x27) hr)
theorem aI0 {N:Nat}{ve:List Int}{r:(List Int)}(hr:vF N ve=some r):
  Vm.Fn Tryz.prog 153 [] [(.agg (ve.map (eI .u64)))] (.agg (r.map (eI .u64))) []:=by
 refine zf Tryz.func153 Tryz.ntmps153 ?_
 unfold vF at hr
 refine zz ?_
 refine aVS ?_
 obtain⟨x3,h_1,hr⟩:=aC hr
 obtain⟨q,h_3,hr⟩:=aC hr
 obtain⟨x5,h_4,hr⟩:=aC hr
 obtain⟨q_1,h_6,hr⟩:=aC hr
 refine aV5 mixed [147,154] [] [[0,1,2,3]]<|xu (q5 h_1) ?_
 refine zz ?_
 refine xu (aDK h_4) ?_
 refine zz ?_
 obtain rfl:=sj hr
 exact iA Tryz.results153 bH (zG [])
theorem aFr {N:Nat}{va:List Int}{r:(List Int)}(hr:uE N va=some r):
  Vm.Fn Tryz.prog 169 [] [(.agg (va.map (eI .u64)))] (.agg (r.map (eI .u8))) []:=by
 refine zf Tryz.func169 Tryz.ntmps169 ?_
 unfold uE at hr
 refine zz ?_
 refine aVV fun K1 hK1 hG1=> ?_
 have J1: ∀(l1:List Int),aAd N l1=some r→K1 (aI 23 [(2,(.ptr 0 0)),(3,(.ptr 1 0))]) [some ⟨28,(aVP 32 0).map (eI .u8)⟩,some ⟨28,l1.map (eI .u8)⟩]:=by
  intro l1 hr
  unfold aAd at hr
  refine hK1 _ _ ?_
  obtain⟨q,h_1,hr⟩:=aC hr
  refine zz ?_
  obtain rfl:=sj hr
  exact iA Tryz.results169 bH (zG [])
 obtain⟨bQ,hL2,hr⟩:=aC hr
 refine zz ?_
 refine aVU<|aV2 (fun m s h=> ∃(x5:Int)(l2:List Int),kZ N va m x5 l2=some bQ∧Ghost 0 s h (aI 23 [(1,(.ptr 0 0)),(2,(.ptr 1 0)),(3,(.ptr 2 0)),(5,(eI .i64 x5))]) [some ⟨135,va.map (eI .u64)⟩,some ⟨28,(aVP 32 0).map (eI .u8)⟩,some ⟨28,l2.map (eI .u8)⟩]) (n:=N) ⟨0,aVP 32 0,hL2,(zG [0,1,2])⟩ (by rintro s h ⟨_,_,h0,_⟩;simp[kZ]at h0) ?_
 rintro m2 s h ⟨x5,l2,hr2,hg⟩
 refine aV1 hg ?_
 clear hg hL2
 rw[kZ]at hr2
 refine zz ?_
 refine aVS ?_
 refine zk hr2 rfl (fun h2 hr2=> ?_) (fun h2 hr2=> ?_)
 ·refine zz ?_
  refine aVS<|aVU ?_
  obtain⟨fC,h_3,hr2⟩:=aC hr2
  obtain⟨x18,h_4,hr2⟩:=aC hr2
  obtain⟨bS,h_5,hr2⟩:=aC hr2
  refine zz ?_
  exact⟨aVO.wrap (x5+1),l2.set (aV0 x5) (aWb.wrap x18),hr2,(zG [0,1,2])⟩
 refine zz ?_
 obtain rfl:=sj hr2
 refine zz ?_
 exact hG1 _ _ _ _ (zG [1,2]) (J1 l2 hr)
theorem aMq {N:Nat}{parts:List (List Int)}{r:(List Int)}(hr:aAt N parts=some r):
  Vm.Fn Tryz.prog 168 [] [(.row none 32 (parts.map (eA (eI .u8))))] (.sl 0 0 r.length 1 false) [some ⟨5,r.map (eI .u8)⟩]:=by
 refine zf Tryz.func168 Tryz.ntmps168 ?_
 unfold aAt at hr
 refine zz ?_
 refine aVV fun K1 hK1 hG1=> ?_
 have J1: ∀(l0:List Int),aEg N l0=some r→K1 (aI 17 [(3,(.sl 0 0 l0.length 1 false))]) [some ⟨5,l0.map (eI .u8)⟩]:=by
  intro l0 hr
  unfold aEg at hr
  refine hK1 _ _ ?_
  refine zz ?_
  obtain rfl:=sj hr
  exact bI Tryz.results168 [0]
 obtain⟨bQ,hL2,hr⟩:=aC hr
 refine zz ?_
 refine aVU<|aV2 (fun m s h=> ∃(x8:Int)(aS:List Int),pU N parts m x8 aS=some bQ∧Ghost 0 s h (aI 17 [(3,(.sl 0 0 aS.length 1 false)),(6,(.row none 32 (parts.map (eA (eI .u8))))),(7,(eI .i64 (parts.length:Int))),(8,(eI .i64 x8))]) [some ⟨5,aS.map (eI .u8)⟩]) (n:=N) ⟨0,[],hL2,(zW 5 [0])⟩ (by rintro s h ⟨_,_,h0,_⟩;simp[pU]at h0) ?_
 rintro m2 s h ⟨x8,aS,hr2,hg⟩
 refine aV1 hg ?_
 clear hg hL2
 rw[pU]at hr2
 refine zz ?_
 refine aVS ?_
 refine zk hr2 rfl (fun h1 hr2=> ?_) (fun h1 hr2=> ?_)
 ·refine zz ?_
  refine aVS<|aVU ?_
  obtain⟨cD,h_2,hr2⟩:=aC hr2
  obtain⟨q,h_3,hr2⟩:=aC hr2
  refine zz ?_
  refine xw (v:=(.agg (cD.map (eI .u8)))) (cA rfl (aVz (E:=(eI .u8)) vL rfl h_2 (bE h_3))) ?_
  obtain⟨bR,h_4,hr2⟩:=aC hr2
  refine zz ?_
  exact⟨aVO.wrap (x8+1),bR,hr2,(zG [2])⟩
 refine zz ?_
 obtain rfl:=sj hr2
 refine zz ?_
 exact hG1 _ _ _ _ (zG [0]) (J1 aS hr)
theorem aMr {N:Nat}{va b:List Int}{r:(List Int)×Bool}(hr:xW N va b=some r):
  Vm.Fn Tryz.prog 181 [] [(.agg (va.map (eI .u64))),(.agg (b.map (eI .u64)))] (.tup [(.agg (r.1.map (eI .u64))),(eB r.2)]) []:=by
 refine zf Tryz.func181 Tryz.ntmps181 ?_
 unfold xW at hr
 refine zz ?_
 refine aVV fun K1 hK1 hG1=> ?_
 have J1: ∀(kY:Int)(l1:List Int),zV N kY l1=some r→K1 (aI 29 [(4,(.ptr 0 0)),(6,(.ptr 1 0)),(7,(eI .u64 kY))]) [some ⟨135,(aVP 4 0).map (eI .u64)⟩,some ⟨135,l1.map (eI .u64)⟩]:=by
  intro kY l1 hr
  unfold zV at hr
  refine hK1 _ _ ?_
  obtain⟨q,h_1,hr⟩:=aC hr
  refine zz ?_
  obtain rfl:=sj hr
  exact nX Tryz.results181 bH bH (lK [])
 obtain⟨bQ,hL2,hr⟩:=aC hr
 refine zz ?_
 refine aVU<|aV2 (fun m s h=> ∃(carry_1 x9:Int)(l3:List Int),kM N va b m carry_1 x9 l3=some bQ∧Ghost 0 s h (aI 29 [(2,(.ptr 0 0)),(3,(.ptr 1 0)),(4,(.ptr 2 0)),(6,(.ptr 3 0)),(7,(eI .u64 carry_1)),(9,(eI .i64 x9))]) [some ⟨135,va.map (eI .u64)⟩,some ⟨135,b.map (eI .u64)⟩,some ⟨135,(aVP 4 0).map (eI .u64)⟩,some ⟨135,l3.map (eI .u64)⟩]) (n:=N) ⟨0,0,aVP 4 0,hL2,(zG [0,1,2,3])⟩ (by rintro s h ⟨_,_,_,h0,_⟩;simp[kM]at h0) ?_
 rintro m2 s h ⟨carry_1,x9,l3,hr2,hg⟩
 refine aV1 hg ?_
 clear hg hL2
 rw[kM]at hr2
 refine zz ?_
 refine aVS ?_
 refine zk hr2 rfl (fun h2 hr2=> ?_) (fun h2 hr2=> ?_)
 ·refine zz ?_
  refine aVS<|aVU ?_
  obtain⟨x15,h_3,hr2⟩:=aC hr2
  obtain⟨x18,h_4,hr2⟩:=aC hr2
  obtain⟨d9,h_5,hr2⟩:=aC hr2
  obtain⟨fG,h_7,hr2⟩:=aC hr2
  refine zz ?_
  refine aV5 mixed [171] [] [[0,1,2,3,4,5,6,7,8,9,10,11,12,13,14]] ?_
  refine zz ?_
  refine xu (lD h_5) ?_
  refine zz ?_
  exact⟨d9.2,aVO.wrap (x9+1),l3.set (aV0 x9) d9.1,hr2,(zG [0,1,2,3])⟩
 refine zz ?_
 obtain rfl:=sj hr2
 refine zz ?_
 exact hG1 _ _ _ _ (zG [2,3]) (J1 carry_1 l3 hr)
theorem aJK {N:Nat}{va b vm:List Int}{r:(List Int)}(hr:zD N va b vm=some r):
  Vm.Fn Tryz.prog 180 [] [(.agg (va.map (eI .u64))),(.agg (b.map (eI .u64))),(.agg (vm.map (eI .u64)))] (.agg (r.map (eI .u64))) []:=by
 refine zf Tryz.func180 Tryz.ntmps180 ?_
 unfold zD at hr
 refine zz ?_
 refine aVS ?_
 obtain⟨q,h_1,hr⟩:=aC hr
 refine zz ?_
 refine xw (v:=(.agg ([0,0,0,0].map (eI .u64)))) (cE rfl (nB b8 nA rfl)) ?_
 refine zz ?_
 refine zk hr rfl (fun h2 hr=> ?_) (fun h2 hr=> ?_)
 ·refine zz ?_
  refine xw (v:=(.agg ([0,0,0,0].map (eI .u64)))) (cE rfl (nB b8 nA rfl)) ?_
  refine zz ?_
  obtain rfl:=sj hr
  exact iA Tryz.results180 bH (zG [])
 refine zz ?_
 refine aVS ?_
 obtain⟨q_1,h_3,hr⟩:=aC hr
 obtain⟨x16,h_4,hr⟩:=aC hr
 obtain⟨q_2,h_6,hr⟩:=aC hr
 obtain⟨x19,h_7,hr⟩:=aC hr
 obtain⟨bS,h_9,hr⟩:=aC hr
 obtain⟨q_3,h_11,hr⟩:=aC hr
 refine aV5 mixed [176,181] [] [[0,1,2,3,4,5,6,7,8,9,10,11,12]] ?_
 refine zz ?_
 refine xu (aBJ h_4) ?_
 refine zz ?_
 refine xu (aBJ h_7)<|xu (aMr h_9) ?_
 refine zz ?_
 refine aVV fun K1 hK1 hG1=> ?_
 have J1: ∀(l1:List Int),nQ N l1=some r→K1 (aI 37 [(6,(.ptr 0 0)),(7,(.ptr 1 0))]) [some ⟨135,(aVP 4 0).map (eI .u64)⟩,some ⟨135,l1.map (eI .u64)⟩]:=by
  intro l1 hr
  unfold nQ at hr
  refine hK1 _ _ ?_
  obtain⟨q_4,h_12,hr⟩:=aC hr
  refine zz ?_
  obtain rfl:=sj hr
  exact iA Tryz.results180 bH (zG [])
 refine aVV fun K2 hK2 hG2=> ?_
 have J2: ∀(x29:Bool),nH N vm bS x29=some r→K2 (aI 37 [(5,(.ptr 0 0)),(6,(.ptr 1 0)),(7,(.ptr 2 0)),(29,(eB x29))]) [some ⟨135,vm.map (eI .u64)⟩,some ⟨135,(aVP 4 0).map (eI .u64)⟩,some ⟨135,bS.1.map (eI .u64)⟩]:=by
  intro x29 hr
  unfold nH at hr
  refine hK2 _ _ ?_
  refine zk hr rfl (fun h13 hr=> ?_) (fun h13 hr=> ?_)
  ·obtain⟨jY,h_14,hr⟩:=aC hr
   obtain⟨q_5,h_15,hr⟩:=aC hr
   refine zz ?_
   refine xp (aEj h_14) ?_
   refine zz ?_
   exact hG1 _ _ _ _ (zG [1,2]) (J1 jY.1 hr)
  refine zz ?_
  exact hG1 _ _ _ _ (zG [1,2]) (J1 bS.1 hr)
 rcases aVR bS.2 with h16|h16
 ·replace hr:=dD hr h16
  refine xr ?_
  refine zz ?_
  exact hG2 _ _ _ _ (zG [2,3,4]) (J2 true hr)
 replace hr:=dA hr h16
 obtain⟨x27,h_17,hr⟩:=aC hr
 refine xr ?_
 refine zz ?_
 refine xCg (v:=(eI .i64 x27)) (h':=[some ⟨135,va.map (eI .u64)⟩,some ⟨135,b.map (eI .u64)⟩,some ⟨135,vm.map (eI .u64)⟩,some ⟨135,(aVP 4 0).map (eI .u64)⟩,some ⟨135,bS.1.map (eI .u64)⟩]) rfl rfl h16 rfl (Vm.Fn.pure (vA h_17) zR rfl) ?_
 refine zz ?_
 exact hG2 _ _ _ _ (zG [2,3,4]) (J2 (decide (0≤x27)) hr)
theorem aF9 {N:Nat}{va b:List Int}{r:(List Int)}(hr:o5 N va b=some r):
  Vm.Fn Tryz.prog 178 [] [(.agg (va.map (eI .u64))),(.agg (b.map (eI .u64)))] (.agg (r.map (eI .u64))) []:=by
 refine zf Tryz.func178 Tryz.ntmps178 ?_
 unfold o5 at hr
 refine zz ?_
 refine aVS ?_
 obtain⟨q,h_1,hr⟩:=aC hr
 obtain⟨q_1,h_2,hr⟩:=aC hr
 obtain⟨x7,h_3,hr⟩:=aC hr
 obtain⟨x8,h_5,hr⟩:=aC hr
 obtain⟨q_2,h_7,hr⟩:=aC hr
 refine aV5 mixed [151,180] [] [[0,1,2,3,4]] ?_
 refine zz ?_
 refine xu (yQ h_3)<|xu (aJK h_5) ?_
 refine zz ?_
 obtain rfl:=sj hr
 exact iA Tryz.results178 bH (zG [])
theorem aIx {N:Nat}{vh:List Int}{r:(List Int)}(hr:qM N vh=some r):
  Vm.Fn Tryz.prog 167 [] [(.agg (vh.map (eI .u8)))] (.agg (r.map (eI .u64))) []:=by
 refine zf Tryz.func167 Tryz.ntmps167 ?_
 unfold qM at hr
 obtain⟨q,h_1,hr⟩:=aC hr
 obtain⟨x4,h_2,hr⟩:=aC hr
 obtain⟨x6,h_3,hr⟩:=aC hr
 obtain⟨q_1,h_4,hr⟩:=aC hr
 refine zz ?_
 refine xp (s9 h_2)<|xw (v:=(.agg ([0,0,0,0].map (eI .u64)))) (cE rfl (nB b8 nA rfl))<|xp (aF9 h_3) ?_
 refine zz ?_
 obtain rfl:=sj hr
 exact iA Tryz.results167 bH (zG [])
theorem aGQ {N:Nat}{vr p vm:List Int}{r:(List Int)}(hr:nI N vr p vm=some r):
  Vm.Fn Tryz.prog 155 [] [(.agg (vr.map (eI .u64))),(.agg (p.map (eI .u64))),(.agg (vm.map (eI .u8)))] (.agg (r.map (eI .u64))) []:=by
 refine zf Tryz.func155 Tryz.ntmps155 ?_
 unfold nI at hr
 refine zz ?_
 refine aVS ?_
 obtain⟨q,h_1,hr⟩:=aC hr
 obtain⟨x8,h_2,hr⟩:=aC hr
 obtain⟨q_1,h_4,hr⟩:=aC hr
 obtain⟨cD,h_5,hr⟩:=aC hr
 obtain⟨q_2,h_7,hr⟩:=aC hr
 obtain⟨q_3,h_8,hr⟩:=aC hr
 obtain⟨q_4,h_9,hr⟩:=aC hr
 obtain⟨d5,h_10,hr⟩:=aC hr
 obtain⟨bR,h_12,hr⟩:=aC hr
 obtain⟨x15,h_14,hr⟩:=aC hr
 obtain⟨q_5,h_16,hr⟩:=aC hr
 refine aV5 mixed [167,169] [29,168] [[0,1,2,3,4,5],[6,7,8,9]] ?_
 refine zz ?_
 refine xu (aFr h_2) ?_
 refine zz ?_
 refine xu (aFr h_5) ?_
 refine zz ?_
 refine xw (v:=(.sl 4 0 3 32 true)) (h':=[some ⟨135,vr.map (eI .u64)⟩,some ⟨135,p.map (eI .u64)⟩,some ⟨28,vm.map (eI .u8)⟩,some ⟨135,(aVP 4 0).map (eI .u64)⟩,some ⟨28,[x8,cD,vm].flatMap (aFl (eI .u8))⟩]) (pD rfl (aT3 (ps':=[(0,.agg (aFl (eI .u8) x8)),(1,.agg (aFl (eI .u8) cD)),(2,.agg (aFl (eI .u8) vm))]) (by simp only[aP8,aFl,uB (l:=x8) (bE h_8),uB (l:=cD) (bE h_9),uB (l:=vm) (bE h_7)]) (aCL (len:=3) (C:=(aFl (eI .u8))) (xs:=[x8,cD,vm]) (K:=32) (fun _=>rfl) (fun _=>rfl) aQV vL ⟨zl,zl,zl⟩ rfl rfl rfl rfl rfl rfl))) ?_
 refine zz ?_
 refine⟨_,_,(aWk (fr':=[(0,(.agg (vr.map (eI .u64)))),(1,(.agg (p.map (eI .u64)))),(2,(.agg (vm.map (eI .u8)))),(3,(.ptr 0 0)),(4,(.ptr 1 0)),(5,(.ptr 2 0)),(6,(.ptr 3 0)),(7,(.agg (vr.map (eI .u64)))),(8,(.agg (x8.map (eI .u8)))),(9,(.agg (p.map (eI .u64)))),(10,(.agg (cD.map (eI .u8)))),(11,(.agg (vm.map (eI .u8)))),(12,(.row none 32 ([x8,cD,vm].map (eA (eI .u8)))))]) (h':=[some ⟨135,vr.map (eI .u64)⟩,some ⟨135,p.map (eI .u64)⟩,some ⟨28,vm.map (eI .u8)⟩,some ⟨135,(aVP 4 0).map (eI .u64)⟩,none]) (aVZ rfl (aVT (aQ rfl)) (aVZ rfl (aVT (aQ rfl)) (aVZ rfl (aVT (aQ rfl)) (aVZ rfl (aVT (aQ rfl)) (aVZ rfl (aVT (aQ rfl)) (aVZ rfl (aVT (aQ rfl)) (aVZ rfl (aVT (aQ rfl)) (aVZ rfl (aVT (aQ rfl)) (aVZ rfl (aVT (aQ rfl)) (aVZ rfl (aVT (aQ rfl)) (aVZ rfl (aVT (aQ rfl)) (aVZ rfl (aVT (aQ rfl)) (aVZ rfl (Conv.rowKA (C:=(aFl (eI .u8))) (E:=(eI .u8)) (fun _=>rfl) (fun _=>rfl) (fun _=>rfl) (aV8.2 ⟨uB (bE h_8),aV8.2 ⟨uB (bE h_9),aV8.2 ⟨uB (bE h_7),List.forall_mem_nil _⟩⟩⟩) (aQ rfl) rfl rfl rfl) FCv.nil))))))))))))) (aWe (aWc (aQ rfl)) (all_map (fun _=>rfl) _) (aWe (aWc (aQ rfl)) (all_map (fun _=>rfl) _) (aWe (aWc (aQ rfl)) (all_map (fun _=>rfl) _) (aWe (aWc (aQ rfl)) (all_map (fun _=>rfl) _) (HCv.dead HCv.nil)))))), ?_⟩
 refine zg (aMq h_10) [] ?_
 refine zgL (aFw h_12) [] [5] ?_
 refine xu (aIx h_14) ?_
 refine zz ?_
 obtain rfl:=sj hr
 exact iA Tryz.results155 bH (zG [])
theorem aJm {N:Nat}{p vm s_E s_S:List Int}{r:Bool}(hr:sU N p vm s_E s_S=some r):
  Vm.Fn Tryz.prog 136 [] [(.agg (p.map (eI .u64))),(.agg (vm.map (eI .u8))),(.agg (dK (eI .u64) s_E (dK (eI .u64) s_S [])))] (eB r) []:=by
 refine zf Tryz.func136 Tryz.ntmps136 ?_
 unfold sU at hr
 refine zz ?_
 refine aVS ?_
 refine aVV fun K1 hK1 hG1=> ?_
 have J1: ∀(fG:Bool),j7 N p vm s_E s_S fG=some r→K1 (aI 46 [(3,(.ptr 0 0)),(4,(.ptr 1 0)),(5,(.ptr 2 0)),(24,(eB fG))]) [some ⟨135,p.map (eI .u64)⟩,some ⟨28,vm.map (eI .u8)⟩,some ⟨139,(dK (eI .u64) s_E (dK (eI .u64) s_S []))⟩]:=by
  intro fG hr
  unfold j7 at hr
  refine hK1 _ _ ?_
  refine zk hr rfl (fun h1 hr=> ?_) (fun h1 hr=> ?_)
  ·refine zz ?_
   obtain rfl:=sj hr
   exact bI Tryz.results136 []
  refine zz ?_
  refine aVS ?_
  obtain⟨x26,h_2,hr⟩:=aC hr
  obtain⟨q,h_4,hr⟩:=aC hr
  obtain⟨x29,h_5,hr⟩:=aC hr
  obtain⟨q_1,h_7,hr⟩:=aC hr
  refine aV5 mixed [150,151] [] [[0,1,2,3,4,5,6,7,8,9]]<|xu (yQ h_2) ?_
  refine zz ?_
  refine xu (aEj h_5) ?_
  refine zz ?_
  refine aVS ?_
  obtain⟨q_2,h_8,hr⟩:=aC hr
  obtain⟨cV,h_9,hr⟩:=aC hr
  obtain⟨q_3,h_11,hr⟩:=aC hr
  obtain⟨x37,h_12,hr⟩:=aC hr
  obtain⟨x38,h_14,hr⟩:=aC hr
  obtain⟨q_4,h_16,hr⟩:=aC hr
  refine aV5 mixed [152,153,154] [] [[0,1,2,3,4,5,6,7,8]] ?_
  refine zz ?_
  refine xu (aI0 h_9) ?_
  refine zz ?_
  refine xu (aDK h_12)<|xu (aDy h_14) ?_
  refine zz ?_
  refine aVS ?_
  obtain⟨q_5,h_17,hr⟩:=aC hr
  obtain⟨x44,h_18,hr⟩:=aC hr
  obtain⟨q_6,h_20,hr⟩:=aC hr
  refine aV5 mixed [155] [] [[0,1,2,3,4,5,6,7]] ?_
  refine zz ?_
  refine xu (aGQ h_18) ?_
  refine zz ?_
  obtain rfl:=sj hr
  exact bI Tryz.results136 []
 obtain⟨q_7,h_21,hr⟩:=aC hr
 obtain⟨fC,h_22,hr⟩:=aC hr
 rcases aVR (!fC)with h23|h23
 ·replace hr:=dD hr h23
  refine xr ?_
  refine zz ?_
  refine xp (lG h_22) ?_
  refine zz ?_
  refine xX rfl<|xX rfl<|xX rfl ?_
  refine zz ?_
  exact hG1 _ _ _ _ (zG [0,1,2]) (J1 true hr)
 replace hr:=dA hr h23
 obtain⟨q_8,h_24,hr⟩:=aC hr
 obtain⟨x17,h_25,hr⟩:=aC hr
 rcases aVR (!x17)with h26|h26
 ·replace hr:=dD hr h26
  refine xr ?_
  refine zz ?_
  refine xp (lG h_22) ?_
  refine zz ?_
  refine xCg (v:=(eB x17)) (h':=[some ⟨135,p.map (eI .u64)⟩,some ⟨28,vm.map (eI .u8)⟩,some ⟨139,(dK (eI .u64) s_E (dK (eI .u64) s_S []))⟩]) rfl rfl h23 rfl (Vm.Fn.pure (lG h_25) zR rfl) ?_
  refine zz ?_
  exact hG1 _ _ _ _ (zG [0,1,2]) (J1 true hr)
 replace hr:=dA hr h26
 obtain⟨q_9,h_27,hr⟩:=aC hr
 obtain⟨bX,h_28,hr⟩:=aC hr
 refine xr ?_
 refine zz ?_
 refine xp (lG h_22) ?_
 refine zz ?_
 refine xCg (v:=(eB x17)) (h':=[some ⟨135,p.map (eI .u64)⟩,some ⟨28,vm.map (eI .u8)⟩,some ⟨139,(dK (eI .u64) s_E (dK (eI .u64) s_S []))⟩]) rfl rfl h23 rfl (Vm.Fn.pure (lG h_25) zR rfl) ?_
 refine zz ?_
 refine xCg (v:=(eB bX)) (h':=[some ⟨135,p.map (eI .u64)⟩,some ⟨28,vm.map (eI .u8)⟩,some ⟨139,(dK (eI .u64) s_E (dK (eI .u64) s_S []))⟩]) rfl rfl h26 rfl (Vm.Fn.pure (aFs h_28) zR rfl) ?_
 refine zz ?_
 exact hG1 _ _ _ _ (zG [0,1,2]) (J1 (!bX) hr)
theorem aDB {N:Nat}{aF:List Int}{aJ aN:Int}{aL:List (List Int)}{aH:List aM}{aY:Int}{key aCb:List Int}{r:Int}(hr:dM N aF aJ aN aL aH aY key aCb=some r):
  Vm.Fn Tryz.prog 122 [some ⟨88,(bG (eI .u8) aF [(eI .i64 aJ),(eI .i64 aN),(.sl 1 0 aL.length 1 false),(.sl 2 0 aH.length 2 true),(eI .i64 aY)])⟩,some ⟨31,aL.map (eL 1 (eI .u8))⟩,some ⟨113,aH.flatMap aV⟩] [(.ptr 0 0),(.row none 1 (key.map (eI .u8))),(.row none 1 (aCb.map (eI .u8)))] (eI .i64 r) [some ⟨88,(bG (eI .u8) aF [(eI .i64 aJ),(eI .i64 aN),(.sl 1 0 aL.length 1 false),(.sl 2 0 aH.length 2 true),(eI .i64 aY)])⟩,some ⟨31,aL.map (eL 1 (eI .u8))⟩,some ⟨113,aH.flatMap aV⟩]:=by
 refine zf Tryz.func122 Tryz.ntmps122 ?_
 unfold dM at hr
 refine zz ?_
 refine aVS ?_
 refine zz ?_
 refine zk hr rfl (fun h1 hr=> ?_) (fun h1 hr=> ?_)
 ·refine zz ?_
  obtain rfl:=sj hr
  exact bI Tryz.results122 [0,1,2]
 obtain⟨bR,h_2,hr⟩:=aC hr
 obtain⟨x16,h_3,hr⟩:=aC hr
 obtain⟨q,h_4,hr⟩:=aC hr
 refine zz ?_
 refine xw (v:=(.eptr [.agg (bR.map (eI .u8))] 0 0)) (aFm rfl (apR (E:=(eI .u8)) vL (fun _=>rfl) zl h_2))<|xw (v:=(.agg (bR.map (eI .u8)))) (cA rfl (aLK (E:=(eI .u8)) (l:=bR) vL rfl (cQ h_2)))<|xp (s9 h_3) ?_
 refine zz ?_
 refine aVS ?_
 obtain⟨x18,h_5,hr⟩:=aC hr
 refine zz ?_
 refine xp (aFs h_5) ?_
 refine zz ?_
 refine zk hr rfl (fun h6 hr=> ?_) (fun h6 hr=> ?_)
 ·refine zz ?_
  obtain rfl:=sj hr
  exact bI Tryz.results122 [0,1,2]
 refine zz ?_
 refine aVS ?_
 refine zz ?_
 refine zk hr rfl (fun h7 hr=> ?_) (fun h7 hr=> ?_)
 ·refine zz ?_
  obtain rfl:=sj hr
  exact bI Tryz.results122 [0,1,2]
 obtain⟨x25,h_8,hr⟩:=aC hr
 refine zz ?_
 refine xp (aIZ h_8) ?_
 refine zz ?_
 refine xw (v:=(.ptr 4 0)) (h':=[some ⟨88,(bG (eI .u8) aF [(eI .i64 aJ),(eI .i64 aN),(.sl 1 0 aL.length 1 false),(.sl 2 0 aH.length 2 true),(eI .i64 aY)])⟩,some ⟨31,aL.map (eL 1 (eI .u8))⟩,some ⟨113,aH.flatMap aV⟩,some ⟨135,x16.map (eI .u64)⟩,some ⟨139,(dK (eI .u64) (aVP 4 0) (dK (eI .u64) (aVP 4 0) []))⟩]) (dR rO rfl rfl rfl) ?_
 refine zz ?_
 refine aVS ?_
 refine aVV fun K1 hK1 hG1=> ?_
 have J1: ∀(x40:Bool),gW N aF aJ aN aL aH aY x40=some r→K1 (aI 41 [(40,(eB x40))]) [some ⟨88,(bG (eI .u8) aF [(eI .i64 aJ),(eI .i64 aN),(.sl 1 0 aL.length 1 false),(.sl 2 0 aH.length 2 true),(eI .i64 aY)])⟩,some ⟨31,aL.map (eL 1 (eI .u8))⟩,some ⟨113,aH.flatMap aV⟩]:=by
  intro x40 hr
  unfold gW at hr
  refine hK1 _ _ ?_
  refine zk hr rfl (fun h9 hr=> ?_) (fun h9 hr=> ?_)
  ·refine zz ?_
   obtain rfl:=sj hr
   exact bI Tryz.results122 [0,1,2]
  refine zz ?_
  obtain rfl:=sj hr
  exact bI Tryz.results122 [0,1,2]
 rcases aVR (x25.2.2 != 0)with h10|h10
 ·replace hr:=dD hr h10
  refine aV5 mixed [136] [] [[0,1,2,3,4,5,6,7,8,9,10,11,12]] ?_
  refine zz ?_
  exact hG1 _ _ _ _ (zG [0,1,2]) (J1 true hr)
 replace hr:=dA hr h10
 obtain⟨q_1,h_11,hr⟩:=aC hr
 obtain⟨x38,h_12,hr⟩:=aC hr
 refine aV5 mixed [136] [] [[0,1,2,3,4,5,6,7,8,9,10,11,12]] ?_
 refine zz ?_
 refine xu (aJm h_12) ?_
 refine zz ?_
 exact hG1 _ _ _ _ (zG [0,1,2]) (J1 (!x38) hr)
theorem wH {N:Nat}{aF:List Int}{aJ aN:Int}{aL:List (List Int)}{aH:List aM}{aY fO vn:Int}{r:Int×(List Int)×Int×Int×(List (List Int))×(List aM)×Int}(hr:jA N aF aJ aN aL aH aY fO vn=some r):
  Vm.Fn Tryz.prog 113 [some ⟨88,(bG (eI .u8) aF [(eI .i64 aJ),(eI .i64 aN),(.sl 1 0 aL.length 1 false),(.sl 2 0 aH.length 2 true),(eI .i64 aY)])⟩,some ⟨31,aL.map (eL 1 (eI .u8))⟩,some ⟨113,aH.flatMap aV⟩] [(.ptr 0 0),(eI .i64 fO),(eI .i64 vn)] (eI .i64 r.1) [some ⟨88,(bG (eI .u8) r.2.1 [(eI .i64 r.2.2.1),(eI .i64 r.2.2.2.1),(.sl 3 0 r.2.2.2.2.1.length 1 false),(.sl 4 0 r.2.2.2.2.2.1.length 2 true),(eI .i64 r.2.2.2.2.2.2)])⟩,none,none,some ⟨31,r.2.2.2.2.1.map (eL 1 (eI .u8))⟩,some ⟨113,r.2.2.2.2.2.1.flatMap aV⟩]:=by
 refine zf Tryz.func113 Tryz.ntmps113 ?_
 unfold jA at hr
 refine zz ?_
 refine aVS ?_
 obtain⟨iB,h_1,hr⟩:=aC hr
 refine aV5 mixed [] [] [[0,1,2,3,4,5,6,7,8,9,10,11,12]] ?_
 refine zz ?_
 refine xw (v:=(.sl 1 (aV0 (aVO.wrap ((aL.length:Int)-vn))*1) iB.length 1 false)) (cZ rfl rfl rfl (aTk (l:=aL) rfl aAZ dC rfl rfl rfl h_1)) ?_
 refine zz ?_
 refine aVS ?_
 obtain⟨x43,h_2,hr⟩:=aC hr
 refine aV5 mixed [] [] [[0,1,2,3,4,5,6,7,8,9,10,11,12,13,14,15,16,17,18,19,20]] ?_
 refine zz ?_
 refine xw (v:=(.sl 1 (aV0 (aVO.wrap ((aL.length:Int)-(aVO.wrap (2*vn))))*1) x43.length 1 false)) (cZ rfl rfl rfl (aTk (l:=aL) rfl aAZ dC rfl rfl rfl h_2)) ?_
 refine zz ?_
 refine aVV fun K1 hK1 hG1=> ?_
 have J1: ∀(count:Int),lW N aF aJ aN aL aH aY fO vn count=some r→K1 (aI 78 [(0,(.ptr 0 0)),(1,(eI .i64 fO)),(2,(eI .i64 vn)),(9,(eI .i64 count))]) [some ⟨88,(bG (eI .u8) aF [(eI .i64 aJ),(eI .i64 aN),(.sl 1 0 aL.length 1 false),(.sl 2 0 aH.length 2 true),(eI .i64 aY)])⟩,some ⟨31,aL.map (eL 1 (eI .u8))⟩,some ⟨113,aH.flatMap aV⟩]:=by
  intro count hr
  unfold lW at hr
  refine hK1 _ _ ?_
  obtain⟨x76,h_3,hr⟩:=aC hr
  obtain⟨x77,h_4,hr⟩:=aC hr
  refine zz ?_
  refine zc (aBG h_3) [] ?_
  refine aWd (zv 3) ?_
  refine zc (lJ h_4) [0,1,2] ?_
  refine zz ?_
  obtain rfl:=sj hr
  exact bI Tryz.results113 [0,1,2,4,5]
 obtain⟨bQ,hL2,hr⟩:=aC hr
 refine zz ?_
 refine aVU<|aV2 (fun m s h=> ∃(count_1 x45:Int),dQ N aF aJ aN aL aH aY fO vn iB x43 m count_1 x45=some bQ∧Ghost 3 s h (aI 78 [(0,(.ptr 0 0)),(1,(eI .i64 fO)),(2,(eI .i64 vn)),(7,(.sl 1 (aV0 (aVO.wrap ((aL.length:Int)-vn))*1) iB.length 1 false)),(8,(.sl 1 (aV0 (aVO.wrap ((aL.length:Int)-(aVO.wrap (2*vn))))*1) x43.length 1 false)),(9,(eI .i64 count_1)),(44,(eI .i64 vn)),(45,(eI .i64 x45))]) [some ⟨88,(bG (eI .u8) aF [(eI .i64 aJ),(eI .i64 aN),(.sl 1 0 aL.length 1 false),(.sl 2 0 aH.length 2 true),(eI .i64 aY)])⟩,some ⟨31,aL.map (eL 1 (eI .u8))⟩,some ⟨113,aH.flatMap aV⟩]) (n:=N) ⟨0,0,hL2,(zG [0,1,2])⟩ (by rintro s h ⟨_,_,h0,_⟩;simp[dQ]at h0) ?_
 rintro m2 s h ⟨count_1,x45,hr2,hg⟩
 refine aV1 hg ?_
 clear hg hL2
 rw[dQ]at hr2
 refine zz ?_
 refine aVS ?_
 refine zk hr2 rfl (fun h5 hr2=> ?_) (fun h5 hr2=> ?_)
 ·refine zz ?_
  refine aVV fun K3 hK3 hG3=> ?_
  have J3: ∀(aC5:Int),jO N aF aJ aN aL aH aY fO vn iB x43 x45 (dQ N aF aJ aN aL aH aY fO vn iB x43 m2) aC5=some bQ→K3 (aI 78 [(0,(.ptr 0 0)),(1,(eI .i64 fO)),(2,(eI .i64 vn)),(7,(.sl 1 (aV0 (aVO.wrap ((aL.length:Int)-vn))*1) iB.length 1 false)),(8,(.sl 1 (aV0 (aVO.wrap ((aL.length:Int)-(aVO.wrap (2*vn))))*1) x43.length 1 false)),(9,(eI .i64 aC5)),(44,(eI .i64 vn)),(45,(eI .i64 x45))]) [some ⟨88,(bG (eI .u8) aF [(eI .i64 aJ),(eI .i64 aN),(.sl 1 0 aL.length 1 false),(.sl 2 0 aH.length 2 true),(eI .i64 aY)])⟩,some ⟨31,aL.map (eL 1 (eI .u8))⟩,some ⟨113,aH.flatMap aV⟩]:=by
   intro aC5 hr2
   unfold jO at hr2
   refine hK3 _ _ ?_
   refine zz ?_
   exact⟨aC5,aVO.wrap (x45+1),hr2,(zG [0,1,2])⟩
  refine aVU ?_
  refine zz ?_
  refine aVS<|aVS ?_
  obtain⟨x51,h_6,hr2⟩:=aC hr2
  obtain⟨x55,h_7,hr2⟩:=aC hr2
  obtain⟨x57,h_8,hr2⟩:=aC hr2
  refine aV5 mixed [] [122] [[0,1,2,3,4,5,6,7,8,9,10]] ?_
  refine zz ?_
  refine xw (v:=(.ptr 1 (aV0 (aVO.wrap ((aL.length:Int)-vn))+aV0 x45))) (aCF rfl rfl (iaY rfl aAZ dC rfl h_6))<|xw (v:=(.row none 1 (x51.map (eI .u8)))) (cA rfl (ldY (E:=(eL 1 (eI .u8))) (l:=aL) (y:=x51) dC rfl rfl h_1 h_6)) ?_
  refine zz ?_
  refine xw (v:=(.ptr 1 (aV0 (aVO.wrap ((aL.length:Int)-(aVO.wrap (2*vn))))+aV0 x45))) (aCF rfl rfl (iaY rfl aAZ dC rfl h_7))<|xw (v:=(.row none 1 (x55.map (eI .u8)))) (cA rfl (ldY (E:=(eL 1 (eI .u8))) (l:=aL) (y:=x55) dC rfl rfl h_2 h_7))<|zg (aDB h_8) [0,1,2] ?_
  refine zz ?_
  refine zk hr2 rfl (fun h10 hr2=> ?_) (fun h10 hr2=> ?_)
  ·refine zz ?_
   obtain rfl:=sj hr2
   obtain rfl:=sj hr
   exact bI Tryz.results113 [0,1,2,1,2]
  refine zz ?_
  refine xw (v:=(.ptr 1 (aV0 (aVO.wrap ((aL.length:Int)-(aVO.wrap (2*vn))))+aV0 x45))) (aCF rfl rfl (iaY rfl aAZ dC rfl h_7))<|xw (v:=(.row none 1 (x55.map (eI .u8)))) (cA rfl (ldY (E:=(eL 1 (eI .u8))) (l:=aL) (y:=x55) dC rfl rfl h_2 h_7)) ?_
  refine zz ?_
  refine zk hr2 rfl (fun h11 hr2=> ?_) (fun h11 hr2=> ?_)
  ·refine zz ?_
   exact hG3 _ _ _ _ (zG [0,1,2]) (J3 (aVO.wrap (count_1+1)) hr2)
  refine zz ?_
  exact hG3 _ _ _ _ (zG [0,1,2]) (J3 count_1 hr2)
 refine zz ?_
 obtain rfl:=sj hr2
 refine zz ?_
 exact hG1 _ _ _ _ (zG [0,1,2]) (J1 count_1 hr)
theorem aHE {N:Nat}{b:List Int}{r:Int×Int}(hr:kW N b=some r):
  Vm.Fn Tryz.prog 123 [] [(.row none 1 (b.map (eI .u8)))] (.tup [(eI .u32 r.1),(eI .i64 r.2)]) []:=by
 refine zf Tryz.func123 Tryz.ntmps123 ?_
 unfold kW at hr
 refine zz ?_
 refine aVS ?_
 refine aVV fun K1 hK1 hG1=> ?_
 have J1: ∀(iB:Bool),gF N b iB=some r→K1 (aI 40 [(0,(.row none 1 (b.map (eI .u8)))),(23,(eB iB))]) []:=by
  intro iB hr
  unfold gF at hr
  refine hK1 _ _ ?_
  refine zk hr rfl (fun h1 hr=> ?_) (fun h1 hr=> ?_)
  ·refine zz ?_
   obtain rfl:=sj hr
   exact sZ Tryz.results123 []
  refine zz ?_
  refine aVV fun K2 hK2 hG2=> ?_
  have J2: ∀(vn:Int),uR N vn=some r→K2 (aI 40 [(4,(eI .u32 vn))]) []:=by
   intro vn hr
   unfold uR at hr
   refine hK2 _ _ ?_
   refine zz ?_
   obtain rfl:=sj hr
   exact sZ Tryz.results123 []
  obtain⟨vK,hL3,hr⟩:=aC hr
  refine zz ?_
  refine aVU<|aV2 (fun m s h=> ∃(eD x26:Int),iC N b m eD x26=some vK∧Ghost 0 s h (aI 40 [(4,(eI .u32 eD)),(24,(.row none 1 (b.map (eI .u8)))),(25,(eI .i64 (b.length:Int))),(26,(eI .i64 x26))]) []) (n:=N) ⟨0,0,hL3,(zG [])⟩ (by rintro s h ⟨_,_,h0,_⟩;simp[iC]at h0) ?_
  rintro m3 s h ⟨eD,x26,hr3,hg⟩
  refine aV1 hg ?_
  clear hg hL3
  rw[iC]at hr3
  refine zz ?_
  refine aVS ?_
  refine zk hr3 rfl (fun h2 hr3=> ?_) (fun h2 hr3=> ?_)
  ·refine zz ?_
   refine aVS<|aVU ?_
   obtain⟨x29,h_3,hr3⟩:=aC hr3
   obtain⟨x36,h_4,hr3⟩:=aC hr3
   refine zz ?_
   exact⟨bits .or .u32 eD x36,aVO.wrap (x26+1),hr3,(zG [])⟩
  refine zz ?_
  obtain rfl:=sj hr3
  refine zz ?_
  exact hG2 _ _ _ _ (zG []) (J2 eD hr)
 rcases aVR (decide (4<(b.length:Int)))with h5|h5
 ·replace hr:=dD hr h5
  refine xr ?_
  refine zz ?_
  exact hG1 _ _ _ _ (zG []) (J1 true hr)
 replace hr:=dA hr h5
 rcases aVR (decide (0<(b.length:Int)))with h6|h6
 ·replace hr:=dD hr h6
  obtain⟨x19,h_7,hr⟩:=aC hr
  refine xr ?_
  refine zz ?_
  exact hG1 _ _ _ _ (zG []) (J1 (x19 == 0) hr)
 replace hr:=dA hr h6
 refine xr ?_
 refine zz ?_
 exact hG1 _ _ _ _ (zG []) (J1 false hr)
theorem aDg {N:Nat}{gG:List Int}{now r:Int}(hr:mS N gG now=some r):
  Vm.Fn Tryz.prog 114 [] [(.row none 1 (gG.map (eI .u8))),(eI .i64 now)] (eI .i64 r) []:=by
 refine zf Tryz.func114 Tryz.ntmps114 ?_
 unfold mS at hr
 obtain⟨x9,h_1,hr⟩:=aC hr
 refine zz ?_
 refine xp (aHE h_1) ?_
 refine zz ?_
 refine aVS ?_
 refine zz ?_
 refine zk hr rfl (fun h2 hr=> ?_) (fun h2 hr=> ?_)
 ·refine zz ?_
  obtain rfl:=sj hr
  exact bI Tryz.results114 []
 refine zz ?_
 refine aVS ?_
 refine zz ?_
 refine zk hr rfl (fun h3 hr=> ?_) (fun h3 hr=> ?_)
 ·refine zz ?_
  obtain rfl:=sj hr
  exact bI Tryz.results114 []
 refine zz ?_
 obtain rfl:=sj hr
 exact bI Tryz.results114 []
theorem aDM {N:Nat}{aF:List Int}{aJ aN:Int}{aL:List (List Int)}{aH:List aM}{aY bA:Int}{cC:List Int}{eU eG:Int}{r:Int×(List Int)×Int×Int×(List (List Int))×(List aM)×Int}(hr:mF N aF aJ aN aL aH aY bA cC eU eG=some r):
  Vm.Fn Tryz.prog 89 [some ⟨88,(bG (eI .u8) aF [(eI .i64 aJ),(eI .i64 aN),(.sl 1 0 aL.length 1 false),(.sl 2 0 aH.length 2 true),(eI .i64 aY)])⟩,some ⟨31,aL.map (eL 1 (eI .u8))⟩,some ⟨113,aH.flatMap aV⟩] [(.ptr 0 0),(.agg [(eI .i64 bA),(.row none 1 (cC.map (eI .u8))),(eI .i64 eU),(eI .i64 eG)])] (eI .i64 r.1) [some ⟨88,(bG (eI .u8) r.2.1 [(eI .i64 r.2.2.1),(eI .i64 r.2.2.2.1),(.sl 3 0 r.2.2.2.2.1.length 1 false),(.sl 4 0 r.2.2.2.2.2.1.length 2 true),(eI .i64 r.2.2.2.2.2.2)])⟩,none,none,some ⟨31,r.2.2.2.2.1.map (eL 1 (eI .u8))⟩,some ⟨113,r.2.2.2.2.2.1.flatMap aV⟩]:=by
 refine zf Tryz.func89 Tryz.ntmps89 ?_
 unfold mF at hr
 refine zz ?_
 refine aVV fun K1 hK1 hG1=> ?_
 have J1: ∀(c0:List Int)(xI wE vN:Int)(l3:List (List Int))(l4:List aM),dX N c0 xI wE vN l3 l4=some r→K1 (aI 150 []) [some ⟨88,(bG (eI .u8) c0 [(eI .i64 xI),(eI .i64 wE),(.sl 3 0 l3.length 1 false),(.sl 4 0 l4.length 2 true),(eI .i64 vN)])⟩,none,none,some ⟨31,l3.map (eL 1 (eI .u8))⟩,some ⟨113,l4.flatMap aV⟩]:=by
  intro c0 xI wE vN l3 l4 hr
  unfold dX at hr
  refine hK1 _ _ ?_
  refine zz ?_
  obtain rfl:=sj hr
  exact bI Tryz.results89 [0,1,2,3,4]
 refine zz ?_
 refine aVU ?_
 refine zz ?_
 refine zk hr rfl (fun h1 hr=> ?_) (fun h1 hr=> ?_)
 ·obtain⟨bR,h_2,hr⟩:=aC hr
  refine zz ?_
  refine zc (sX h_2) [0,1,2] ?_
  refine zz ?_
  obtain rfl:=sj hr
  exact bI Tryz.results89 [0,1,2,4,5]
 refine zz ?_
 refine zk hr rfl (fun h3 hr=> ?_) (fun h3 hr=> ?_)
 ·obtain⟨x19,h_4,hr⟩:=aC hr
  obtain⟨bS,h_5,hr⟩:=aC hr
  refine zz ?_
  refine zc (eN h_4) [0,1,2] ?_
  refine zc (sX h_5) [0,1,2] ?_
  refine zz ?_
  obtain rfl:=sj hr
  exact bI Tryz.results89 [0,1,2,4,5]
 refine zz ?_
 refine zk hr rfl (fun h6 hr=> ?_) (fun h6 hr=> ?_)
 ·obtain⟨fG,h_7,hr⟩:=aC hr
  refine zz ?_
  refine zc (n7 h_7) [0,1,2] ?_
  refine zz ?_
  exact hG1 _ _ _ _ (zG [0,1,2,4,5]) (J1 fG.1 fG.2.1 fG.2.2.1 fG.2.2.2.2.2 fG.2.2.2.1 fG.2.2.2.2.1 hr)
 refine zz ?_
 refine zk hr rfl (fun h8 hr=> ?_) (fun h8 hr=> ?_)
 ·obtain⟨x50,h_9,hr⟩:=aC hr
  obtain⟨x58,h_10,hr⟩:=aC hr
  obtain⟨x61,h_11,hr⟩:=aC hr
  refine zz ?_
  refine aV5 mixed [] [] [[0,1,2,3,4,5,6,7,8,9,10,11,12,13,14,15,16,17,18,19,20,21,22,23,24,25,26,27,28,29,30,31]] ?_
  refine zz ?_
  exact hG1 _ _ _ _ (lK [0,1,2,1,2]) (J1 aF aJ aN aY ((aL.set (aV0 (aVO.wrap ((aL.length:Int)-1))) x50).set (aV0 (aVO.wrap ((aL.length:Int)-2))) x58) aH hr)
 refine zz ?_
 refine zk hr rfl (fun h12 hr=> ?_) (fun h12 hr=> ?_)
 ·obtain⟨x66,h_13,hr⟩:=aC hr
  obtain⟨x77,h_15,hr⟩:=aC hr
  obtain⟨x79,h_16,hr⟩:=aC hr
  obtain⟨x80,h_18,hr⟩:=aC hr
  obtain⟨x81,h_20,hr⟩:=aC hr
  refine aV5 mixed [111] [87,110] [[0,1,2,3,4,5,6,7,8,9,10,11,12,13,14,15,16],[17]] ?_
  refine zz ?_
  refine zg (eN h_13) [0,1,2] ?_
  refine zz ?_
  refine xu (aJs h_16)<|zg (aBG h_18) [] ?_
  refine zz ?_
  refine⟨_,_,(zv 4), ?_⟩
  refine zg (lJ h_20) [0,1,2] ?_
  refine zz ?_
  exact hG1 _ _ _ _ (zG [0,1,2,5,6]) (J1 x81.1 x81.2.1 x81.2.2.1 x81.2.2.2.2.2 x81.2.2.2.1 x81.2.2.2.2.1 hr)
 refine zz ?_
 refine zk hr rfl (fun h22 hr=> ?_) (fun h22 hr=> ?_)
 ·obtain⟨x86,h_23,hr⟩:=aC hr
  obtain⟨x87,h_24,hr⟩:=aC hr
  obtain⟨x89,h_25,hr⟩:=aC hr
  obtain⟨x90,h_26,hr⟩:=aC hr
  refine zz ?_
  refine zc (eN h_23) [0,1,2] ?_
  refine xp (vS h_24) ?_
  refine zz ?_
  refine zc (aBG h_25) [] ?_
  refine aWd (zv 4) ?_
  refine zc (lJ h_26) [0,1,2] ?_
  refine zz ?_
  exact hG1 _ _ _ _ (zG [0,1,2,5,6]) (J1 x90.1 x90.2.1 x90.2.2.1 x90.2.2.2.2.2 x90.2.2.2.1 x90.2.2.2.2.1 hr)
 refine zz ?_
 refine zk hr rfl (fun h27 hr=> ?_) (fun h27 hr=> ?_)
 ·refine aVS ?_
  obtain⟨x94,h_28,hr⟩:=aC hr
  obtain⟨x95,h_29,hr⟩:=aC hr
  refine zz ?_
  refine zc (eN h_28) [0,1,2] ?_
  refine xp (vS h_29) ?_
  refine zz ?_
  refine zk hr rfl (fun h30 hr=> ?_) (fun h30 hr=> ?_)
  ·refine zz ?_
   obtain rfl:=sj hr
   exact bI Tryz.results89 [0,1,2,1,2]
  obtain⟨x98,h_31,hr⟩:=aC hr
  refine zz ?_
  refine zc (n7 h_31) [0,1,2] ?_
  refine zz ?_
  exact hG1 _ _ _ _ (zG [0,1,2,4,5]) (J1 x98.1 x98.2.1 x98.2.2.1 x98.2.2.2.2.2 x98.2.2.2.1 x98.2.2.2.2.1 hr)
 refine zz ?_
 refine zk hr rfl (fun h32 hr=> ?_) (fun h32 hr=> ?_)
 ·obtain⟨aIU,h_33,hr⟩:=aC hr
  obtain⟨aHr,h_34,hr⟩:=aC hr
  obtain⟨q,h_35,hr⟩:=aC hr
  refine zz ?_
  refine zc (eN h_33) [0,1,2] ?_
  refine xp (aCQ h_34) ?_
  obtain⟨xL,h_36,hr⟩:=aC hr
  refine zz ?_
  refine aWd (zv 4) ?_
  refine zc (lJ h_36) [0,1,2] ?_
  refine zz ?_
  exact hG1 _ _ _ _ (zG [0,1,2,5,6]) (J1 xL.1 xL.2.1 xL.2.2.1 xL.2.2.2.2.2 xL.2.2.2.1 xL.2.2.2.2.1 hr)
 refine zz ?_
 refine zk hr rfl (fun h37 hr=> ?_) (fun h37 hr=> ?_)
 ·obtain⟨aLb,h_38,hr⟩:=aC hr
  obtain⟨aJJ,h_39,hr⟩:=aC hr
  obtain⟨aFV,h_40,hr⟩:=aC hr
  refine zz ?_
  refine zc (eN h_38) [0,1,2] ?_
  refine zz ?_
  refine zc (aBC h_39) [] ?_
  refine aWd (zv 4) ?_
  refine zc (sX h_40) [0,1,2] ?_
  refine zz ?_
  obtain rfl:=sj hr
  exact bI Tryz.results89 [0,1,2,5,6]
 refine zz ?_
 refine zk hr rfl (fun h41 hr=> ?_) (fun h41 hr=> ?_)
 ·obtain⟨aF1,h_42,hr⟩:=aC hr
  refine zz ?_
  refine zc (wH h_42) [0,1,2] ?_
  refine zz ?_
  obtain rfl:=sj hr
  exact bI Tryz.results89 [0,1,2,4,5]
 refine zz ?_
 refine zk hr rfl (fun h43 hr=> ?_) (fun h43 hr=> ?_)
 ·obtain⟨aGk,h_44,hr⟩:=aC hr
  refine zz ?_
  refine zc (wH h_44) [0,1,2] ?_
  refine zz ?_
  obtain rfl:=sj hr
  exact bI Tryz.results89 [0,1,2,4,5]
 refine zz ?_
 refine zk hr rfl (fun h45 hr=> ?_) (fun h45 hr=> ?_)
 ·refine aVS ?_
  obtain⟨aS1,h_46,hr⟩:=aC hr
  obtain⟨aS0,h_48,hr⟩:=aC hr
  refine aV5 mixed [114] [87] [[0,1,2,3,4,5,6,7,8]] ?_
  refine zz ?_
  refine zg (eN h_46) [0,1,2] ?_
  refine zz ?_
  refine xu (aDg h_48) ?_
  refine zz ?_
  obtain rfl:=sj hr
  exact bI Tryz.results89 [0,1,2,1,2]
 refine zz ?_
 refine zk hr rfl (fun h50 hr=> ?_) (fun h50 hr=> ?_)
 ·refine aVS ?_
  obtain⟨aSM,h_51,hr⟩:=aC hr
  obtain⟨aGc,h_53,hr⟩:=aC hr
  refine aV5 mixed [114] [87] [[0,1,2,3,4,5,6,7,8]] ?_
  refine zz ?_
  refine zg (eN h_51) [0,1,2] ?_
  refine zz ?_
  refine xu (aDg h_53) ?_
  refine zz ?_
  obtain rfl:=sj hr
  exact bI Tryz.results89 [0,1,2,1,2]
 refine zz ?_
 refine zk hr rfl (fun h55 hr=> ?_) (fun h55 hr=> ?_)
 ·refine zz ?_
  obtain rfl:=sj hr
  exact bI Tryz.results89 [0,1,2,1,2]
 refine zz ?_
 exact hG1 _ _ _ _ (zG [0,1,2,1,2]) (J1 aF aJ aN aY aL aH hr)
theorem aD9 {N:Nat}{aF:List Int}{aJ aN:Int}{aL:List (List Int)}{aH:List aM}{aY bA:Int}{cC:List Int}{eU eG:Int}{r:Int×(List Int)×Int×Int×(List (List Int))×(List aM)×Int}(hr:iX N aF aJ aN aL aH aY bA cC eU eG=some r):
  Vm.Fn Tryz.prog 59 [some ⟨88,(bG (eI .u8) aF [(eI .i64 aJ),(eI .i64 aN),(.sl 1 0 aL.length 1 false),(.sl 2 0 aH.length 2 true),(eI .i64 aY)])⟩,some ⟨31,aL.map (eL 1 (eI .u8))⟩,some ⟨113,aH.flatMap aV⟩] [(.ptr 0 0),(.agg [(eI .i64 bA),(.row none 1 (cC.map (eI .u8))),(eI .i64 eU),(eI .i64 eG)])] (eI .i64 r.1) [some ⟨88,(bG (eI .u8) r.2.1 [(eI .i64 r.2.2.1),(eI .i64 r.2.2.2.1),(.sl 3 0 r.2.2.2.2.1.length 1 false),(.sl 4 0 r.2.2.2.2.2.1.length 2 true),(eI .i64 r.2.2.2.2.2.2)])⟩,none,none,some ⟨31,r.2.2.2.2.1.map (eL 1 (eI .u8))⟩,some ⟨113,r.2.2.2.2.2.1.flatMap aV⟩]:=by
 refine zf Tryz.func59 Tryz.ntmps59 ?_
 unfold iX at hr
 obtain⟨x8,h_1,hr⟩:=aC hr
 refine zz ?_
 refine zc (aDw h_1) [0,1,2] ?_
 refine zz ?_
 refine aVV fun K1 hK1 hG1=> ?_
 have J1: ∀(counted:Bool),iS N aF aJ aN aL aH aY bA cC eU eG counted=some r→K1 (aI 116 [(0,(.ptr 0 0)),(3,(.ptr 3 0)),(5,(eB counted))]) [some ⟨88,(bG (eI .u8) aF [(eI .i64 aJ),(eI .i64 aN),(.sl 1 0 aL.length 1 false),(.sl 2 0 aH.length 2 true),(eI .i64 aY)])⟩,some ⟨31,aL.map (eL 1 (eI .u8))⟩,some ⟨113,aH.flatMap aV⟩,some ⟨90,[(eI .i64 bA),(.row none 1 (cC.map (eI .u8))),(eI .i64 eU),(eI .i64 eG)]⟩]:=by
  intro counted hr
  unfold iS at hr
  refine hK1 _ _ ?_
  refine aVV fun K2 hK2 hG2=> ?_
  have J2: ∀(c0:Int),iM N aF aJ aN aL aH bA cC eU eG counted c0=some r→K2 (aI 116 [(0,(.ptr 0 0)),(3,(.ptr 3 0)),(5,(eB counted))]) [some ⟨88,(bG (eI .u8) aF [(eI .i64 aJ),(eI .i64 aN),(.sl 1 0 aL.length 1 false),(.sl 2 0 aH.length 2 true),(eI .i64 c0)])⟩,some ⟨31,aL.map (eL 1 (eI .u8))⟩,some ⟨113,aH.flatMap aV⟩,some ⟨90,[(eI .i64 bA),(.row none 1 (cC.map (eI .u8))),(eI .i64 eU),(eI .i64 eG)]⟩]:=by
   intro c0 hr
   unfold iM at hr
   refine hK2 _ _ ?_
   refine zz ?_
   refine aVV fun K3 hK3 hG3=> ?_
   have J3: ∀(xI:List Int)(wE vN aBL:Int)(l3:List (List Int))(l4:List aM),gM N xI wE vN aBL l3 l4=some r→K3 (aI 116 []) [some ⟨88,(bG (eI .u8) xI [(eI .i64 wE),(eI .i64 vN),(.sl 3 0 l3.length 1 false),(.sl 4 0 l4.length 2 true),(eI .i64 aBL)])⟩,none,none,some ⟨31,l3.map (eL 1 (eI .u8))⟩,some ⟨113,l4.flatMap aV⟩]:=by
    intro xI wE vN aBL l3 l4 hr
    unfold gM at hr
    refine hK3 _ _ ?_
    refine zz ?_
    obtain rfl:=sj hr
    exact bI Tryz.results59 [0,1,2,3,4]
   refine zz ?_
   refine aVU ?_
   refine zz ?_
   refine zk hr rfl (fun h2 hr=> ?_) (fun h2 hr=> ?_)
   ·refine aVV fun K4 hK4 hG4=> ?_
    have J4: ∀(eZ:List aM),kT N aF aJ aN aL counted c0 eZ=some r→K4 (aI 116 [(0,(.ptr 0 0)),(5,(eB counted))]) [some ⟨88,(bG (eI .u8) aF [(eI .i64 aJ),(eI .i64 aN),(.sl 1 0 aL.length 1 false),(.sl 3 0 eZ.length 2 true),(eI .i64 c0)])⟩,some ⟨31,aL.map (eL 1 (eI .u8))⟩,none,some ⟨113,eZ.flatMap aV⟩]:=by
     intro eZ hr
     unfold kT at hr
     refine hK4 _ _ ?_
     refine zz ?_
     refine zk hr rfl (fun h3 hr=> ?_) (fun h3 hr=> ?_)
     ·obtain⟨x86,h_4,hr⟩:=aC hr
      refine zz ?_
      refine zc (n7 h_4) [0,1,3] ?_
      refine zz ?_
      exact hG3 _ _ _ _ (zG [0,1,2,4,5]) (J3 x86.1 x86.2.1 x86.2.2.1 x86.2.2.2.2.2 x86.2.2.2.1 x86.2.2.2.2.1 hr)
     refine zz ?_
     exact hG3 _ _ _ _ (zG [0,1,2,1,3]) (J3 aF aJ aN c0 aL eZ hr)
    rcases aVR counted with h5|h5
    ·replace hr:=dD hr h5
     obtain⟨x76,h_6,hr⟩:=aC hr
     obtain⟨x77,h_8,hr⟩:=aC hr
     obtain⟨x81,h_10,hr⟩:=aC hr
     refine aV5 mixed [33] [87] [[0,1,2,3,4,5,6,7,8,9,10,11,12,13,14,15,16,17]] ?_
     refine zz ?_
     refine zg (eN h_6) [0,1,2] ?_
     refine xu (vS h_8) ?_
     refine zz ?_
     refine xw (v:=(.sl 4 0 1 2 true)) (h':=[some ⟨88,(bG (eI .u8) aF [(eI .i64 aJ),(eI .i64 aN),(.sl 1 0 aL.length 1 false),(.sl 2 0 aH.length 2 true),(eI .i64 c0)])⟩,some ⟨31,aL.map (eL 1 (eI .u8))⟩,some ⟨113,aH.flatMap aV⟩,some ⟨90,[(eI .i64 bA),(.row none 1 (cC.map (eI .u8))),(eI .i64 eU),(eI .i64 eG)]⟩,some ⟨113,[(aM.mk counted x77)].flatMap aV⟩]) (pD rfl (aCL (C:=aV) (xs:=[(aM.mk counted x77)]) (K:=2) (fun _=>rfl) (fun _=>rfl) aJE aCU ⟨zl,zl,zl⟩ rfl rfl rfl rfl rfl rfl)) ?_
     refine zz ?_
     exact hG4 _ _ _ _ (zG [0,1,2,5]) (J4 x81 hr)
    replace hr:=dA hr h5
    obtain⟨aNC,h_11,hr⟩:=aC hr
    refine aV5 mixed [33] [87] [[0,1,2,3,4,5,6,7,8,9,10,11,12,13,14,15,16,17]] ?_
    refine zz ?_
    refine xw (v:=(.sl 4 0 1 2 true)) (h':=[some ⟨88,(bG (eI .u8) aF [(eI .i64 aJ),(eI .i64 aN),(.sl 1 0 aL.length 1 false),(.sl 2 0 aH.length 2 true),(eI .i64 c0)])⟩,some ⟨31,aL.map (eL 1 (eI .u8))⟩,some ⟨113,aH.flatMap aV⟩,some ⟨90,[(eI .i64 bA),(.row none 1 (cC.map (eI .u8))),(eI .i64 eU),(eI .i64 eG)]⟩,some ⟨113,[(aM.mk counted false)].flatMap aV⟩]) (pD rfl (aCL (C:=aV) (xs:=[(aM.mk counted false)]) (K:=2) (fun _=>rfl) (fun _=>rfl) aJE aCU ⟨zl,zl,zl⟩ rfl rfl rfl rfl rfl rfl)) ?_
    refine zz ?_
    exact hG4 _ _ _ _ (zG [0,1,2,5]) (J4 aNC hr)
   refine zz ?_
   refine zk hr rfl (fun h12 hr=> ?_) (fun h12 hr=> ?_)
   ·obtain⟨x99,h_13,hr⟩:=aC hr
    refine aV5 mixed [] [] [[0,1,2,3,4,5,6,7,8,9,10,11,12,13,14,15,16]] ?_
    refine zz ?_
    refine xw (v:=(eB x99.taken)) (cA rfl (aK7 (C:=aV) (K:=2) (off:=1) (fun _=>rfl) rfl h_13 zl (pH ti4 rfl rfl))) ?_
    refine zz ?_
    refine xy (h':=[some ⟨88,(bG (eI .u8) aF [(eI .i64 aJ),(eI .i64 aN),(.sl 1 0 aL.length 1 false),(.sl 2 0 aH.length 2 true),(eI .i64 c0)])⟩,some ⟨31,aL.map (eL 1 (eI .u8))⟩,some ⟨113,(aH.set (aV0 (aVO.wrap ((aH.length:Int)-1))) (aM.mk x99.outer (!x99.taken))).flatMap aV⟩,some ⟨90,[(eI .i64 bA),(.row none 1 (cC.map (eI .u8))),(eI .i64 eU),(eI .i64 eG)]⟩]) (bN rfl rfl (aPq (C:=aV) (K:=2) (off:=1) (fun _=>rfl) ti4 rfl h_13 rfl rfl zl rfl rfl)) ?_
    refine zz ?_
    exact hG3 _ _ _ _ (lK [0,1,2,1,2]) (J3 aF aJ aN c0 aL (aH.set (aV0 (aVO.wrap ((aH.length:Int)-1))) (aM.mk x99.outer (!x99.taken))) hr)
   refine zz ?_
   refine zk hr rfl (fun h14 hr=> ?_) (fun h14 hr=> ?_)
   ·obtain⟨aF5,h_15,hr⟩:=aC hr
    refine zz ?_
    refine xw (v:=(.sl 2 0 aF5.length 2 true)) (cZ rfl rfl rfl (aIE (l:=aH) rfl aJE aCU rfl rfl rfl h_15)) ?_
    refine aWd (Ghost.cutF (t:=113) (C:=aV) (l:=aH) (K:=2) (h':=[some ⟨88,(bG (eI .u8) aF [(eI .i64 aJ),(eI .i64 aN),(.sl 1 0 aL.length 1 false),(.sl 2 0 aH.length 2 true),(eI .i64 c0)])⟩,some ⟨31,aL.map (eL 1 (eI .u8))⟩,some ⟨113,aF5.flatMap aV⟩,some ⟨90,[(eI .i64 bA),(.row none 1 (cC.map (eI .u8))),(eI .i64 eU),(eI .i64 eG)]⟩]) (fun _=>rfl) rfl rfl h_15 rfl) ?_
    refine zz ?_
    exact hG3 _ _ _ _ (zG [0,1,2,1,2]) (J3 aF aJ aN c0 aL aF5 hr)
   refine zz ?_
   refine zk hr rfl (fun h16 hr=> ?_) (fun h16 hr=> ?_)
   ·obtain⟨x64,h_17,hr⟩:=aC hr
    refine zz ?_
    refine zc (aDM h_17) [0,1,2] ?_
    refine zz ?_
    obtain rfl:=sj hr
    exact bI Tryz.results59 [0,1,2,4,5]
   refine zz ?_
   exact hG3 _ _ _ _ (zG [0,1,2,1,2]) (J3 aF aJ aN c0 aL aH hr)
  refine zz ?_
  refine zk hr rfl (fun h18 hr=> ?_) (fun h18 hr=> ?_)
  ·refine aVS ?_
   obtain⟨x36,h_19,hr⟩:=aC hr
   refine aV5 mixed [85] [] [[0,1,2,3,4,5,6,7,8,9]] ?_
   refine zz ?_
   refine xu (aH0 h_19) ?_
   refine zz ?_
   refine aVS ?_
   refine zz ?_
   refine zk hr rfl (fun h21 hr=> ?_) (fun h21 hr=> ?_)
   ·refine zz ?_
    obtain rfl:=sj hr
    exact bI Tryz.results59 [0,1,2,1,2]
   refine zz ?_
   refine aVS ?_
   obtain⟨x51,h_22,hr⟩:=aC hr
   refine aV5 mixed [86] [] [[0,1,2,3,4,5,6,7]] ?_
   refine zz ?_
   refine xu (aIe h_22) ?_
   refine zz ?_
   refine zk hr rfl (fun h24 hr=> ?_) (fun h24 hr=> ?_)
   ·refine zz ?_
    obtain rfl:=sj hr
    exact bI Tryz.results59 [0,1,2,1,2]
   refine zz ?_
   exact hG2 _ _ _ _ (zG [0,1,2,3]) (J2 (aVO.wrap (aY+x36)) hr)
  refine zz ?_
  exact hG2 _ _ _ _ (zG [0,1,2,3]) (J2 aY hr)
 refine aVV fun K5 hK5 hG5=> ?_
 have J5: ∀(x16:Bool),iQ N aF aJ aN aL aH aY bA cC eU eG x8 x16=some r→K5 (aI 116 [(0,(.ptr 0 0)),(3,(.ptr 3 0)),(5,(eB x8)),(16,(eB x16))]) [some ⟨88,(bG (eI .u8) aF [(eI .i64 aJ),(eI .i64 aN),(.sl 1 0 aL.length 1 false),(.sl 2 0 aH.length 2 true),(eI .i64 aY)])⟩,some ⟨31,aL.map (eL 1 (eI .u8))⟩,some ⟨113,aH.flatMap aV⟩,some ⟨90,[(eI .i64 bA),(.row none 1 (cC.map (eI .u8))),(eI .i64 eU),(eI .i64 eG)]⟩]:=by
  intro x16 hr
  unfold iQ at hr
  refine hK5 _ _ ?_
  refine zk hr rfl (fun h25 hr=> ?_) (fun h25 hr=> ?_)
  ·obtain⟨x27,h_26,hr⟩:=aC hr
   refine aV5 mixed [] [] [[0,1,2,3,4,5,6,7,8,9,10,11,12,13]] ?_
   refine zz ?_
   refine xw (v:=(eB x27.outer)) (cA rfl (aK7 (C:=aV) (K:=2) (off:=0) (fun _=>rfl) rfl h_26 zl (pH ti4 rfl rfl))) ?_
   refine zz ?_
   exact hG1 _ _ _ _ (zG [0,1,2,3]) (J1 x27.outer hr)
  refine zz ?_
  exact hG1 _ _ _ _ (zG [0,1,2,3]) (J1 x8 hr)
 rcases aVR (bA == 15)with h27|h27
 ·replace hr:=dD hr h27
  refine xr ?_
  refine zz ?_
  exact hG5 _ _ _ _ (zG [0,1,2,3]) (J5 true hr)
 replace hr:=dA hr h27
 refine xr ?_
 refine zz ?_
 exact hG5 _ _ _ _ (zG [0,1,2,3]) (J5 (bA == 16) hr)
theorem aKA {N:Nat}{b:List Int}{stack:List (List Int)}{fD:List Int}{gJ n8:Int}{r:(List (List Int))×Int×Int}(hr:aBf N b stack fD gJ n8=some r):
  Vm.Fn Tryz.prog 32 [] [(.row none 1 (b.map (eI .u8))),(.row none 1 (stack.map (eL 1 (eI .u8)))),(.agg (bG (eI .u8) fD [(eI .i64 gJ),(eI .i64 n8)]))] (.tup [(.sl 0 0 r.1.length 1 false),(eI .i64 r.2.1),(eI .i64 r.2.2)]) [some ⟨31,r.1.map (eL 1 (eI .u8))⟩]:=by
 refine zf Tryz.func32 Tryz.ntmps32 ?_
 unfold aBf at hr
 obtain⟨x17,h_1,hr⟩:=aC hr
 refine zz ?_
 refine zc (aIi h_1) [] ?_
 refine zz ?_
 refine aVS ?_
 refine zz ?_
 refine zk hr rfl (fun h2 hr=> ?_) (fun h2 hr=> ?_)
 ·refine zz ?_
  obtain rfl:=sj hr
  exact wP Tryz.results32 bH bH bH (zW 31 [2])
 refine zz ?_
 refine aVS ?_
 obtain⟨fG,h_3,hr⟩:=aC hr
 refine zz ?_
 refine jD (aHA h_3) [] [1] ?_
 refine zz ?_
 refine zk hr rfl (fun h4 hr=> ?_) (fun h4 hr=> ?_)
 ·refine zz ?_
  obtain rfl:=sj hr
  exact wP Tryz.results32 bH bH bH (zW 31 [2])
 refine zz ?_
 refine aVS ?_
 obtain⟨x27,h_5,hr⟩:=aC hr
 refine zz ?_
 refine xp (aGM h_5) ?_
 refine zz ?_
 refine zk hr rfl (fun h6 hr=> ?_) (fun h6 hr=> ?_)
 ·refine zz ?_
  obtain rfl:=sj hr
  exact wP Tryz.results32 bH bH bH (zW 31 [2])
 refine zz ?_
 refine aVS ?_
 obtain⟨e9,h_7,hr⟩:=aC hr
 refine AB.rd (fQ []) (fQ [58]) mixed<|aVQ (n:=5) (i:=0) (by decide +kernel) rfl (gS (v:=(.agg (bG (eI .u8) fD [(eI .i64 gJ),(eI .i64 n8)]))) (sv (cA rfl (ldP rfl (aCJ (ds:=(bG (eI .u8) fD [(eI .i64 gJ),(eI .i64 n8)])) aBE rfl zl rfl)))))<|aVQ (n:=4) (i:=1) (by decide +kernel) rfl (gS (v:=(.row none 1 (stack.map (eL 1 (eI .u8))))) (sv (mI rfl))) ?_
 refine aWi (m:=1) (L:=lst [0,1,2,3,4] 6) (s1:=aI 50 [(9,(.sl 0 0 x17.1.length 4 true)),(11,(.ptr 1 0)),(32,(.agg (bG (eI .u8) fD [(eI .i64 gJ),(eI .i64 n8),(.sl 2 0 e9.length 1 false),(.row (some true) 1 []),(eI .i64 0)])))]) (h1:=[some ⟨90,x17.1.flatMap cO⟩,some ⟨88,(bG (eI .u8) (aVP 32 0) [(eI .i64 0),(eI .i64 0),(.row (some true) 1 []),(.row (some true) 1 []),(eI .i64 0)])⟩,some ⟨31,e9.map (eL 1 (eI .u8))⟩]) ?_ (fun J=> ?_)
 ·refine aVQ (n:=0) (i:=5) (by decide +kernel) rfl (gN (h':=[some ⟨90,x17.1.flatMap cO⟩,some ⟨88,(bG (eI .u8) fD [(eI .i64 gJ),(eI .i64 n8),(.sl 2 0 e9.length 1 false),(.row (some true) 1 []),(eI .i64 0)])⟩,some ⟨31,e9.map (eL 1 (eI .u8))⟩]) (sv (bN rfl rfl (jB aBc rfl rfl rfl zl rfl))))<|aWa (by decide +kernel) ?_
  refine zz ?_
  refine aVV fun K1 hK1 hG1=> ?_
  have J1: ∀(c0:List Int)(xI wE vN:Int)(l1:List (List Int))(l2:List aM),aAj N c0 xI wE vN l1 l2=some r→K1 (aI 50 [(11,(.ptr 0 0))]) [some ⟨88,(bG (eI .u8) c0 [(eI .i64 xI),(eI .i64 wE),(.sl 1 0 l1.length 1 false),(.sl 2 0 l2.length 2 true),(eI .i64 vN)])⟩,some ⟨31,l1.map (eL 1 (eI .u8))⟩,some ⟨113,l2.flatMap aV⟩]:=by
   intro c0 xI wE vN l1 l2 hr
   unfold aAj at hr
   refine hK1 _ _<|aVS<|aV1 (aWk (fr':=[(11,(.ptr 0 0))]) (h':=[some ⟨88,(bG (eI .u8) c0 [(eI .i64 xI),(eI .i64 wE),(.row none 1 (l1.map (eL 1 (eI .u8)))),(.sl 2 0 l2.length 2 true),(eI .i64 vN)])⟩,none,some ⟨113,l2.flatMap aV⟩]) (aVZ rfl (aVT (aQ rfl)) FCv.nil) (aWe (aQQ (fun _=>aVT (aQ rfl)) (aVW (aVT (aQ rfl)) (aVW (aVT (aQ rfl)) (aVW (aWg (aQ rfl) rfl rfl (gL (fun _=>rfl)) (by first|rfl|(simp only[aV6,b7,b6];done))) (aVW (aVT (aQ rfl)) (aVW (aVT (aQ rfl)) aV9)))))) rfl (HCv.dead (aWe (aWc (aQ rfl)) (q7 (fun _=>rfl) _) HCv.nil)))) ?_
   obtain⟨x47,h_9,hr⟩:=aC hr
   refine aV5 mixed [] [58] [[0,1,2,3,4,5,6,7]] ?_
   refine zz ?_
   refine zg (aAm h_9) [] ?_
   refine zz ?_
   obtain rfl:=sj hr
   exact zd3 Tryz.results32 [3]
  obtain⟨bQ,hL2,hr⟩:=aC hr
  refine zz ?_
  refine aVU<|aV2 (fun m s h=> ∃(x35:Int)(aBL:List Int)(c0_5 c0_6 c0_7:Int)(i9:List (List Int))(l3:List aM),mZ N x17 m x35 aBL c0_5 c0_6 c0_7 i9 l3=some bQ∧Ghost 0 s h (aI 50 [(11,(.ptr 0 0)),(33,(.sl 1 0 x17.1.length 4 true)),(34,(eI .i64 (x17.1.length:Int))),(35,(eI .i64 x35))]) [some ⟨88,(bG (eI .u8) aBL [(eI .i64 c0_5),(eI .i64 c0_6),(.sl 2 0 i9.length 1 false),(.sl 3 0 l3.length 2 true),(eI .i64 c0_7)])⟩,some ⟨90,x17.1.flatMap cO⟩,some ⟨31,i9.map (eL 1 (eI .u8))⟩,some ⟨113,l3.flatMap aV⟩]) (n:=N) ⟨0,fD,gJ,n8,0,e9,[],hL2,(aWf (aWh (fr':=[(11,(.ptr 1 0)),(33,(.sl 0 0 x17.1.length 4 true)),(34,(eI .i64 (x17.1.length:Int))),(35,(eI .i64 0))]) (h1:=[some ⟨90,x17.1.flatMap cO⟩,some ⟨88,(bG (eI .u8) fD [(eI .i64 gJ),(eI .i64 n8),(.sl 2 0 e9.length 1 false),(.sl 3 0 0 2 true),(eI .i64 0)])⟩,some ⟨31,e9.map (eL 1 (eI .u8))⟩]) 113 (FLe.same rfl (FLe.same rfl (FLe.same rfl (FLe.same rfl FLe.nil)))) (HLv.live (V.les_refl _ _) (q7 (fun _=>rfl) _) (HLv.live (aQj (V.les_cons (V.le_refl _ _) (V.les_cons (V.le_refl _ _) (V.les_cons (V.le_refl _ _) (V.les_cons (V.le_virt rfl) (V.les_cons (V.le_refl _ _) V.les_nil)))))) rfl (HLv.live (V.les_refl _ _) (all_map (fun _=>rfl) _) HLv.nil)))) (lK [1,0,2,3]))⟩ (by rintro s h ⟨_,_,_,_,_,_,_,h0,_⟩;simp[mZ]at h0) ?_
  rintro m2 s h ⟨x35,aBL,c0_5,c0_6,c0_7,i9,l3,hr2,hg⟩
  refine aV1 hg ?_
  clear hg hL2
  rw[mZ]at hr2
  refine zz ?_
  refine aVS ?_
  refine zk hr2 rfl (fun h11 hr2=> ?_) (fun h11 hr2=> ?_)
  ·refine zz ?_
   refine aVS<|aVU ?_
   obtain⟨x37,h_12,hr2⟩:=aC hr2
   refine zz ?_
   refine xw (v:=(.agg [(eI .i64 x37.Code),(.row none 1 (x37.Data.map (eI .u8))),(eI .i64 x37.M),(eI .i64 x37.N)])) (cA rfl (aNz (C:=cO) (K:=4) (fun _=>rfl) rfl h_12 (aCJ (ds:=[(eI .i64 x37.Code),(.row none 1 (x37.Data.map (eI .u8))),(eI .i64 x37.M),(eI .i64 x37.N)]) aBM rfl zl rfl))) ?_
   obtain⟨x40,h_13,hr2⟩:=aC hr2
   refine zz ?_
   refine zc (aD9 h_13) [0,2,3] ?_
   refine zz ?_
   refine zk hr2 rfl (fun h14 hr2=> ?_) (fun h14 hr2=> ?_)
   ·refine zz ?_
    obtain rfl:=sj hr2
    obtain rfl:=sj hr
    exact wP Tryz.results32 bH bH bH (zW 31 [7])
   refine zz ?_
   exact⟨aVO.wrap (x35+1),x40.2.1,x40.2.2.1,x40.2.2.2.1,x40.2.2.2.2.2.2,x40.2.2.2.2.1,x40.2.2.2.2.2.1,hr2,(zG [0,1,5,6])⟩
  refine zz ?_
  obtain rfl:=sj hr2
  refine zz ?_
  exact hG1 _ _ _ _ (zG [0,2,3]) (J1 aBL c0_5 c0_6 c0_7 i9 l3 hr)
 refine aV3 (n:=3) [2,4] (by decide +kernel) (by decide) ?_
 refine(aVY rfl (gC (v:=(.sl 2 0 e9.length 1 false)) (h':=[some ⟨54,(bG (eI .u8) fD [(eI .i64 gJ),(eI .i64 n8)])⟩,some ⟨90,x17.1.flatMap cO⟩,some ⟨31,e9.map (eL 1 (eI .u8))⟩]) (zB (aAm h_7) []) rfl (fun _=>⟨_,rfl⟩) (sv (lS rfl o7))) ?_ (aVY rfl (gS (v:=(.ptr 2 0)) (h':=[some ⟨54,(bG (eI .u8) fD [(eI .i64 gJ),(eI .i64 n8)])⟩,some ⟨90,x17.1.flatMap cO⟩,some ⟨88,(bG (eI .u8) (aVP 32 0) [(eI .i64 0),(eI .i64 0),(.row (some true) 1 []),(.row (some true) 1 []),(eI .i64 0)])⟩]) (sv (dR aBc rfl rfl rfl))) ?_ aV7))
 ·refine aVQ (n:=2) (i:=3) (by decide +kernel) rfl (gS (v:=(.agg (bG (eI .u8) fD [(eI .i64 gJ),(eI .i64 n8),(.sl 2 0 e9.length 1 false),(.row (some true) 1 []),(eI .i64 0)]))) (sv (cE rfl (tO aBc aP4 rfl))))<|aVQ (n:=1) (i:=4) (by decide +kernel) rfl (gS (v:=(.ptr 3 0)) (h':=[some ⟨54,(bG (eI .u8) fD [(eI .i64 gJ),(eI .i64 n8)])⟩,some ⟨90,x17.1.flatMap cO⟩,some ⟨31,e9.map (eL 1 (eI .u8))⟩,some ⟨88,(bG (eI .u8) (aVP 32 0) [(eI .i64 0),(eI .i64 0),(.row (some true) 1 []),(.row (some true) 1 []),(eI .i64 0)])⟩]) (sv (dR aBc rfl rfl rfl))) ?_
  exact aV4 (by decide +kernel) (by decide +kernel) (zG [1,3,2]) J
 refine aVQ (n:=2) (i:=2) (by decide +kernel) rfl (gC (v:=(.sl 3 0 e9.length 1 false)) (h':=[some ⟨54,(bG (eI .u8) fD [(eI .i64 gJ),(eI .i64 n8)])⟩,some ⟨90,x17.1.flatMap cO⟩,some ⟨88,(bG (eI .u8) (aVP 32 0) [(eI .i64 0),(eI .i64 0),(.row (some true) 1 []),(.row (some true) 1 []),(eI .i64 0)])⟩,some ⟨31,e9.map (eL 1 (eI .u8))⟩]) (zB (aAm h_7) []) rfl (fun _=>⟨_,rfl⟩) (sv (lS rfl o7)))<|aVQ (n:=1) (i:=3) (by decide +kernel) rfl (gS (v:=(.agg (bG (eI .u8) fD [(eI .i64 gJ),(eI .i64 n8),(.sl 3 0 e9.length 1 false),(.row (some true) 1 []),(eI .i64 0)]))) (sv (cE rfl (tO aBc aP4 rfl)))) ?_
 exact aV4 (by decide +kernel) (by decide +kernel) (zG [1,2,3]) J
theorem aFA {N:Nat}{b:List Int}{bJ:List (List Int)}{fD:List Int}{gJ n8 r:Int}(hr:nG N b bJ fD gJ n8=some r):
  Vm.Fn Tryz.prog 15 [] [(.row none 1 (b.map (eI .u8))),(.row none 1 (bJ.map (eL 1 (eI .u8)))),(.agg (bG (eI .u8) fD [(eI .i64 gJ),(eI .i64 n8)]))] (eI .i64 r) []:=by
 refine zf Tryz.func15 Tryz.ntmps15 ?_
 unfold nG at hr
 obtain⟨bR,h_1,hr⟩:=aC hr
 refine zz ?_
 refine zc (aKA h_1) [] ?_
 refine zz ?_
 refine aVS<|aVU ?_
 refine zz ?_
 refine zk hr rfl (fun h2 hr=> ?_) (fun h2 hr=> ?_)
 ·refine zz ?_
  obtain rfl:=sj hr
  exact bI Tryz.results15 []
 refine zz ?_
 refine zk hr rfl (fun h3 hr=> ?_) (fun h3 hr=> ?_)
 ·refine zz ?_
  obtain rfl:=sj hr
  exact bI Tryz.results15 []
 obtain⟨x28,h_4,hr⟩:=aC hr
 obtain⟨lL,h_5,hr⟩:=aC hr
 refine zz ?_
 refine xp (vS h_5) ?_
 refine zz ?_
 refine zk hr rfl (fun h6 hr=> ?_) (fun h6 hr=> ?_)
 ·refine zz ?_
  obtain rfl:=sj hr
  exact bI Tryz.results15 []
 refine zz ?_
 obtain rfl:=sj hr
 exact bI Tryz.results15 []
theorem aI5 {N:Nat}{aD:Int}{aA:List aK}{aB:List aG}{aE vi:Int}{cX:List Int}{b5 bT:Int}{bK:List Int}{b9:Int}{cM:Bool}{cP r:Int}(hr:zP N aD aA aB aE vi cX b5 bT bK b9 cM cP=some r):
  Vm.Fn Tryz.prog 7 [] [(.agg [(eI .u32 aD),(.row none 35 (aA.map aO)),(.row none 2 (aB.map aP)),(eI .u32 aE)]),(eI .i64 vi),(.agg (bG (eI .u8) cX [(eI .u32 b5),(eI .i64 bT),(.row none 1 (bK.map (eI .u8))),(eI .i64 b9),(eB cM)])),(eI .i64 cP)] (eI .i64 r) []:=by
 refine zf Tryz.func7 Tryz.ntmps7 ?_
 unfold zP at hr
 obtain⟨x17,h_1,hr⟩:=aC hr
 obtain⟨q,h_2,hr⟩:=aC hr
 refine zz ?_
 refine xp (aHq h_1) ?_
 refine zz ?_
 refine aVS<|aVU ?_
 refine zz ?_
 refine zk hr rfl (fun h3 hr=> ?_) (fun h3 hr=> ?_)
 ·refine zz ?_
  obtain rfl:=sj hr
  exact bI Tryz.results7 []
 refine aVS ?_
 obtain⟨x28,h_4,hr⟩:=aC hr
 refine aV5 mixed [] [] [[0,1,2,3,4,5,6,7,8,9]] ?_
 refine zz ?_
 refine xw (v:=(eB (!(aCR x28.Prev.Tx cX ((x28.Prev.Index == b5)&&true))))) (v5 rfl rfl (aHz (d:=9) rG rfl aLV zl aN3 rfl rfl rfl rfl rfl)) ?_
 refine zz ?_
 refine zk hr rfl (fun h5 hr=> ?_) (fun h5 hr=> ?_)
 ·refine zz ?_
  obtain rfl:=sj hr
  exact bI Tryz.results7 []
 refine aVV fun K1 hK1 hG1=> ?_
 have J1: ∀(cV:Bool),qB N aD aA aB aE vi cX b5 bT bK b9 cM cP x17 cV=some r→K1 (aI 66 [(1,(eI .i64 vi)),(3,(eI .i64 cP)),(4,(.ptr 0 0)),(6,(.ptr 1 0)),(9,(.ptr 2 0)),(34,(eB cV))]) [some ⟨26,[(eI .u32 aD),(.row none 35 (aA.map aO)),(.row none 2 (aB.map aP)),(eI .u32 aE)]⟩,some ⟨35,(bG (eI .u8) cX [(eI .u32 b5),(eI .i64 bT),(.row none 1 (bK.map (eI .u8))),(eI .i64 b9),(eB cM)])⟩,some ⟨28,x17.1.map (eI .u8)⟩]:=by
  intro cV hr
  unfold qB at hr
  refine hK1 _ _ ?_
  refine zk hr rfl (fun h6 hr=> ?_) (fun h6 hr=> ?_)
  ·refine zz ?_
   obtain rfl:=sj hr
   exact bI Tryz.results7 []
  refine zz ?_
  refine xw (v:=(.agg (bG (eI .u8) x17.1 [(eI .i64 cP),(eI .i64 (aVO.wrap (cP-b9)))]))) (cE rfl (aNS (ps':=[(0,(.agg (bG (eI .u8) x17.1 []))),(1,(eI .i64 cP)),(2,(eI .i64 (aVO.wrap (cP-b9))))]) (by simp only[uB (l:=x17.1) (bE h_2)]) (tO aBE aPV rfl)))<|xw (v:=(.ptr 3 0)) (h':=[some ⟨26,[(eI .u32 aD),(.row none 35 (aA.map aO)),(.row none 2 (aB.map aP)),(eI .u32 aE)]⟩,some ⟨35,(bG (eI .u8) cX [(eI .u32 b5),(eI .i64 bT),(.row none 1 (bK.map (eI .u8))),(eI .i64 b9),(eB cM)])⟩,some ⟨28,x17.1.map (eI .u8)⟩,some ⟨54,(bG (eI .u8) (aVP 32 0) [(eI .i64 0),(eI .i64 0)])⟩]) (dR aBE rfl rfl rfl) ?_
  refine zz ?_
  refine aVS ?_
  obtain⟨x61,h_7,hr⟩:=aC hr
  obtain⟨x65,h_8,hr⟩:=aC hr
  refine aV5 mixed [15] [] [[0,1,2,3,4,5,6,7,8,9,10,11]] ?_
  refine zz ?_
  refine xu (aFA h_8) ?_
  refine zz ?_
  obtain rfl:=sj hr
  exact bI Tryz.results7 []
 rcases aVR (decide (b9<0))with h10|h10
 ·replace hr:=dD hr h10
  refine xr ?_
  refine zz ?_
  refine xX rfl<|xX rfl ?_
  refine zz ?_
  exact hG1 _ _ _ _ (zG [0,1,2]) (J1 true hr)
 replace hr:=dA hr h10
 rcases aVR (decide (cP<b9))with h11|h11
 ·replace hr:=dD hr h11
  refine xr ?_
  refine zz ?_
  exact hG1 _ _ _ _ (zG [0,1,2]) (J1 true hr)
 replace hr:=dA hr h11
 refine xr ?_
 refine zz ?_
 exact hG1 _ _ _ _ (zG [0,1,2]) (J1 (decide (16777216<cP)) hr)
theorem oW {N:Nat}{v vn:Int}{r:(List Int)}(hr:kN N v vn=some r):
  Vm.Fn Tryz.prog 62 [] [(eI .u64 v),(eI .i64 vn)] (.sl 0 0 r.length 1 false) [some ⟨5,r.map (eI .u8)⟩]:=by
 refine zf Tryz.func62 Tryz.ntmps62 ?_
 unfold kN at hr
 obtain⟨x8,h_1,hr⟩:=aC hr
 refine zz ?_
 refine xw (v:=(.sl 0 0 x8.length 1 false)) (h':=[some ⟨5,x8.map (eI .u8)⟩]) (aIR rfl rfl (mkS (E:=(eI .u8)) (y:=0) dC dO ⟨zl,rfl,rfl⟩ rfl rfl rfl h_1 rfl rfl)) ?_
 refine zz ?_
 refine aVV fun K1 hK1 hG1=> ?_
 have J1: ∀(l0:List Int),v4 N l0=some r→K1 (aI 24 [(5,(.sl 0 0 l0.length 1 false))]) [some ⟨5,l0.map (eI .u8)⟩]:=by
  intro l0 hr
  unfold v4 at hr
  refine hK1 _ _ ?_
  refine zz ?_
  obtain rfl:=sj hr
  exact bI Tryz.results62 [0]
 obtain⟨bQ,hL2,hr⟩:=aC hr
 refine zz ?_
 refine aVU<|aV2 (fun m s h=> ∃(b4:Int)(aS:List Int),kG N v x8 m b4 aS=some bQ∧Ghost 0 s h (aI 24 [(0,(eI .u64 v)),(5,(.sl 0 0 aS.length 1 false)),(10,(eI .i64 (x8.length:Int))),(11,(eI .i64 b4))]) [some ⟨5,aS.map (eI .u8)⟩]) (n:=N) ⟨0,x8,hL2,(zG [0])⟩ (by rintro s h ⟨_,_,h0,_⟩;simp[kG]at h0) ?_
 rintro m2 s h ⟨b4,aS,hr2,hg⟩
 refine aV1 hg ?_
 clear hg hL2
 rw[kG]at hr2
 refine zz ?_
 refine aVS ?_
 refine zk hr2 rfl (fun h2 hr2=> ?_) (fun h2 hr2=> ?_)
 ·refine zz ?_
  refine aVS<|aVU ?_
  obtain⟨x19,h_3,hr2⟩:=aC hr2
  obtain⟨d9,h_4,hr2⟩:=aC hr2
  refine zz ?_
  exact⟨aVO.wrap (b4+1),aS.set (aV0 b4) (aWb.wrap x19),hr2,(lK [0])⟩
 refine zz ?_
 obtain rfl:=sj hr2
 refine zz ?_
 exact hG1 _ _ _ _ (zG [0]) (J1 aS hr)
theorem fH {N:Nat}{va b:List Int}{r:(List Int)}(hr:eJ N va b=some r):
  Vm.Fn Tryz.prog 61 [] [(.row none 1 (va.map (eI .u8))),(.row none 1 (b.map (eI .u8)))] (.sl 0 0 r.length 1 false) [some ⟨5,r.map (eI .u8)⟩]:=by
 refine zf Tryz.func61 Tryz.ntmps61 ?_
 unfold eJ at hr
 obtain⟨b4,h_1,hr⟩:=aC hr
 refine zz ?_
 refine xw (v:=(.sl 0 0 0 1 false)) (h':=[some ⟨5,b4.map (eI .u8)⟩]) (aIR rfl rfl (mkC (E:=(eI .u8)) (y:=0) dC dO ⟨zl,rfl,rfl⟩ rfl rfl rfl h_1 rfl rfl)) ?_
 obtain⟨bR,h_2,hr⟩:=aC hr
 obtain⟨x16,h_3,hr⟩:=aC hr
 refine zz ?_
 refine xw (v:=(.sl 1 0 bR.length 1 false)) (h':=[none,some ⟨5,bR.map (eI .u8)⟩]) (yC rfl rfl (aSX (E:=(eI .u8)) (Nat.zero_le _) dC dO ⟨rfl,rfl,zl⟩ rfl (aDH (fun _=>rfl)) h_2 rfl rfl)) ?_
 refine zz ?_
 obtain rfl:=sj hr
 exact bI Tryz.results61 [2]
theorem fA {N:Nat}{b:List Int}{vn:Int}{r:(List Int)}(hr:fI N b vn=some r):
  Vm.Fn Tryz.prog 36 [] [(.row none 1 (b.map (eI .u8))),(eI .u32 vn)] (.sl 0 0 r.length 1 false) [some ⟨5,r.map (eI .u8)⟩]:=by
 refine zf Tryz.func36 Tryz.ntmps36 ?_
 unfold fI at hr
 obtain⟨x8,h_1,hr⟩:=aC hr
 obtain⟨x9,h_2,hr⟩:=aC hr
 refine zz ?_
 refine zc (oW h_1) [] ?_
 refine jD (fH h_2) [] [0] ?_
 refine zz ?_
 obtain rfl:=sj hr
 exact bI Tryz.results36 [1]
theorem rC {N:Nat}{b:List Int}{vn:Int}{r:(List Int)}(hr:jN N b vn=some r):
  Vm.Fn Tryz.prog 90 [] [(.row none 1 (b.map (eI .u8))),(eI .u64 vn)] (.sl 0 0 r.length 1 false) [some ⟨5,r.map (eI .u8)⟩]:=by
 refine zf Tryz.func90 Tryz.ntmps90 ?_
 unfold jN at hr
 refine zz ?_
 refine aVS<|aVU ?_
 refine zz ?_
 refine zk hr rfl (fun h1 hr=> ?_) (fun h1 hr=> ?_)
 ·obtain⟨cD,h_2,hr⟩:=aC hr
  obtain⟨b4,h_3,hr⟩:=aC hr
  refine zz ?_
  refine zc (oW h_2) [] ?_
  refine jD (fH h_3) [] [0] ?_
  refine zz ?_
  obtain rfl:=sj hr
  exact bI Tryz.results90 [1]
 refine zz ?_
 refine zk hr rfl (fun h4 hr=> ?_) (fun h4 hr=> ?_)
 ·obtain⟨x18,h_5,hr⟩:=aC hr
  obtain⟨x19,h_6,hr⟩:=aC hr
  obtain⟨bS,h_7,hr⟩:=aC hr
  refine zz ?_
  refine zc (oW h_5) [] ?_
  refine jD (fH h_6) [] [0,1] ?_
  refine jD (fH h_7) [] [2] ?_
  refine zz ?_
  obtain rfl:=sj hr
  exact bI Tryz.results90 [3]
 refine zz ?_
 refine zk hr rfl (fun h8 hr=> ?_) (fun h8 hr=> ?_)
 ·obtain⟨x27,h_9,hr⟩:=aC hr
  obtain⟨x28,h_10,hr⟩:=aC hr
  obtain⟨x29,h_11,hr⟩:=aC hr
  refine zz ?_
  refine zc (oW h_9) [] ?_
  refine jD (fH h_10) [] [0,1] ?_
  refine jD (fH h_11) [] [2] ?_
  refine zz ?_
  obtain rfl:=sj hr
  exact bI Tryz.results90 [3]
 obtain⟨jY,h_12,hr⟩:=aC hr
 obtain⟨cV,h_13,hr⟩:=aC hr
 obtain⟨x35,h_14,hr⟩:=aC hr
 refine zz ?_
 refine zc (oW h_12) [] ?_
 refine jD (fH h_13) [] [0,1] ?_
 refine jD (fH h_14) [] [2] ?_
 refine zz ?_
 obtain rfl:=sj hr
 exact bI Tryz.results90 [3]
theorem rD {N:Nat}{b vh:List Int}{r:(List Int)}(hr:iF N b vh=some r):
  Vm.Fn Tryz.prog 38 [] [(.row none 1 (b.map (eI .u8))),(.agg (vh.map (eI .u8)))] (.sl 0 0 r.length 1 false) [some ⟨5,r.map (eI .u8)⟩]:=by
 refine zf Tryz.func38 Tryz.ntmps38 ?_
 unfold iF at hr
 obtain⟨q,h_1,hr⟩:=aC hr
 obtain⟨x7,h_2,hr⟩:=aC hr
 refine zz ?_
 refine jD (fH h_2) [] [0] ?_
 refine zz ?_
 obtain rfl:=sj hr
 exact bI Tryz.results38 [1]
theorem aEx {N:Nat}{y4:List Int}{oZ:Int}{r:(List Int)}(hr:vH N y4 oZ=some r):
  Vm.Fn Tryz.prog 35 [] [(.agg (bG (eI .u8) y4 [(eI .u32 oZ)]))] (.sl 0 0 r.length 1 false) [some ⟨5,r.map (eI .u8)⟩]:=by
 refine zf Tryz.func35 Tryz.ntmps35 ?_
 unfold vH at hr
 refine zz ?_
 refine aVS ?_
 obtain⟨q,h_1,hr⟩:=aC hr
 obtain⟨x5,h_2,hr⟩:=aC hr
 obtain⟨x8,h_4,hr⟩:=aC hr
 refine aV5 mixed [] [36,38] [[0,1,2,3,4,5,6]] ?_
 refine zz ?_
 refine zg (rD h_2) [] ?_
 refine zz ?_
 refine zgL (fA h_4) [] [1] ?_
 refine zz ?_
 obtain rfl:=sj hr
 exact bI Tryz.results35 [2]
theorem aFY {N:Nat}{b:List Int}{vn:Int}{r:(List Int)}(hr:r7 N b vn=some r):
  Vm.Fn Tryz.prog 64 [] [(.row none 1 (b.map (eI .u8))),(eI .u64 vn)] (.sl 0 0 r.length 1 false) [some ⟨5,r.map (eI .u8)⟩]:=by
 refine zf Tryz.func64 Tryz.ntmps64 ?_
 unfold r7 at hr
 obtain⟨x7,h_1,hr⟩:=aC hr
 obtain⟨x8,h_2,hr⟩:=aC hr
 refine zz ?_
 refine zc (oW h_1) [] ?_
 refine jD (fH h_2) [] [0] ?_
 refine zz ?_
 obtain rfl:=sj hr
 exact bI Tryz.results64 [1]
theorem aBw {N:Nat}{b vs:List Int}{r:(List Int)}(hr:mO N b vs=some r):
  Vm.Fn Tryz.prog 63 [] [(.row none 1 (b.map (eI .u8))),(.row none 1 (vs.map (eI .u8)))] (.sl 0 0 r.length 1 false) [some ⟨5,r.map (eI .u8)⟩]:=by
 refine zf Tryz.func63 Tryz.ntmps63 ?_
 unfold mO at hr
 obtain⟨x9,h_1,hr⟩:=aC hr
 obtain⟨b4,h_2,hr⟩:=aC hr
 refine zz ?_
 refine zc (rC h_1) [] ?_
 refine zz ?_
 refine jD (fH h_2) [] [0] ?_
 refine zz ?_
 obtain rfl:=sj hr
 exact bI Tryz.results63 [1]
theorem aDf {N:Nat}{bF:Int}{aZ:List Int}{r:(List Int)}(hr:xY N bF aZ=some r):
  Vm.Fn Tryz.prog 37 [] [(.agg [(eI .i64 bF),(.row none 1 (aZ.map (eI .u8)))])] (.sl 0 0 r.length 1 false) [some ⟨5,r.map (eI .u8)⟩]:=by
 refine zf Tryz.func37 Tryz.ntmps37 ?_
 unfold xY at hr
 refine zz ?_
 refine aVS ?_
 obtain⟨x6,h_1,hr⟩:=aC hr
 obtain⟨x9,h_3,hr⟩:=aC hr
 refine aV5 mixed [] [63,64] [[0,1,2,3,4,5,6,7]] ?_
 refine zz ?_
 refine zg (aFY h_1) [] ?_
 refine zz ?_
 refine zgL (aBw h_3) [] [1] ?_
 refine zz ?_
 obtain rfl:=sj hr
 exact bI Tryz.results37 [2]
theorem aHQ {N:Nat}{aD:Int}{aA:List aK}{aB:List aG}{aE:Int}{bJ:Bool}{r:(List Int)}(hr:xQ N aD aA aB aE bJ=some r):
  Vm.Fn Tryz.prog 60 [] [(.agg [(eI .u32 aD),(.row none 35 (aA.map aO)),(.row none 2 (aB.map aP)),(eI .u32 aE)]),(eB bJ)] (.sl 0 0 r.length 1 false) [some ⟨5,r.map (eI .u8)⟩]:=by
 refine zf Tryz.func60 Tryz.ntmps60 ?_
 unfold xQ at hr
 obtain⟨x16,h_1,hr⟩:=aC hr
 refine zz ?_
 refine zc (fA h_1) [] ?_
 obtain⟨bX,h_2,hr⟩:=aC hr
 refine zz ?_
 refine jD (rC h_2) [] [1] ?_
 refine zz ?_
 refine aVV fun K1 hK1 hG1=> ?_
 have J1: ∀(l1:List Int),vP N aD aA aB aE bJ l1=some r→K1 (aI 89 [(1,(eB bJ)),(2,(.ptr 0 0)),(5,(.sl 1 0 l1.length 1 false))]) [some ⟨26,[(eI .u32 aD),(.row none 35 (aA.map aO)),(.row none 2 (aB.map aP)),(eI .u32 aE)]⟩,some ⟨5,l1.map (eI .u8)⟩]:=by
  intro l1 hr
  unfold vP at hr
  refine hK1 _ _ ?_
  obtain⟨x44,h_3,hr⟩:=aC hr
  refine zz ?_
  refine jD (rC h_3) [] [1] ?_
  refine zz ?_
  refine aVV fun K2 hK2 hG2=> ?_
  have J2: ∀(cS:List Int),vZ N aD aA aB aE bJ cS=some r→K2 (aI 89 [(1,(eB bJ)),(2,(.ptr 0 0)),(5,(.sl 1 0 cS.length 1 false))]) [some ⟨26,[(eI .u32 aD),(.row none 35 (aA.map aO)),(.row none 2 (aB.map aP)),(eI .u32 aE)]⟩,some ⟨5,cS.map (eI .u8)⟩]:=by
   intro cS hr
   unfold vZ at hr
   refine hK2 _ _ ?_
   obtain⟨x60,h_4,hr⟩:=aC hr
   refine zz ?_
   refine jD (fA h_4) [] [1] ?_
   refine zz ?_
   refine aVV fun K3 hK3 hG3=> ?_
   have J3: ∀(l0:List Int),aA5 N l0=some r→K3 (aI 89 [(5,(.sl 0 0 l0.length 1 false))]) [some ⟨5,l0.map (eI .u8)⟩]:=by
    intro l0 hr
    unfold aA5 at hr
    refine hK3 _ _ ?_
    refine zz ?_
    obtain rfl:=sj hr
    exact bI Tryz.results60 [0]
   obtain⟨res4,hL4,hr⟩:=aC hr
   refine zz ?_
   refine aVU<|aV2 (fun m s h=> ∃(x64:Int)(aS:List Int),g9 N aA bJ m x64 aS=some res4∧Ghost 0 s h (aI 89 [(1,(eB bJ)),(5,(.sl 0 0 aS.length 1 false)),(62,(.row none 35 (aA.map aO))),(63,(eI .i64 (aA.length:Int))),(64,(eI .i64 x64))]) [some ⟨5,aS.map (eI .u8)⟩]) (n:=N) ⟨0,x60,hL4,(zG [2])⟩ (by rintro s h ⟨_,_,h0,_⟩;simp[g9]at h0) ?_
   rintro m4 s h ⟨x64,aS,hr4,hg⟩
   refine aV1 hg ?_
   clear hg hL4
   rw[g9]at hr4
   refine zz ?_
   refine aVS ?_
   refine zk hr4 rfl (fun h5 hr4=> ?_) (fun h5 hr4=> ?_)
   ·refine zz ?_
    refine aVV fun K5 hK5 hG5=> ?_
    have J5: ∀(fM:List Int),vO N aA bJ x64 (g9 N aA bJ m4) fM=some res4→K5 (aI 89 [(1,(eB bJ)),(5,(.sl 0 0 fM.length 1 false)),(62,(.row none 35 (aA.map aO))),(63,(eI .i64 (aA.length:Int))),(64,(eI .i64 x64))]) [some ⟨5,fM.map (eI .u8)⟩]:=by
     intro fM hr4
     unfold vO at hr4
     refine hK5 _ _ ?_
     refine zz ?_
     exact⟨aVO.wrap (x64+1),fM,hr4,(zG [0])⟩
    refine aVU ?_
    obtain⟨x66,h_6,hr4⟩:=aC hr4
    refine zz ?_
    refine xw (v:=(.ptr 1 0)) (h':=[some ⟨5,aS.map (eI .u8)⟩,some ⟨48,(bG (eI .u8) (aVP 32 0) [(eI .u32 0),(eI .u32 0),(.row (some true) 1 [])])⟩]) (dR tY rfl rfl rfl) ?_
    refine zz ?_
    refine aVS ?_
    refine zz ?_
    refine zk hr4 rfl (fun h7 hr4=> ?_) (fun h7 hr4=> ?_)
    ·refine zz ?_
     obtain rfl:=sj hr4
     refine zz ?_
     exact hG3 _ _ _ _ (zG [0]) (J3 aS hr)
    obtain⟨x75,h_8,hr4⟩:=aC hr4
    refine zz ?_
    refine jD (rC h_8) [] [0] ?_
    obtain⟨res6,hL6,hr4⟩:=aC hr4
    refine zz ?_
    refine aVU<|aV2 (fun m s h=> ∃(x79:Int)(fX:List Int),i3 N aA bJ x64 x66 m x79 fX=some res6∧Ghost 0 s h (aI 89 [(1,(eB bJ)),(5,(.sl 0 0 fX.length 1 false)),(62,(.row none 35 (aA.map aO))),(63,(eI .i64 (aA.length:Int))),(64,(eI .i64 x64)),(77,(.row none 1 (x66.Witness.map (eL 1 (eI .u8))))),(78,(eI .i64 (x66.Witness.length:Int))),(79,(eI .i64 x79))]) [some ⟨5,fX.map (eI .u8)⟩]) (n:=N) ⟨0,x75,hL6,(zG [2])⟩ (by rintro s h ⟨_,_,h0,_⟩;simp[i3]at h0) ?_
    rintro m6 s h ⟨x79,fX,hr6,hg⟩
    refine aV1 hg ?_
    clear hg hL6
    rw[i3]at hr6
    refine zz ?_
    refine aVS ?_
    refine zk hr6 rfl (fun h9 hr6=> ?_) (fun h9 hr6=> ?_)
    ·refine zz ?_
     refine aVS<|aVU ?_
     obtain⟨x81,h_10,hr6⟩:=aC hr6
     obtain⟨x85,h_11,hr6⟩:=aC hr6
     refine zz ?_
     refine jD (aBw h_11) [] [0] ?_
     refine zz ?_
     exact⟨aVO.wrap (x79+1),x85,hr6,(zG [1])⟩
    refine zz ?_
    obtain rfl:=sj hr6
    refine zz ?_
    exact hG5 _ _ _ _ (zG [0]) (J5 fX hr4)
   refine zz ?_
   obtain rfl:=sj hr4
   refine zz ?_
   exact hG3 _ _ _ _ (zG [0]) (J3 aS hr)
  obtain⟨res7,hL7,hr⟩:=aC hr
  refine zz ?_
  refine aVU<|aV2 (fun m s h=> ∃(x48:Int)(l1_2:List Int),i0 N aD aA aB aE bJ m x48 l1_2=some res7∧Ghost 0 s h (aI 89 [(1,(eB bJ)),(2,(.ptr 0 0)),(5,(.sl 1 0 l1_2.length 1 false)),(46,(.row none 2 (aB.map aP))),(47,(eI .i64 (aB.length:Int))),(48,(eI .i64 x48))]) [some ⟨26,[(eI .u32 aD),(.row none 35 (aA.map aO)),(.row none 2 (aB.map aP)),(eI .u32 aE)]⟩,some ⟨5,l1_2.map (eI .u8)⟩]) (n:=N) ⟨0,x44,hL7,(zG [0,2])⟩ (by rintro s h ⟨_,_,h0,_⟩;simp[i0]at h0) ?_
  rintro m7 s h ⟨x48,l1_2,hr7,hg⟩
  refine aV1 hg ?_
  clear hg hL7
  rw[i0]at hr7
  refine zz ?_
  refine aVS ?_
  refine zk hr7 rfl (fun h12 hr7=> ?_) (fun h12 hr7=> ?_)
  ·refine zz ?_
   refine aVS<|aVU ?_
   obtain⟨x50,h_13,hr7⟩:=aC hr7
   obtain⟨x54,h_14,hr7⟩:=aC hr7
   obtain⟨x55,h_15,hr7⟩:=aC hr7
   refine zz ?_
   refine zc (aDf h_14) [] ?_
   refine zz ?_
   exact⟨aVO.wrap (x48+1),x55,hr7,(zG [0,4])⟩
  refine zz ?_
  obtain rfl:=sj hr7
  refine zz ?_
  exact hG2 _ _ _ _ (zG [0,1]) (J2 l1_2 hr)
 obtain⟨res8,hL8,hr⟩:=aC hr
 refine zz ?_
 refine aVU<|aV2 (fun m s h=> ∃(x26:Int)(l1_3:List Int),g7 N aD aA aB aE bJ m x26 l1_3=some res8∧Ghost 0 s h (aI 89 [(1,(eB bJ)),(2,(.ptr 0 0)),(5,(.sl 1 0 l1_3.length 1 false)),(24,(.row none 35 (aA.map aO))),(25,(eI .i64 (aA.length:Int))),(26,(eI .i64 x26))]) [some ⟨26,[(eI .u32 aD),(.row none 35 (aA.map aO)),(.row none 2 (aB.map aP)),(eI .u32 aE)]⟩,some ⟨5,l1_3.map (eI .u8)⟩]) (n:=N) ⟨0,bX,hL8,(zG [0,2])⟩ (by rintro s h ⟨_,_,h0,_⟩;simp[g7]at h0) ?_
 rintro m8 s h ⟨x26,l1_3,hr8,hg⟩
 refine aV1 hg ?_
 clear hg hL8
 rw[g7]at hr8
 refine zz ?_
 refine aVS ?_
 refine zk hr8 rfl (fun h16 hr8=> ?_) (fun h16 hr8=> ?_)
 ·refine zz ?_
  refine aVV fun K9 hK9 hG9=> ?_
  have J9: ∀(aHF:List Int),vQ N aD aA aB aE bJ x26 (g7 N aD aA aB aE bJ m8) aHF=some res8→K9 (aI 89 [(1,(eB bJ)),(2,(.ptr 0 0)),(5,(.sl 1 0 aHF.length 1 false)),(24,(.row none 35 (aA.map aO))),(25,(eI .i64 (aA.length:Int))),(26,(eI .i64 x26))]) [some ⟨26,[(eI .u32 aD),(.row none 35 (aA.map aO)),(.row none 2 (aB.map aP)),(eI .u32 aE)]⟩,some ⟨5,aHF.map (eI .u8)⟩]:=by
   intro aHF hr8
   unfold vQ at hr8
   refine hK9 _ _ ?_
   refine zz ?_
   exact⟨aVO.wrap (x26+1),aHF,hr8,(zG [0,1])⟩
  refine aVU ?_
  obtain⟨x28,h_17,hr8⟩:=aC hr8
  refine zz ?_
  refine xw (v:=(.ptr 2 0)) (h':=[some ⟨26,[(eI .u32 aD),(.row none 35 (aA.map aO)),(.row none 2 (aB.map aP)),(eI .u32 aE)]⟩,some ⟨5,l1_3.map (eI .u8)⟩,some ⟨48,(bG (eI .u8) (aVP 32 0) [(eI .u32 0),(eI .u32 0),(.row (some true) 1 [])])⟩]) (dR tY rfl rfl rfl) ?_
  obtain⟨jY,h_18,hr8⟩:=aC hr8
  obtain⟨cV,h_20,hr8⟩:=aC hr8
  obtain⟨x37,h_21,hr8⟩:=aC hr8
  refine zz ?_
  refine AB.rd (fQ []) (fQ [35,36]) mixed<|aVQ (n:=8) (i:=0) (by decide +kernel) rfl (gS (v:=(.sl 1 0 l1_3.length 1 false)) (sv (mI rfl)))<|aVQ (n:=7) (i:=1) (by decide +kernel) rfl (gS (v:=(.ptr 2 0)) (sv (nL rfl (aMN ..))))<|aVQ (n:=6) (i:=2) (by decide +kernel) rfl (gS (v:=(aIM x28.Prev)) (sv (cA rfl (ldP rfl (aCJ (ds:=(bG (eI .u8) x28.Prev.Tx [(eI .u32 x28.Prev.Index)])) rG rfl zl rfl)))))<|aVQ (n:=5) (i:=3) (by decide +kernel) rfl (gC (v:=(.sl 3 0 jY.length 1 false)) (h':=[some ⟨26,[(eI .u32 aD),(.row none 35 (aA.map aO)),(.row none 2 (aB.map aP)),(eI .u32 aE)]⟩,some ⟨5,l1_3.map (eI .u8)⟩,some ⟨48,dL x28⟩,some ⟨5,jY.map (eI .u8)⟩]) (zB (aEx h_18) []) rfl (fun _=>⟨_,rfl⟩) (sv (lS rfl o7))) ?_
  refine aVQ (n:=4) (i:=5) (by decide +kernel) rfl (gS (v:=(.ptr 2 33)) (sv (nL rfl (aNa ..)))) ?_
  refine aWi (m:=2) (L:=lst [0,1,2,3,4,5,6] 9) (s1:=aI 89 [(1,(eB bJ)),(2,(.ptr 0 0)),(5,(.sl 1 0 l1_3.length 1 false)),(24,(.row none 35 (aA.map aO))),(25,(eI .i64 (aA.length:Int))),(26,(eI .i64 x26)),(34,(.sl 2 0 cV.length 1 false)),(36,(eI .u32 x28.Sequence))]) (h1:=[some ⟨26,[(eI .u32 aD),(.row none 35 (aA.map aO)),(.row none 2 (aB.map aP)),(eI .u32 aE)]⟩,none,some ⟨5,cV.map (eI .u8)⟩]) ?_ (fun J=> ?_)
  ·refine aVQ (n:=1) (i:=7) (by decide +kernel) rfl (gC (v:=(.sl 3 0 x37.length 1 false)) (h':=[some ⟨26,[(eI .u32 aD),(.row none 35 (aA.map aO)),(.row none 2 (aB.map aP)),(eI .u32 aE)]⟩,none,some ⟨5,cV.map (eI .u8)⟩,some ⟨5,x37.map (eI .u8)⟩]) (zL (fA h_21) [] [2]) rfl (fun _=>⟨_,rfl⟩) (sv (lS rfl o7)))<|aVQ (n:=0) (i:=8) (by decide +kernel) rfl (gS (v:=(.sl 3 0 x37.length 1 false)) (sv (pA rfl)))<|aWa (by decide +kernel) ?_
   refine zz ?_
   exact hG9 _ _ _ _ (zG [0,3]) (J9 x37 hr8)
  refine aV3 (n:=3) [4,6] (by decide +kernel) (by decide) ?_
  refine(aVY rfl (gS (v:=(.sl 4 0 cV.length 1 false)) (h':=[some ⟨26,[(eI .u32 aD),(.row none 35 (aA.map aO)),(.row none 2 (aB.map aP)),(eI .u32 aE)]⟩,none,some ⟨48,dL x28⟩,some ⟨5,jY.map (eI .u8)⟩,some ⟨5,cV.map (eI .u8)⟩]) (sv (yC rfl rfl (aPd (E:=(eI .u8)) rfl dC dO ⟨rfl,rfl,zl⟩ rfl (aQo rfl rfl) h_20 rfl rfl)))) ?_ (aVY rfl (gS (v:=(eI .u32 x28.Sequence)) (sv (cA rfl (ldP rfl (pH vJ rfl rfl))))) ?_ aV7))
  ·refine aVQ (n:=2) (i:=6) (by decide +kernel) rfl (gS (v:=(eI .u32 x28.Sequence)) (sv (cA rfl (ldP rfl (pH vJ rfl rfl)))))<|aVQ (n:=1) (i:=7) (by decide +kernel) rfl (gC (v:=(.sl 5 0 x37.length 1 false)) (h':=[some ⟨26,[(eI .u32 aD),(.row none 35 (aA.map aO)),(.row none 2 (aB.map aP)),(eI .u32 aE)]⟩,none,some ⟨48,dL x28⟩,some ⟨5,jY.map (eI .u8)⟩,some ⟨5,cV.map (eI .u8)⟩,some ⟨5,x37.map (eI .u8)⟩]) (zL (fA h_21) [] [4]) rfl (fun _=>⟨_,rfl⟩) (sv (lS rfl o7)))<|aVQ (n:=0) (i:=8) (by decide +kernel) rfl (gS (v:=(.sl 5 0 x37.length 1 false)) (sv (pA rfl))) ?_
   refine aWa (by decide +kernel) ?_
   refine zz ?_
   exact hG9 _ _ _ _ (zG [0,5]) (J9 x37 hr8)
  refine aVQ (n:=2) (i:=4) (by decide +kernel) rfl (gS (v:=(.sl 4 0 cV.length 1 false)) (h':=[some ⟨26,[(eI .u32 aD),(.row none 35 (aA.map aO)),(.row none 2 (aB.map aP)),(eI .u32 aE)]⟩,none,some ⟨48,dL x28⟩,some ⟨5,jY.map (eI .u8)⟩,some ⟨5,cV.map (eI .u8)⟩]) (sv (yC rfl rfl (aPd (E:=(eI .u8)) rfl dC dO ⟨rfl,rfl,zl⟩ rfl (aQo rfl rfl) h_20 rfl rfl))))<|aVQ (n:=1) (i:=7) (by decide +kernel) rfl (gC (v:=(.sl 5 0 x37.length 1 false)) (h':=[some ⟨26,[(eI .u32 aD),(.row none 35 (aA.map aO)),(.row none 2 (aB.map aP)),(eI .u32 aE)]⟩,none,some ⟨48,dL x28⟩,some ⟨5,jY.map (eI .u8)⟩,some ⟨5,cV.map (eI .u8)⟩,some ⟨5,x37.map (eI .u8)⟩]) (zL (fA h_21) [] [4]) rfl (fun _=>⟨_,rfl⟩) (sv (lS rfl o7))) ?_
  refine aVQ (n:=0) (i:=8) (by decide +kernel) rfl (gS (v:=(.sl 5 0 x37.length 1 false)) (sv (pA rfl)))<|aWa (by decide +kernel) ?_
  refine zz ?_
  exact hG9 _ _ _ _ (zG [0,5]) (J9 x37 hr8)
 refine zz ?_
 obtain rfl:=sj hr8
 refine zz ?_
 exact hG1 _ _ _ _ (zG [0,1]) (J1 l1_3 hr)
theorem aCz {N:Nat}{aD:Int}{aA:List aK}{aB:List aG}{aE:Int}{r:Bool}(hr:aAD N aD aA aB aE=some r):
  Vm.Fn Tryz.prog 34 [] [(.agg [(eI .u32 aD),(.row none 35 (aA.map aO)),(.row none 2 (aB.map aP)),(eI .u32 aE)])] (eB r) []:=by
 refine zf Tryz.func34 Tryz.ntmps34 ?_
 unfold aAD at hr
 refine zz ?_
 refine aVS ?_
 refine aVV fun K1 hK1 hG1=> ?_
 have J1: ∀(x18:Bool),u3 N aD aA aB aE x18=some r→K1 (aI 63 [(1,(.ptr 0 0)),(18,(eB x18))]) [some ⟨26,[(eI .u32 aD),(.row none 35 (aA.map aO)),(.row none 2 (aB.map aP)),(eI .u32 aE)]⟩]:=by
  intro x18 hr
  unfold u3 at hr
  refine hK1 _ _ ?_
  refine zk hr rfl (fun h1 hr=> ?_) (fun h1 hr=> ?_)
  ·refine zz ?_
   obtain rfl:=sj hr
   exact bI Tryz.results34 []
  refine zz ?_
  refine aVV fun K2 hK2 hG2=> ?_
  have J2:aAf N aD aA aB aE=some r→K2 (aI 63 [(1,(.ptr 0 0))]) [some ⟨26,[(eI .u32 aD),(.row none 35 (aA.map aO)),(.row none 2 (aB.map aP)),(eI .u32 aE)]⟩]:=by
   intro hr
   unfold aAf at hr
   refine hK2 _ _ ?_
   refine aVV fun K3 hK3 hG3=> ?_
   have J3:aAe N aD aA aB aE=some r→K3 (aI 63 [(1,(.ptr 0 0))]) [some ⟨26,[(eI .u32 aD),(.row none 35 (aA.map aO)),(.row none 2 (aB.map aP)),(eI .u32 aE)]⟩]:=by
    intro hr
    unfold aAe at hr
    refine hK3 _ _ ?_
    obtain⟨x60,h_2,hr⟩:=aC hr
    refine zz ?_
    refine zc (aHQ h_2) [] ?_
    refine zz ?_
    obtain rfl:=sj hr
    exact bI Tryz.results34 []
   obtain⟨res4,hL4,hr⟩:=aC hr
   refine zz ?_
   refine aVU<|aV2 (fun m s h=> ∃(x39:Int),kV N aD aA aB aE m x39=some res4∧Ghost 0 s h (aI 63 [(1,(.ptr 0 0)),(37,(.row none 35 (aA.map aO))),(38,(eI .i64 (aA.length:Int))),(39,(eI .i64 x39))]) [some ⟨26,[(eI .u32 aD),(.row none 35 (aA.map aO)),(.row none 2 (aB.map aP)),(eI .u32 aE)]⟩]) (n:=N) ⟨0,hL4,(zG [0])⟩ (by rintro s h ⟨_,h0,_⟩;simp[kV]at h0) ?_
   rintro m4 s h ⟨x39,hr4,hg⟩
   refine aV1 hg ?_
   clear hg hL4
   rw[kV]at hr4
   refine zz ?_
   refine aVS ?_
   refine zk hr4 rfl (fun h3 hr4=> ?_) (fun h3 hr4=> ?_)
   ·refine zz ?_
    refine aVV fun K5 hK5 hG5=> ?_
    have J5:aAb N aD aA aB aE x39 (kV N aD aA aB aE m4)=some res4→K5 (aI 63 [(1,(.ptr 0 0)),(37,(.row none 35 (aA.map aO))),(38,(eI .i64 (aA.length:Int))),(39,(eI .i64 x39))]) [some ⟨26,[(eI .u32 aD),(.row none 35 (aA.map aO)),(.row none 2 (aB.map aP)),(eI .u32 aE)]⟩]:=by
     intro hr4
     unfold aAb at hr4
     refine hK5 _ _ ?_
     refine zz ?_
     exact⟨aVO.wrap (x39+1),hr4,(zG [0])⟩
    refine aVU ?_
    obtain⟨x41,h_4,hr4⟩:=aC hr4
    refine zz ?_
    refine xw (v:=(.ptr 1 0)) (h':=[some ⟨26,[(eI .u32 aD),(.row none 35 (aA.map aO)),(.row none 2 (aB.map aP)),(eI .u32 aE)]⟩,some ⟨48,(bG (eI .u8) (aVP 32 0) [(eI .u32 0),(eI .u32 0),(.row (some true) 1 [])])⟩]) (dR tY rfl rfl rfl) ?_
    refine zz ?_
    refine aVS ?_
    refine zz ?_
    refine zk hr4 rfl (fun h5 hr4=> ?_) (fun h5 hr4=> ?_)
    ·refine zz ?_
     obtain rfl:=sj hr4
     obtain rfl:=sj hr
     exact bI Tryz.results34 []
    obtain⟨res6,hL6,hr4⟩:=aC hr4
    refine zz ?_
    refine aVU<|aV2 (fun m s h=> ∃(x50:Int),kX N aD aA aB aE x39 x41 m x50=some res6∧Ghost 0 s h (aI 63 [(1,(.ptr 0 0)),(37,(.row none 35 (aA.map aO))),(38,(eI .i64 (aA.length:Int))),(39,(eI .i64 x39)),(48,(.row none 1 (x41.Witness.map (eL 1 (eI .u8))))),(49,(eI .i64 (x41.Witness.length:Int))),(50,(eI .i64 x50))]) [some ⟨26,[(eI .u32 aD),(.row none 35 (aA.map aO)),(.row none 2 (aB.map aP)),(eI .u32 aE)]⟩]) (n:=N) ⟨0,hL6,(zG [0])⟩ (by rintro s h ⟨_,h0,_⟩;simp[kX]at h0) ?_
    rintro m6 s h ⟨x50,hr6,hg⟩
    refine aV1 hg ?_
    clear hg hL6
    rw[kX]at hr6
    refine zz ?_
    refine aVS ?_
    refine zk hr6 rfl (fun h6 hr6=> ?_) (fun h6 hr6=> ?_)
    ·refine zz ?_
     refine aVS<|aVU ?_
     obtain⟨x52,h_7,hr6⟩:=aC hr6
     refine zz ?_
     refine zk hr6 rfl (fun h8 hr6=> ?_) (fun h8 hr6=> ?_)
     ·refine zz ?_
      obtain rfl:=sj hr6
      obtain rfl:=sj hr4
      obtain rfl:=sj hr
      exact bI Tryz.results34 []
     refine zz ?_
     exact⟨aVO.wrap (x50+1),hr6,(zG [0])⟩
    refine zz ?_
    obtain rfl:=sj hr6
    refine zz ?_
    exact hG5 _ _ _ _ (zG [0]) (J5 hr4)
   refine zz ?_
   obtain rfl:=sj hr4
   refine zz ?_
   exact hG3 _ _ _ _ (zG [0]) (J3 hr)
  obtain⟨res7,hL7,hr⟩:=aC hr
  refine zz ?_
  refine aVU<|aV2 (fun m s h=> ∃(bX:Int),jW N aD aA aB aE m bX=some res7∧Ghost 0 s h (aI 63 [(1,(.ptr 0 0)),(20,(.row none 2 (aB.map aP))),(21,(eI .i64 (aB.length:Int))),(22,(eI .i64 bX))]) [some ⟨26,[(eI .u32 aD),(.row none 35 (aA.map aO)),(.row none 2 (aB.map aP)),(eI .u32 aE)]⟩]) (n:=N) ⟨0,hL7,(zG [0])⟩ (by rintro s h ⟨_,h0,_⟩;simp[jW]at h0) ?_
  rintro m7 s h ⟨bX,hr7,hg⟩
  refine aV1 hg ?_
  clear hg hL7
  rw[jW]at hr7
  refine zz ?_
  refine aVS ?_
  refine zk hr7 rfl (fun h9 hr7=> ?_) (fun h9 hr7=> ?_)
  ·refine zz ?_
   refine aVS<|aVU ?_
   obtain⟨fG,h_10,hr7⟩:=aC hr7
   refine zz ?_
   refine aVV fun K8 hK8 hG8=> ?_
   have J8: ∀(cV:Bool),u2 N aD aA aB aE bX (jW N aD aA aB aE m7) cV=some res7→K8 (aI 63 [(1,(.ptr 0 0)),(20,(.row none 2 (aB.map aP))),(21,(eI .i64 (aB.length:Int))),(22,(eI .i64 bX)),(34,(eB cV))]) [some ⟨26,[(eI .u32 aD),(.row none 35 (aA.map aO)),(.row none 2 (aB.map aP)),(eI .u32 aE)]⟩]:=by
    intro cV hr7
    unfold u2 at hr7
    refine hK8 _ _ ?_
    refine zk hr7 rfl (fun h11 hr7=> ?_) (fun h11 hr7=> ?_)
    ·refine zz ?_
     obtain rfl:=sj hr7
     obtain rfl:=sj hr
     exact bI Tryz.results34 []
    refine zz ?_
    exact⟨aVO.wrap (bX+1),hr7,(zG [0])⟩
   rcases aVR (decide (fG.Value<0))with h12|h12
   ·replace hr7:=dD hr7 h12
    refine xr ?_
    refine zz ?_
    exact hG8 _ _ _ _ (zG [0]) (J8 true hr7)
   replace hr7:=dA hr7 h12
   refine xr ?_
   refine zz ?_
   exact hG8 _ _ _ _ (zG [0]) (J8 (decide (520<(fG.Script.length:Int))) hr7)
  refine zz ?_
  obtain rfl:=sj hr7
  refine zz ?_
  exact hG2 _ _ _ _ (zG [0]) (J2 hr)
 rcases aVR (decide (64<(aA.length:Int)))with h13|h13
 ·replace hr:=dD hr h13
  refine xr ?_
  refine zz ?_
  exact hG1 _ _ _ _ (zG [0]) (J1 true hr)
 replace hr:=dA hr h13
 refine xr ?_
 refine zz ?_
 exact hG1 _ _ _ _ (zG [0]) (J1 (decide (64<(aB.length:Int))) hr)
theorem aMc {N:Nat}{vn:Int}{r:(List Int)}(hr:aCe N vn=some r):
  Vm.Fn Tryz.prog 65 [] [(eI .u64 vn)] (.sl 0 0 r.length 1 false) [some ⟨5,r.map (eI .u8)⟩]:=by
 refine zf Tryz.func65 Tryz.ntmps65 ?_
 unfold aCe at hr
 refine zz ?_
 refine aVV fun K1 hK1 hG1=> ?_
 have J1: ∀(l0:List Int),aBe N vn l0=some r→K1 (aI 31 [(0,(eI .u64 vn)),(3,(.sl 0 0 l0.length 1 false))]) [some ⟨5,l0.map (eI .u8)⟩]:=by
  intro l0 hr
  unfold aBe at hr
  refine hK1 _ _ ?_
  refine aVV fun K2 hK2 hG2=> ?_
  have J2: ∀(aS:List Int),aDh N aS=some r→K2 (aI 31 [(3,(.sl 0 0 aS.length 1 false))]) [some ⟨5,aS.map (eI .u8)⟩]:=by
   intro aS hr
   unfold aDh at hr
   refine hK2 _ _ ?_
   refine zz ?_
   obtain rfl:=sj hr
   exact bI Tryz.results65 [0]
  obtain⟨vK,hL3,hr⟩:=aC hr
  refine zz ?_
  refine aVU<|aV2 (fun m s h=> ∃(vi:Int)(fM:List Int),oE N vn m vi fM=some vK∧Ghost 0 s h (aI 31 [(0,(eI .u64 vn)),(3,(.sl 0 0 fM.length 1 false)),(4,(eI .i64 vi))]) [some ⟨5,fM.map (eI .u8)⟩]) (n:=N) ⟨7,l0,hL3,(zG [0])⟩ (by rintro s h ⟨_,_,h0,_⟩;simp[oE]at h0) ?_
  rintro m3 s h ⟨vi,fM,hr3,hg⟩
  refine aV1 hg ?_
  clear hg hL3
  rw[oE]at hr3
  refine aVS ?_
  refine zz ?_
  refine zk hr3 rfl (fun h1 hr3=> ?_) (fun h1 hr3=> ?_)
  ·refine zz ?_
   refine aVS<|aVU ?_
   obtain⟨x26,h_2,hr3⟩:=aC hr3
   obtain⟨x29,h_3,hr3⟩:=aC hr3
   refine zz ?_
   exact⟨aVO.wrap (vi-1),x29,hr3,(zG [2])⟩
  refine zz ?_
  obtain rfl:=sj hr3
  refine zz ?_
  exact hG2 _ _ _ _ (zG [0]) (J2 fM hr)
 obtain⟨res4,hL4,hr⟩:=aC hr
 refine aVU<|aV2 (fun m s h=> ∃(fX:List Int),qL N vn m fX=some res4∧Ghost 0 s h (aI 31 [(0,(eI .u64 vn)),(3,(.sl 0 0 fX.length 1 false))]) [some ⟨5,fX.map (eI .u8)⟩]) (n:=N) ⟨[128],hL4,(lK [0])⟩ (by rintro s h ⟨_,h0,_⟩;simp[qL]at h0) ?_
 rintro m4 s h ⟨fX,hr4,hg⟩
 refine aV1 hg ?_
 clear hg hL4
 rw[qL]at hr4
 refine aVS ?_
 refine zz ?_
 refine zk hr4 rfl (fun h4 hr4=> ?_) (fun h4 hr4=> ?_)
 ·refine zz ?_
  refine aVU ?_
  obtain⟨x16,h_5,hr4⟩:=aC hr4
  refine zz ?_
  exact⟨x16,hr4,(zG [2])⟩
 refine zz ?_
 obtain rfl:=sj hr4
 refine zz ?_
 exact hG1 _ _ _ _ (zG [0]) (J1 fX hr)
theorem aG6 {N:Nat}{r:(List Int)}(hr:aAg N=some r):
  Vm.Fn Tryz.prog 66 [] [] (.agg (r.map (eI .u32))) []:=by
 refine zf Tryz.func66 Tryz.ntmps66 ?_
 unfold aAg at hr
 refine zz ?_
 refine xw (v:=(.agg ([1779033703,3144134277,1013904242,2773480762,1359893119,2600822924,528734635,1541459225].map (eI .u32)))) (cE rfl (nB aJA vJ rfl)) ?_
 refine zz ?_
 obtain rfl:=sj hr
 exact iA Tryz.results66 bH (zG [])
theorem jX {N:Nat}{x vn r:Int}(hr:j4 N x vn=some r):
  Vm.Fn Tryz.prog 93 [] [(eI .u32 x),(eI .i64 vn)] (eI .u32 r) []:=by
 refine zf Tryz.func93 Tryz.ntmps93 ?_
 unfold j4 at hr
 obtain⟨x8,h_1,hr⟩:=aC hr
 refine zz ?_
 refine xw (aLO rfl (aOt ..))<|xp (vT h_1) ?_
 refine zz ?_
 obtain rfl:=sj hr
 exact bI Tryz.results93 []
theorem aGP {N:Nat}{block:List Int}{r:(List Int)}(hr:tZ N block=some r):
  Vm.Fn Tryz.prog 91 [] [(.agg (block.map (eI .u8)))] (.agg (r.map (eI .u32))) []:=by
 refine zf Tryz.func91 Tryz.ntmps91 ?_
 unfold tZ at hr
 refine zz ?_
 refine aVV fun K1 hK1 hG1=> ?_
 have J1: ∀(l1:List Int),s7 N l1=some r→K1 (aI 97 [(2,(.ptr 0 0)),(3,(.ptr 1 0))]) [some ⟨116,(aVP 64 0).map (eI .u32)⟩,some ⟨116,l1.map (eI .u32)⟩]:=by
  intro l1 hr
  unfold s7 at hr
  refine hK1 _ _ ?_
  refine aVV fun K2 hK2 hG2=> ?_
  have J2: ∀(cS:List Int),tA N cS=some r→K2 (aI 97 [(2,(.ptr 0 0)),(3,(.ptr 1 0))]) [some ⟨116,(aVP 64 0).map (eI .u32)⟩,some ⟨116,cS.map (eI .u32)⟩]:=by
   intro cS hr
   unfold tA at hr
   refine hK2 _ _ ?_
   obtain⟨q,h_1,hr⟩:=aC hr
   refine zz ?_
   obtain rfl:=sj hr
   exact iA Tryz.results91 bH (zG [])
  obtain⟨vK,hL3,hr⟩:=aC hr
  refine zz ?_
  refine aVU<|aV2 (fun m s h=> ∃(vi:Int)(l1_2:List Int),kF N m vi l1_2=some vK∧Ghost 0 s h (aI 97 [(2,(.ptr 0 0)),(3,(.ptr 1 0)),(5,(eI .i64 vi))]) [some ⟨116,(aVP 64 0).map (eI .u32)⟩,some ⟨116,l1_2.map (eI .u32)⟩]) (n:=N) ⟨16,l1,hL3,(zG [0,1])⟩ (by rintro s h ⟨_,_,h0,_⟩;simp[kF]at h0) ?_
  rintro m3 s h ⟨vi,l1_2,hr3,hg⟩
  refine aV1 hg ?_
  clear hg hL3
  rw[kF]at hr3
  refine aVS ?_
  refine zz ?_
  refine zk hr3 rfl (fun h2 hr3=> ?_) (fun h2 hr3=> ?_)
  ·refine zz ?_
   refine aVS<|aVU<|aVS ?_
   obtain⟨x49,h_3,hr3⟩:=aC hr3
   obtain⟨x51,h_4,hr3⟩:=aC hr3
   obtain⟨x56,h_6,hr3⟩:=aC hr3
   obtain⟨x62,h_8,hr3⟩:=aC hr3
   refine aV5 mixed [93] [] [[0,1,2,3,4,5,6,7,8,9,10,11,12,13,14,15,16,17]] ?_
   refine zz ?_
   refine xu (jX h_4) ?_
   refine zz ?_
   refine xu (jX h_6) ?_
   refine zz ?_
   refine aVS ?_
   obtain⟨x66,h_9,hr3⟩:=aC hr3
   obtain⟨x68,h_10,hr3⟩:=aC hr3
   obtain⟨x73,h_12,hr3⟩:=aC hr3
   obtain⟨x79,h_14,hr3⟩:=aC hr3
   refine aV5 mixed [93] [] [[0,1,2,3,4,5,6,7,8,9,10,11,12,13,14,15,16,17]] ?_
   refine zz ?_
   refine xu (jX h_10) ?_
   refine zz ?_
   refine xu (jX h_12) ?_
   obtain⟨x84,h_15,hr3⟩:=aC hr3
   obtain⟨x90,h_16,hr3⟩:=aC hr3
   obtain⟨x95,h_17,hr3⟩:=aC hr3
   refine zz ?_
   refine aV5 mixed [] [] [[0,1,2,3,4,5,6,7,8,9,10,11,12,13,14,15]] ?_
   refine zz ?_
   exact⟨aVO.wrap (vi+1),l1_2.set (aV0 vi) (aVX.wrap ((aVX.wrap ((aVX.wrap (x84+(bits .xor .u32 (bits .xor .u32 x51 x56) x62)))+x90))+(bits .xor .u32 (bits .xor .u32 x68 x73) x79))),hr3,(zG [0,1])⟩
  refine zz ?_
  obtain rfl:=sj hr3
  refine zz ?_
  exact hG2 _ _ _ _ (zG [0,1]) (J2 l1_2 hr)
 obtain⟨res4,hL4,hr⟩:=aC hr
 refine zz ?_
 refine aVU<|aV2 (fun m s h=> ∃(vi_1:Int)(l2:List Int),gR N block m vi_1 l2=some res4∧Ghost 0 s h (aI 97 [(1,(.ptr 0 0)),(2,(.ptr 1 0)),(3,(.ptr 2 0)),(4,(eI .i64 vi_1))]) [some ⟨97,block.map (eI .u8)⟩,some ⟨116,(aVP 64 0).map (eI .u32)⟩,some ⟨116,l2.map (eI .u32)⟩]) (n:=N) ⟨0,aVP 64 0,hL4,(zG [0,1,2])⟩ (by rintro s h ⟨_,_,h0,_⟩;simp[gR]at h0) ?_
 rintro m4 s h ⟨vi_1,l2,hr4,hg⟩
 refine aV1 hg ?_
 clear hg hL4
 rw[gR]at hr4
 refine aVS ?_
 refine zz ?_
 refine zk hr4 rfl (fun h18 hr4=> ?_) (fun h18 hr4=> ?_)
 ·refine zz ?_
  refine aVS<|aVU ?_
  obtain⟨x15,h_19,hr4⟩:=aC hr4
  obtain⟨x18,h_20,hr4⟩:=aC hr4
  obtain⟨bX,h_21,hr4⟩:=aC hr4
  obtain⟨x25,h_22,hr4⟩:=aC hr4
  obtain⟨lL,h_23,hr4⟩:=aC hr4
  obtain⟨jY,h_24,hr4⟩:=aC hr4
  obtain⟨x38,h_25,hr4⟩:=aC hr4
  obtain⟨x42,h_26,hr4⟩:=aC hr4
  refine aV5 mixed [] [] [[0,1,2,3,4,5,6,7,8,9,10,11,12,13,14,15,16,17,18,19,20,21,22,23,24,25,26,27,28,29,30,31]] ?_
  refine zz ?_
  exact⟨aVO.wrap (vi_1+1),l2.set (aV0 vi_1) (bits .or .u32 (bits .or .u32 (bits .or .u32 x18 x25) jY) (aVX.wrap x38)),hr4,(zG [0,1,2])⟩
 refine zz ?_
 obtain rfl:=sj hr4
 refine zz ?_
 exact hG1 _ _ _ _ (zG [1,2]) (J1 l2 hr)
theorem aFI {N:Nat}{r:(List Int)}(hr:v6 N=some r):
  Vm.Fn Tryz.prog 92 [] [] (.agg (r.map (eI .u32))) []:=by
 refine zf Tryz.func92 Tryz.ntmps92 ?_
 unfold v6 at hr
 refine zz ?_
 refine xw (v:=(.agg ([1116352408,1899447441,3049323471,3921009573,961987163,1508970993,2453635748,2870763221,3624381080,310598401,607225278,1426881987,1925078388,2162078206,2614888103,3248222580,3835390401,4022224774,264347078,604807628,770255983,1249150122,1555081692,1996064986,2554220882,2821834349,2952996808,3210313671,3336571891,3584528711,113926993,338241895,666307205,773529912,1294757372,1396182291,1695183700,1986661051,2177026350,2456956037,2730485921,2820302411,3259730800,3345764771,3516065817,3600352804,4094571909,275423344,430227734,506948616,659060556,883997877,958139571,1322822218,1537002063,1747873779,1955562222,2024104815,2227730452,2361852424,2428436474,2756734187,3204031479,3329325298].map (eI .u32)))) (cE rfl (nB aNV vJ rfl)) ?_
 refine zz ?_
 obtain rfl:=sj hr
 exact iA Tryz.results92 bH (zG [])
theorem aGN {N:Nat}{cT block:List Int}{r:(List Int)}(hr:qA N cT block=some r):
  Vm.Fn Tryz.prog 67 [] [(.agg (cT.map (eI .u32))),(.agg (block.map (eI .u8)))] (.agg (r.map (eI .u32))) []:=by
 refine zf Tryz.func67 Tryz.ntmps67 ?_
 unfold qA at hr
 obtain⟨q,h_1,hr⟩:=aC hr
 obtain⟨x19,h_2,hr⟩:=aC hr
 obtain⟨bS,h_3,hr⟩:=aC hr
 obtain⟨q_1,h_4,hr⟩:=aC hr
 obtain⟨q_2,h_5,hr⟩:=aC hr
 refine zz ?_
 refine xp (aGP h_2)<|xp (aFI h_3) ?_
 refine zz ?_
 refine aVS ?_
 obtain⟨d9,h_6,hr⟩:=aC hr
 obtain⟨iB,h_7,hr⟩:=aC hr
 obtain⟨x25,h_8,hr⟩:=aC hr
 obtain⟨x27,h_9,hr⟩:=aC hr
 obtain⟨x29,h_10,hr⟩:=aC hr
 obtain⟨e9,h_11,hr⟩:=aC hr
 obtain⟨jY,h_12,hr⟩:=aC hr
 obtain⟨x35,h_13,hr⟩:=aC hr
 refine aV5 mixed [] [] [[0,1,2,3,4,5,6,7,8,9,10,11,12,13,14,15,16,17,18,19,20,21,22,23]] ?_
 refine zz ?_
 refine aVV fun K1 hK1 hG1=> ?_
 have J1: ∀(va b c d ve f g vh:Int),s6 N cT va b c d ve f g vh=some r→K1 (aI 133 [(2,(.ptr 0 0)),(4,(.ptr 1 0)),(7,(eI .u32 va)),(8,(eI .u32 b)),(9,(eI .u32 c)),(10,(eI .u32 d)),(11,(eI .u32 ve)),(12,(eI .u32 f)),(13,(eI .u32 g)),(14,(eI .u32 vh))]) [some ⟨95,cT.map (eI .u32)⟩,some ⟨95,(aVP 8 0).map (eI .u32)⟩]:=by
  intro va b c d ve f g vh hr
  unfold s6 at hr
  refine hK1 _ _ ?_
  obtain⟨aHt,h_14,hr⟩:=aC hr
  obtain⟨aCr,h_15,hr⟩:=aC hr
  obtain⟨aP9,h_16,hr⟩:=aC hr
  obtain⟨aPp,h_17,hr⟩:=aC hr
  obtain⟨aQt,h_18,hr⟩:=aC hr
  obtain⟨aPv,h_19,hr⟩:=aC hr
  obtain⟨aJl,h_20,hr⟩:=aC hr
  obtain⟨aP1,h_21,hr⟩:=aC hr
  refine zz ?_
  refine xw (v:=(.agg ([aVX.wrap (aHt+va),aVX.wrap (aCr+b),aVX.wrap (aP9+c),aVX.wrap (aPp+d),aVX.wrap (aQt+ve),aVX.wrap (aPv+f),aVX.wrap (aJl+g),aVX.wrap (aP1+vh)].map (eI .u32)))) (cE rfl (nB aJA vJ rfl)) ?_
  refine zz ?_
  obtain rfl:=sj hr
  exact iA Tryz.results67 bH (zG [])
 obtain⟨bQ,hL2,hr⟩:=aC hr
 refine zz ?_
 refine aVU<|aV2 (fun m s h=> ∃(va_1 b_1 c_1 d_1 ve_1 f_1 g_1 vh_1 vi:Int),kE N cT x19 bS m va_1 b_1 c_1 d_1 ve_1 f_1 g_1 vh_1 vi=some bQ∧Ghost 0 s h (aI 133 [(2,(.ptr 0 0)),(4,(.ptr 1 0)),(5,(.ptr 2 0)),(6,(.ptr 3 0)),(7,(eI .u32 va_1)),(8,(eI .u32 b_1)),(9,(eI .u32 c_1)),(10,(eI .u32 d_1)),(11,(eI .u32 ve_1)),(12,(eI .u32 f_1)),(13,(eI .u32 g_1)),(14,(eI .u32 vh_1)),(15,(eI .i64 vi))]) [some ⟨95,cT.map (eI .u32)⟩,some ⟨95,(aVP 8 0).map (eI .u32)⟩,some ⟨116,x19.map (eI .u32)⟩,some ⟨116,bS.map (eI .u32)⟩]) (n:=N) ⟨d9,iB,x25,x27,x29,e9,jY,x35,0,hL2,(zG [0,2,3,4])⟩ (by rintro s h ⟨_,_,_,_,_,_,_,_,_,h0,_⟩;simp[kE]at h0) ?_
 rintro m2 s h ⟨va_1,b_1,c_1,d_1,ve_1,f_1,g_1,vh_1,vi,hr2,hg⟩
 refine aV1 hg ?_
 clear hg hL2
 rw[kE]at hr2
 refine aVS ?_
 refine zz ?_
 refine zk hr2 rfl (fun h22 hr2=> ?_) (fun h22 hr2=> ?_)
 ·refine zz ?_
  refine aVS<|aVU<|aVS ?_
  obtain⟨x43,h_23,hr2⟩:=aC hr2
  obtain⟨x45,h_25,hr2⟩:=aC hr2
  obtain⟨x48,h_27,hr2⟩:=aC hr2
  obtain⟨x61,h_29,hr2⟩:=aC hr2
  obtain⟨x65,h_30,hr2⟩:=aC hr2
  refine aV5 mixed [93] [] [[0,1,2,3,4,5,6,7,8,9,10,11,12,13,14,15,16,17,18,19,20,21,22,23,24,25,26,27]] ?_
  refine zz ?_
  refine xu (jX h_23) ?_
  refine zz ?_
  refine xu (jX h_25) ?_
  refine zz ?_
  refine xu (jX h_27) ?_
  refine zz ?_
  refine xw (v:=(eI .u32 (bits .xor .u32 (aWj .u32) ve_1))) (aLO rfl (aMT rfl _)) ?_
  obtain⟨x69,h_31,hr2⟩:=aC hr2
  obtain⟨x71,h_32,hr2⟩:=aC hr2
  obtain⟨x74,h_33,hr2⟩:=aC hr2
  refine zz ?_
  refine xp (jX h_31) ?_
  refine zz ?_
  refine xp (jX h_32) ?_
  refine zz ?_
  refine xp (jX h_33) ?_
  refine zz ?_
  exact⟨aVX.wrap ((aVX.wrap ((aVX.wrap ((aVX.wrap ((aVX.wrap (vh_1+(bits .xor .u32 (bits .xor .u32 x43 x45) x48)))+(bits .xor .u32 (bits .and .u32 ve_1 f_1) (bits .and .u32 (bits .xor .u32 (aWj .u32) ve_1) g_1))))+x61))+x65))+(aVX.wrap ((bits .xor .u32 (bits .xor .u32 x69 x71) x74)+(bits .xor .u32 (bits .xor .u32 (bits .and .u32 va_1 b_1) (bits .and .u32 va_1 c_1)) (bits .and .u32 b_1 c_1))))),va_1,b_1,c_1,aVX.wrap (d_1+(aVX.wrap ((aVX.wrap ((aVX.wrap ((aVX.wrap (vh_1+(bits .xor .u32 (bits .xor .u32 x43 x45) x48)))+(bits .xor .u32 (bits .and .u32 ve_1 f_1) (bits .and .u32 (bits .xor .u32 (aWj .u32) ve_1) g_1))))+x61))+x65))),ve_1,f_1,g_1,aVO.wrap (vi+1),hr2,(zG [0,1,2,3])⟩
 refine zz ?_
 obtain rfl:=sj hr2
 refine zz ?_
 exact hG1 _ _ _ _ (zG [0,1]) (J1 va_1 b_1 c_1 d_1 ve_1 f_1 g_1 vh_1 hr)
theorem tS {N:Nat}{b:List Int}{r:(List Int)}(hr:pT N b=some r):
  Vm.Fn Tryz.prog 39 [] [(.row none 1 (b.map (eI .u8)))] (.agg (r.map (eI .u8))) []:=by
 refine zf Tryz.func39 Tryz.ntmps39 ?_
 unfold pT at hr
 obtain⟨b4,h_1,hr⟩:=aC hr
 obtain⟨x15,h_2,hr⟩:=aC hr
 obtain⟨x16,h_3,hr⟩:=aC hr
 refine zz ?_
 refine zc (aMc h_2) [] ?_
 obtain⟨x17,h_4,hr⟩:=aC hr
 obtain⟨q,h_5,hr⟩:=aC hr
 refine zz ?_
 refine xp (aG6 h_4) ?_
 refine zz ?_
 refine aVV fun K1 hK1 hG1=> ?_
 have J1: ∀(l1:List Int),aAP N l1=some r→K1 (aI 66 [(2,(.ptr 0 0)),(4,(.ptr 1 0))]) [some ⟨28,(aVP 32 0).map (eI .u8)⟩,some ⟨95,l1.map (eI .u32)⟩]:=by
  intro l1 hr
  unfold aAP at hr
  refine hK1 _ _ ?_
  refine zz ?_
  refine aVV fun K2 hK2 hG2=> ?_
  have J2: ∀(cS:List Int),aAT N cS=some r→K2 (aI 66 [(2,(.ptr 0 0)),(7,(.ptr 1 0))]) [some ⟨28,(aVP 32 0).map (eI .u8)⟩,some ⟨28,cS.map (eI .u8)⟩]:=by
   intro cS hr
   unfold aAT at hr
   refine hK2 _ _ ?_
   obtain⟨q_1,h_6,hr⟩:=aC hr
   refine zz ?_
   obtain rfl:=sj hr
   exact iA Tryz.results39 bH (zG [])
  obtain⟨q_2,h_7,hr⟩:=aC hr
  obtain⟨vK,hL3,hr⟩:=aC hr
  refine zz ?_
  refine aVU<|aV2 (fun m s h=> ∃(cV:Int)(l1_2:List Int),qU N l1 m cV l1_2=some vK∧Ghost 0 s h (aI 66 [(2,(.ptr 0 0)),(7,(.ptr 1 0)),(33,(.agg (l1.map (eI .u32)))),(34,(eI .i64 cV))]) [some ⟨28,(aVP 32 0).map (eI .u8)⟩,some ⟨28,l1_2.map (eI .u8)⟩]) (n:=N) ⟨0,aVP 32 0,hL3,(zG [0,2])⟩ (by rintro s h ⟨_,_,h0,_⟩;simp[qU]at h0) ?_
  rintro m3 s h ⟨cV,l1_2,hr3,hg⟩
  refine aV1 hg ?_
  clear hg hL3
  rw[qU]at hr3
  refine zz ?_
  refine aVS ?_
  refine zk hr3 rfl (fun h8 hr3=> ?_) (fun h8 hr3=> ?_)
  ·refine zz ?_
   refine aVS<|aVU ?_
   obtain⟨x37,h_9,hr3⟩:=aC hr3
   refine zz ?_
   refine xw (v:=(eI .u32 x37)) (aPG rfl rfl (ixA (E:=(eI .u32)) aJA vJ rfl rfl h_9)) ?_
   obtain⟨x50,h_10,hr3⟩:=aC hr3
   obtain⟨x53,h_11,hr3⟩:=aC hr3
   obtain⟨x56,h_12,hr3⟩:=aC hr3
   obtain⟨x60,h_13,hr3⟩:=aC hr3
   obtain⟨x61,h_14,hr3⟩:=aC hr3
   obtain⟨x62,h_15,hr3⟩:=aC hr3
   obtain⟨x63,h_16,hr3⟩:=aC hr3
   refine zz ?_
   exact⟨aVO.wrap (cV+1),(((l1_2.set (aV0 (aVO.wrap (4*cV))) (aWb.wrap x50)).set (aV0 (aVO.wrap ((aVO.wrap (4*cV))+1))) (aWb.wrap x53)).set (aV0 (aVO.wrap ((aVO.wrap (4*cV))+2))) (aWb.wrap x56)).set (aV0 (aVO.wrap ((aVO.wrap (4*cV))+3))) (aWb.wrap x37),hr3,(zG [0,1])⟩
  refine zz ?_
  obtain rfl:=sj hr3
  refine zz ?_
  exact hG2 _ _ _ _ (zG [0,1]) (J2 l1_2 hr)
 refine zz ?_
 refine aV1 (zv 4) ?_
 obtain⟨res4,hL4,hr⟩:=aC hr
 refine aVU<|aV2 (fun m s h=> ∃(vi:Int)(l1_3:List Int),qK N x16 m vi l1_3=some res4∧Ghost 0 s h (aI 66 [(2,(.ptr 0 0)),(3,(.row none 1 (x16.map (eI .u8)))),(4,(.ptr 1 0)),(5,(eI .i64 vi))]) [some ⟨28,(aVP 32 0).map (eI .u8)⟩,some ⟨95,l1_3.map (eI .u32)⟩]) (n:=N) ⟨0,x17,hL4,(zG [0,5])⟩ (by rintro s h ⟨_,_,h0,_⟩;simp[qK]at h0) ?_
 rintro m4 s h ⟨vi,l1_3,hr4,hg⟩
 refine aV1 hg ?_
 clear hg hL4
 rw[qK]at hr4
 refine aVS ?_
 refine zz ?_
 refine zk hr4 rfl (fun h17 hr4=> ?_) (fun h17 hr4=> ?_)
 ·refine zz ?_
  refine aVS<|aVU ?_
  refine zz ?_
  refine aVS ?_
  obtain⟨x28,h_18,hr4⟩:=aC hr4
  refine aV5 mixed [] [] [[0,1,2,3,4]] ?_
  refine zz ?_
  refine xw (v:=(eI .i64 ((min x28.length (aVP 64 0).length:Nat):Int))) (h':=[some ⟨28,(aVP 32 0).map (eI .u8)⟩,some ⟨95,l1_3.map (eI .u32)⟩,some ⟨97,(nE (aVP 64 0) x28).map (eI .u8)⟩]) (aEs rfl rfl (aIT (E:=(eI .u8)) (l:=aVP 64 0) rfl dC dO rfl rfl (aDH (fun _=>rfl)) rfl)) ?_
  obtain⟨q_3,h_19,hr4⟩:=aC hr4
  obtain⟨q_4,h_20,hr4⟩:=aC hr4
  obtain⟨nW,h_21,hr4⟩:=aC hr4
  obtain⟨q_5,h_22,hr4⟩:=aC hr4
  refine zz ?_
  refine xp (aGN h_21) ?_
  refine zz ?_
  exact⟨aVO.wrap (vi+64),nW,hr4,(zG [0,1])⟩
 refine zz ?_
 obtain rfl:=sj hr4
 refine zz ?_
 exact hG1 _ _ _ _ (zG [0,1]) (J1 l1_3 hr)
theorem aDX {N:Nat}{tag:ByteArray}{b:List Int}{r:(List Int)}(hr:t7 N tag b=some r):
  Vm.Fn Tryz.prog 40 [] [(eS tag),(.row none 1 (b.map (eI .u8)))] (.agg (r.map (eI .u8))) []:=by
 refine zf Tryz.func40 Tryz.ntmps40 ?_
 unfold t7 at hr
 obtain⟨x7,h_1,hr⟩:=aC hr
 obtain⟨x8,h_2,hr⟩:=aC hr
 obtain⟨q,h_3,hr⟩:=aC hr
 refine zz ?_
 refine aTs (h':=[some ⟨28,(aVP 32 0).map (eI .u8)⟩,some ⟨5,x7.map (eI .u8)⟩]) rfl ti9 dC dO h_1 rfl rfl<|jD (tS h_2) [] [1] ?_
 refine zz ?_
 refine aVS ?_
 obtain⟨cD,h_4,hr⟩:=aC hr
 obtain⟨fC,h_5,hr⟩:=aC hr
 obtain⟨bR,h_6,hr⟩:=aC hr
 obtain⟨x15,h_7,hr⟩:=aC hr
 obtain⟨q_1,h_9,hr⟩:=aC hr
 refine aV5 mixed [] [39] [[0,1,2,3,4,5,6,7]] ?_
 refine zz ?_
 refine zgL (tS h_7) [] [6] ?_
 refine zz ?_
 obtain rfl:=sj hr
 exact iA Tryz.results40 bH (zG [])
theorem aG1 {N:Nat}{aD:Int}{aA:List aK}{aB:List aG}{aE vi bF:Int}{aZ:List Int}{r:(List Int)×Int}(hr:uY N aD aA aB aE vi bF aZ=some r):
  Vm.Fn Tryz.prog 16 [] [(.agg [(eI .u32 aD),(.row none 35 (aA.map aO)),(.row none 2 (aB.map aP)),(eI .u32 aE)]),(eI .i64 vi),(.agg [(eI .i64 bF),(.row none 1 (aZ.map (eI .u8)))])] (.tup [(.agg (r.1.map (eI .u8))),(eI .i64 r.2)]) []:=by
 refine zf Tryz.func16 Tryz.ntmps16 ?_
 unfold uY at hr
 refine zz ?_
 refine aVS ?_
 refine aVV fun K1 hK1 hG1=> ?_
 have J1: ∀(x29:Bool),nT N aD aA aB aE vi bF aZ x29=some r→K1 (aI 98 [(1,(eI .i64 vi)),(3,(.ptr 0 0)),(5,(.ptr 1 0)),(6,(.ptr 2 0)),(29,(eB x29))]) [some ⟨26,[(eI .u32 aD),(.row none 35 (aA.map aO)),(.row none 2 (aB.map aP)),(eI .u32 aE)]⟩,some ⟨33,[(eI .i64 bF),(.row none 1 (aZ.map (eI .u8)))]⟩,some ⟨28,(aVP 32 0).map (eI .u8)⟩]:=by
  intro x29 hr
  unfold nT at hr
  refine hK1 _ _ ?_
  refine zk hr rfl (fun h1 hr=> ?_) (fun h1 hr=> ?_)
  ·refine zz ?_
   refine xw (v:=(.agg ([0,0,0,0,0,0,0,0,0,0,0,0,0,0,0,0,0,0,0,0,0,0,0,0,0,0,0,0,0,0,0,0].map (eI .u8)))) (cE rfl (nB vL dO rfl)) ?_
   refine zz ?_
   obtain rfl:=sj hr
   exact nX Tryz.results16 bH bH (lK [])
  refine zz ?_
  refine aVS ?_
  refine aVV fun K2 hK2 hG2=> ?_
  have J2: ∀(x39:Bool),nP N aD aA aB aE vi bF aZ x39=some r→K2 (aI 98 [(1,(eI .i64 vi)),(3,(.ptr 0 0)),(5,(.ptr 1 0)),(6,(.ptr 2 0)),(39,(eB x39))]) [some ⟨26,[(eI .u32 aD),(.row none 35 (aA.map aO)),(.row none 2 (aB.map aP)),(eI .u32 aE)]⟩,some ⟨33,[(eI .i64 bF),(.row none 1 (aZ.map (eI .u8)))]⟩,some ⟨28,(aVP 32 0).map (eI .u8)⟩]:=by
   intro x39 hr
   unfold nP at hr
   refine hK2 _ _ ?_
   refine zk hr rfl (fun h2 hr=> ?_) (fun h2 hr=> ?_)
   ·refine zz ?_
    refine xw (v:=(.agg ([0,0,0,0,0,0,0,0,0,0,0,0,0,0,0,0,0,0,0,0,0,0,0,0,0,0,0,0,0,0,0,0].map (eI .u8)))) (cE rfl (nB vL dO rfl)) ?_
    refine zz ?_
    obtain rfl:=sj hr
    exact nX Tryz.results16 bH bH (lK [])
   refine zz ?_
   refine aVV fun K3 hK3 hG3=> ?_
   have J3: ∀(l3 l4:List Int),uQ N aD aA aB aE vi bF aZ l3 l4=some r→K3 (aI 98 [(1,(eI .i64 vi)),(3,(.ptr 0 0)),(5,(.ptr 1 0)),(6,(.ptr 2 0)),(8,(.sl 3 0 l3.length 1 false)),(9,(.sl 4 0 l4.length 1 false)),(10,(.row (some true) 1 []))]) [some ⟨26,[(eI .u32 aD),(.row none 35 (aA.map aO)),(.row none 2 (aB.map aP)),(eI .u32 aE)]⟩,some ⟨33,[(eI .i64 bF),(.row none 1 (aZ.map (eI .u8)))]⟩,some ⟨28,(aVP 32 0).map (eI .u8)⟩,some ⟨5,l3.map (eI .u8)⟩,some ⟨5,l4.map (eI .u8)⟩]:=by
    intro l3 l4 hr
    unfold uQ at hr
    refine hK3 _ _ ?_
    refine aVV fun K4 hK4 hG4=> ?_
    have J4: ∀(l5:List Int),uC N aD aA aB aE vi bF aZ l3 l4 l5=some r→K4 (aI 98 [(1,(eI .i64 vi)),(3,(.ptr 0 0)),(5,(.ptr 1 0)),(6,(.ptr 2 0)),(8,(.sl 3 0 l3.length 1 false)),(9,(.sl 4 0 l4.length 1 false)),(10,(.sl 5 0 l5.length 1 false))]) [some ⟨26,[(eI .u32 aD),(.row none 35 (aA.map aO)),(.row none 2 (aB.map aP)),(eI .u32 aE)]⟩,some ⟨33,[(eI .i64 bF),(.row none 1 (aZ.map (eI .u8)))]⟩,some ⟨28,(aVP 32 0).map (eI .u8)⟩,some ⟨5,l3.map (eI .u8)⟩,some ⟨5,l4.map (eI .u8)⟩,some ⟨5,l5.map (eI .u8)⟩]:=by
     intro l5 hr
     unfold uC at hr
     refine hK4 _ _ ?_
     obtain⟨x72,h_3,hr⟩:=aC hr
     refine zz ?_
     refine zc (fA h_3) [] ?_
     obtain⟨x75,h_4,hr⟩:=aC hr
     obtain⟨x76,h_5,hr⟩:=aC hr
     refine zz ?_
     refine jD (tS h_4) [] [3] ?_
     refine jD (rD h_5) [] [6] ?_
     obtain⟨x79,h_6,hr⟩:=aC hr
     obtain⟨x80,h_7,hr⟩:=aC hr
     refine zz ?_
     refine jD (tS h_6) [] [4] ?_
     refine jD (rD h_7) [] [7] ?_
     obtain⟨x83,h_8,hr⟩:=aC hr
     obtain⟨x84,h_9,hr⟩:=aC hr
     refine zz ?_
     refine jD (tS h_8) [] [5] ?_
     refine jD (rD h_9) [] [8] ?_
     obtain⟨x88,h_10,hr⟩:=aC hr
     refine zz ?_
     refine jD (fA h_10) [] [9] ?_
     obtain⟨x92,h_11,hr⟩:=aC hr
     refine zz ?_
     refine jD (fA h_11) [] [10] ?_
     obtain⟨x95,h_12,hr⟩:=aC hr
     obtain⟨x96,h_13,hr⟩:=aC hr
     obtain⟨x97,h_14,hr⟩:=aC hr
     obtain⟨q,h_15,hr⟩:=aC hr
     refine zz ?_
     refine zc (aDf h_12) [] ?_
     refine zz ?_
     refine jD (aDX h_14) [] [13] ?_
     refine zz ?_
     obtain rfl:=sj hr
     exact nX Tryz.results16 bH bH (lK [])
    obtain⟨res5,hL5,hr⟩:=aC hr
    refine zz ?_
    refine aVU<|aV2 (fun m s h=> ∃(x61:Int)(l5_1:List Int),iI N aD aA aB aE vi bF aZ l3 l4 m x61 l5_1=some res5∧Ghost 0 s h (aI 98 [(1,(eI .i64 vi)),(3,(.ptr 0 0)),(5,(.ptr 1 0)),(6,(.ptr 2 0)),(8,(.sl 3 0 l3.length 1 false)),(9,(.sl 4 0 l4.length 1 false)),(10,(.sl 5 0 l5_1.length 1 false)),(59,(.row none 2 (aB.map aP))),(60,(eI .i64 (aB.length:Int))),(61,(eI .i64 x61))]) [some ⟨26,[(eI .u32 aD),(.row none 35 (aA.map aO)),(.row none 2 (aB.map aP)),(eI .u32 aE)]⟩,some ⟨33,[(eI .i64 bF),(.row none 1 (aZ.map (eI .u8)))]⟩,some ⟨28,(aVP 32 0).map (eI .u8)⟩,some ⟨5,l3.map (eI .u8)⟩,some ⟨5,l4.map (eI .u8)⟩,some ⟨5,l5_1.map (eI .u8)⟩]) (n:=N) ⟨0,[],hL5,(zW 5 [0,1,2,3,4,5])⟩ (by rintro s h ⟨_,_,h0,_⟩;simp[iI]at h0) ?_
    rintro m5 s h ⟨x61,l5_1,hr5,hg⟩
    refine aV1 hg ?_
    clear hg hL5
    rw[iI]at hr5
    refine zz ?_
    refine aVS ?_
    refine zk hr5 rfl (fun h16 hr5=> ?_) (fun h16 hr5=> ?_)
    ·refine zz ?_
     refine aVS<|aVU ?_
     obtain⟨x63,h_17,hr5⟩:=aC hr5
     obtain⟨x67,h_18,hr5⟩:=aC hr5
     obtain⟨x68,h_19,hr5⟩:=aC hr5
     refine zz ?_
     refine zc (aDf h_18) [] ?_
     refine zz ?_
     exact⟨aVO.wrap (x61+1),x68,hr5,(zG [0,1,2,3,4,8])⟩
    refine zz ?_
    obtain rfl:=sj hr5
    refine zz ?_
    exact hG4 _ _ _ _ (zG [0,1,2,3,4,5]) (J4 l5_1 hr)
   obtain⟨res6,hL6,hr⟩:=aC hr
   refine zz ?_
   refine aVU<|aV2 (fun m s h=> ∃(x44:Int)(eZ hY:List Int),k7 N aD aA aB aE vi bF aZ m x44 eZ hY=some res6∧Ghost 0 s h (aI 98 [(1,(eI .i64 vi)),(3,(.ptr 0 0)),(5,(.ptr 1 0)),(6,(.ptr 2 0)),(8,(.sl 3 0 eZ.length 1 false)),(9,(.sl 4 0 hY.length 1 false)),(10,(.row (some true) 1 [])),(42,(.row none 35 (aA.map aO))),(43,(eI .i64 (aA.length:Int))),(44,(eI .i64 x44))]) [some ⟨26,[(eI .u32 aD),(.row none 35 (aA.map aO)),(.row none 2 (aB.map aP)),(eI .u32 aE)]⟩,some ⟨33,[(eI .i64 bF),(.row none 1 (aZ.map (eI .u8)))]⟩,some ⟨28,(aVP 32 0).map (eI .u8)⟩,some ⟨5,eZ.map (eI .u8)⟩,some ⟨5,hY.map (eI .u8)⟩]) (n:=N) ⟨0,[],[],hL6,(aWf (aWh (fr':=[(1,(eI .i64 vi)),(3,(.ptr 0 0)),(5,(.ptr 1 0)),(6,(.ptr 2 0)),(8,(.sl 3 0 0 1 false)),(9,(.row (some true) 1 [])),(10,(.row (some true) 1 [])),(42,(.row none 35 (aA.map aO))),(43,(eI .i64 (aA.length:Int))),(44,(eI .i64 0))]) (h1:=[some ⟨26,[(eI .u32 aD),(.row none 35 (aA.map aO)),(.row none 2 (aB.map aP)),(eI .u32 aE)]⟩,some ⟨33,[(eI .i64 bF),(.row none 1 (aZ.map (eI .u8)))]⟩,some ⟨28,(aVP 32 0).map (eI .u8)⟩]) 5 (FLe.same rfl (FLe.same rfl (FLe.same rfl (FLe.same rfl (FLe.le rfl (V.le_virt rfl) (FLe.same rfl (FLe.same rfl (FLe.same rfl (FLe.same rfl (FLe.same rfl FLe.nil)))))))))) (HLv.live (V.les_refl _ _) rfl (HLv.live (V.les_refl _ _) rfl (HLv.live (V.les_refl _ _) (all_map (fun _=>rfl) _) HLv.nil)))) (zW 5 [0,1,2,3,4]))⟩ (by rintro s h ⟨_,_,_,h0,_⟩;simp[k7]at h0) ?_
   rintro m6 s h ⟨x44,eZ,hY,hr6,hg⟩
   refine aV1 hg ?_
   clear hg hL6
   rw[k7]at hr6
   refine zz ?_
   refine aVS ?_
   refine zk hr6 rfl (fun h20 hr6=> ?_) (fun h20 hr6=> ?_)
   ·refine zz ?_
    refine aVS<|aVU ?_
    obtain⟨x46,h_21,hr6⟩:=aC hr6
    refine zz ?_
    refine xw (v:=(.ptr 5 0)) (h':=[some ⟨26,[(eI .u32 aD),(.row none 35 (aA.map aO)),(.row none 2 (aB.map aP)),(eI .u32 aE)]⟩,some ⟨33,[(eI .i64 bF),(.row none 1 (aZ.map (eI .u8)))]⟩,some ⟨28,(aVP 32 0).map (eI .u8)⟩,some ⟨5,eZ.map (eI .u8)⟩,some ⟨5,hY.map (eI .u8)⟩,some ⟨48,(bG (eI .u8) (aVP 32 0) [(eI .u32 0),(eI .u32 0),(.row (some true) 1 [])])⟩]) (dR tY rfl rfl rfl) ?_
    obtain⟨x51,h_22,hr6⟩:=aC hr6
    obtain⟨x52,h_23,hr6⟩:=aC hr6
    refine zz ?_
    refine zc (aEx h_22) [] ?_
    obtain⟨x56,h_24,hr6⟩:=aC hr6
    refine zz ?_
    refine jD (fA h_24) [] [4] ?_
    refine zz ?_
    exact⟨aVO.wrap (x44+1),x52,x56,hr6,(zG [0,1,2,7,8])⟩
   refine zz ?_
   obtain rfl:=sj hr6
   refine zz ?_
   exact hG3 _ _ _ _ (zG [0,1,2,3,4]) (J3 eZ hY hr)
  rcases aVR (decide (vi<0))with h25|h25
  ·replace hr:=dD hr h25
   refine xr ?_
   refine zz ?_
   exact hG2 _ _ _ _ (zG [0,1,2]) (J2 true hr)
  replace hr:=dA hr h25
  refine xr ?_
  refine zz ?_
  exact hG2 _ _ _ _ (zG [0,1,2]) (J2 (decide ((aA.length:Int)≤vi)) hr)
 obtain⟨x17,h_26,hr⟩:=aC hr
 rcases aVR (!x17)with h27|h27
 ·replace hr:=dD hr h27
  refine xr ?_
  refine zz ?_
  refine xp (aCz h_26) ?_
  refine zz ?_
  refine xX rfl<|xX rfl<|xX rfl<|xX rfl ?_
  refine zz ?_
  exact hG1 _ _ _ _ (zG [0,1,2]) (J1 true hr)
 replace hr:=dA hr h27
 rcases aVR (decide (bF<0))with h28|h28
 ·replace hr:=dD hr h28
  refine xr ?_
  refine zz ?_
  refine xp (aCz h_26) ?_
  refine zz ?_
  exact hG1 _ _ _ _ (zG [0,1,2]) (J1 true hr)
 replace hr:=dA hr h28
 refine xr ?_
 refine zz ?_
 refine xp (aCz h_26) ?_
 refine zz ?_
 exact hG1 _ _ _ _ (zG [0,1,2]) (J1 (decide (520<(aZ.length:Int))) hr)
theorem aAa {N:Nat}{l:List (List Int)}{r:(List Int)}(hr:pJ N l=some r):
  Vm.Fn Tryz.prog 95 [] [(.row none 1 (l.map (eL 1 (eI .u8))))] (.sl 0 0 r.length 1 false) [some ⟨5,r.map (eI .u8)⟩]:=by
 refine zf Tryz.func95 Tryz.ntmps95 ?_
 unfold pJ at hr
 refine zz ?_
 refine aVV fun K1 hK1 hG1=> ?_
 have J1: ∀(l0:List Int),aCB N l0=some r→K1 (aI 17 [(3,(.sl 0 0 l0.length 1 false))]) [some ⟨5,l0.map (eI .u8)⟩]:=by
  intro l0 hr
  unfold aCB at hr
  refine hK1 _ _ ?_
  refine zz ?_
  obtain rfl:=sj hr
  exact bI Tryz.results95 [0]
 obtain⟨bQ,hL2,hr⟩:=aC hr
 refine zz ?_
 refine aVU<|aV2 (fun m s h=> ∃(x8:Int)(aS:List Int),mY N l m x8 aS=some bQ∧Ghost 0 s h (aI 17 [(3,(.sl 0 0 aS.length 1 false)),(6,(.row none 1 (l.map (eL 1 (eI .u8))))),(7,(eI .i64 (l.length:Int))),(8,(eI .i64 x8))]) [some ⟨5,aS.map (eI .u8)⟩]) (n:=N) ⟨0,[],hL2,(zW 5 [0])⟩ (by rintro s h ⟨_,_,h0,_⟩;simp[mY]at h0) ?_
 rintro m2 s h ⟨x8,aS,hr2,hg⟩
 refine aV1 hg ?_
 clear hg hL2
 rw[mY]at hr2
 refine zz ?_
 refine aVS ?_
 refine zk hr2 rfl (fun h1 hr2=> ?_) (fun h1 hr2=> ?_)
 ·refine zz ?_
  refine aVS<|aVU ?_
  obtain⟨cD,h_2,hr2⟩:=aC hr2
  obtain⟨bR,h_3,hr2⟩:=aC hr2
  refine zz ?_
  refine jD (fH h_3) [] [0] ?_
  refine zz ?_
  exact⟨aVO.wrap (x8+1),bR,hr2,(zG [1])⟩
 refine zz ?_
 obtain rfl:=sj hr2
 refine zz ?_
 exact hG1 _ _ _ _ (zG [0]) (J1 aS hr)
theorem aJq {N:Nat}{aT:Int}{bO:List Int}{o_M o_N r:Int}(hr:nZ N aT bO o_M o_N=some r):
  Vm.Fn Tryz.prog 116 [] [(.agg [(eI .i64 aT),(.row none 1 (bO.map (eI .u8))),(eI .i64 o_M),(eI .i64 o_N)])] (eI .i64 r) []:=by
 refine zf Tryz.func116 Tryz.ntmps116 ?_
 unfold nZ at hr
 refine zz ?_
 refine aVS<|aVU ?_
 refine aVV fun K1 hK1 hG1=> ?_
 have J1: ∀(x3:Bool),nO N aT bO o_M o_N x3=some r→K1 (aI 66 [(1,(.ptr 0 0)),(3,(eB x3))]) [some ⟨90,[(eI .i64 aT),(.row none 1 (bO.map (eI .u8))),(eI .i64 o_M),(eI .i64 o_N)]⟩]:=by
  intro x3 hr
  unfold nO at hr
  refine hK1 _ _ ?_
  refine zk hr rfl (fun h1 hr=> ?_) (fun h1 hr=> ?_)
  ·refine zz ?_
   obtain rfl:=sj hr
   exact bI Tryz.results116 []
  refine aVV fun K2 hK2 hG2=> ?_
  have J2: ∀(fC:Bool),iR N aT bO o_M o_N fC=some r→K2 (aI 66 [(1,(.ptr 0 0)),(12,(eB fC))]) [some ⟨90,[(eI .i64 aT),(.row none 1 (bO.map (eI .u8))),(eI .i64 o_M),(eI .i64 o_N)]⟩]:=by
   intro fC hr
   unfold iR at hr
   refine hK2 _ _ ?_
   refine zk hr rfl (fun h2 hr=> ?_) (fun h2 hr=> ?_)
   ·refine zz ?_
    obtain rfl:=sj hr
    exact bI Tryz.results116 []
   refine zz ?_
   refine zk hr rfl (fun h3 hr=> ?_) (fun h3 hr=> ?_)
   ·refine zz ?_
    obtain rfl:=sj hr
    exact bI Tryz.results116 []
   refine aVV fun K3 hK3 hG3=> ?_
   have J3: ∀(x40:Bool),iL N x40=some r→K3 (aI 66 [(40,(eB x40))]) []:=by
    intro x40 hr
    unfold iL at hr
    refine hK3 _ _ ?_
    refine zk hr rfl (fun h4 hr=> ?_) (fun h4 hr=> ?_)
    ·refine zz ?_
     obtain rfl:=sj hr
     exact bI Tryz.results116 []
    refine zz ?_
    obtain rfl:=sj hr
    exact bI Tryz.results116 []
   rcases aVR (aT == 11)with h5|h5
   ·replace hr:=dD hr h5
    rcases aVR (decide (o_N<1))with h6|h6
    ·replace hr:=dD hr h6
     refine xr ?_
     refine zz ?_
     refine xX rfl<|xX rfl<|xX rfl ?_
     refine zz ?_
     refine xX rfl<|xX rfl<|xX rfl<|xX rfl<|xX rfl ?_
     refine zz ?_
     exact hG3 _ _ _ _ (zG []) (J3 true hr)
    replace hr:=dA hr h6
    rcases aVR (decide (15<o_N))with h7|h7
    ·replace hr:=dD hr h7
     refine xr ?_
     refine zz ?_
     refine xX rfl<|xX rfl<|xX rfl<|xX rfl<|xX rfl ?_
     refine zz ?_
     exact hG3 _ _ _ _ (zG []) (J3 true hr)
    replace hr:=dA hr h7
    rcases aVR (decide (o_M<1))with h8|h8
    ·replace hr:=dD hr h8
     refine xr ?_
     refine zz ?_
     exact hG3 _ _ _ _ (zG []) (J3 true hr)
    replace hr:=dA hr h8
    refine xr ?_
    refine zz ?_
    exact hG3 _ _ _ _ (zG []) (J3 (decide (o_N<o_M)) hr)
   replace hr:=dA hr h5
   refine xr ?_
   refine zz ?_
   exact hG3 _ _ _ _ (zG []) (J3 false hr)
  refine aVV fun K4 hK4 hG4=> ?_
  have J4: ∀(aEU:Bool),nR N aT bO o_M o_N aEU=some r→K4 (aI 66 [(1,(.ptr 0 0)),(12,(eB aEU))]) [some ⟨90,[(eI .i64 aT),(.row none 1 (bO.map (eI .u8))),(eI .i64 o_M),(eI .i64 o_N)]⟩]:=by
   intro aEU hr
   unfold nR at hr
   refine hK4 _ _ ?_
   refine zk hr rfl (fun h9 hr=> ?_) (fun h9 hr=> ?_)
   ·refine zz ?_
    exact hG2 _ _ _ _ (zG [0]) (J2 aEU hr)
   rcases aVR (o_M != 0)with h10|h10
   ·replace hr:=dD hr h10
    refine xr ?_
    refine zz ?_
    refine xSg (v:=(.ptr 0 0)) rfl rfl rfl (nL rfl (aMM ..)) ?_
    refine xSg (v:=(eI .i64 aT)) rfl rfl rfl (cA rfl (ldP rfl (pH dW rfl rfl))) ?_
    refine xSg (v:=(eB (aT != 11))) rfl rfl rfl (v5 rfl rfl (aM0 ..)) ?_
    refine zz ?_
    exact hG2 _ _ _ _ (zG [0]) (J2 (aT != 11) hr)
   replace hr:=dA hr h10
   rcases aVR (o_N != 0)with h11|h11
   ·replace hr:=dD hr h11
    refine xr ?_
    refine zz ?_
    exact hG2 _ _ _ _ (zG [0]) (J2 (aT != 11) hr)
   replace hr:=dA hr h11
   refine xr ?_
   refine zz ?_
   exact hG2 _ _ _ _ (zG [0]) (J2 false hr)
  rcases aVR (decide (0<(bO.length:Int)))with h12|h12
  ·replace hr:=dD hr h12
   refine xr ?_
   refine zz ?_
   exact hG4 _ _ _ _ (zG [0]) (J4 (aT != 1) hr)
  replace hr:=dA hr h12
  refine xr ?_
  refine zz ?_
  exact hG4 _ _ _ _ (zG [0]) (J4 false hr)
 rcases aVR (decide (aT<1))with h13|h13
 ·replace hr:=dD hr h13
  refine xr ?_
  refine zz ?_
  exact hG1 _ _ _ _ (zG [0]) (J1 true hr)
 replace hr:=dA hr h13
 refine xr ?_
 refine zz ?_
 exact hG1 _ _ _ _ (zG [0]) (J1 (decide (17<aT)) hr)
theorem aK3 {N:Nat}{b:List Int}{r:Int×(List Int)×Int×Int×(List Int)×Int}(hr:aCm N b=some r):
  Vm.Fn Tryz.prog 94 [] [(.row none 1 (b.map (eI .u8)))] (.tup [(.agg [(eI .i64 r.1),(.sl 0 0 r.2.1.length 1 false),(eI .i64 r.2.2.1),(eI .i64 r.2.2.2.1)]),(.row none 1 (r.2.2.2.2.1.map (eI .u8))),(eI .i64 r.2.2.2.2.2)]) [some ⟨5,r.2.1.map (eI .u8)⟩]:=by
 refine zf Tryz.func94 Tryz.ntmps94 ?_
 unfold aCm at hr
 obtain⟨x8,h_1,hr⟩:=aC hr
 refine zz ?_
 refine aVS ?_
 refine aVV fun K1 hK1 hG1=> ?_
 have J1: ∀(x19:Bool),wK N b x8 x19=some r→K1 (aI 77 [(0,(.row none 1 (b.map (eI .u8)))),(2,(.ptr 0 0)),(5,(.ptr 1 0)),(19,(eB x19))]) [some ⟨90,[(eI .i64 0),(.row (some true) 1 []),(eI .i64 0),(eI .i64 0)]⟩,some ⟨90,[(eI .i64 (aVO.wrap x8)),(.row (some true) 1 []),(eI .i64 0),(eI .i64 0)]⟩]:=by
  intro x19 hr
  unfold wK at hr
  refine hK1 _ _ ?_
  refine zk hr rfl (fun h2 hr=> ?_) (fun h2 hr=> ?_)
  ·refine zz ?_
   obtain rfl:=sj hr
   exact wP Tryz.results94 bH bH bH (zW 5 [2])
  obtain⟨bX,h_3,hr⟩:=aC hr
  refine zz ?_
  refine aVV fun K2 hK2 hG2=> ?_
  have J2: ∀(b_1:List Int)(c1 aBP:Int)(l2:List Int),oM N x8 b_1 c1 aBP l2=some r→K2 (aI 77 [(0,(.row none 1 (b_1.map (eI .u8)))),(2,(.ptr 0 0)),(5,(.ptr 1 0))]) [some ⟨90,[(eI .i64 0),(.row (some true) 1 []),(eI .i64 0),(eI .i64 0)]⟩,some ⟨90,[(eI .i64 (aVO.wrap x8)),(.sl 2 0 l2.length 1 false),(eI .i64 c1),(eI .i64 aBP)]⟩,some ⟨5,l2.map (eI .u8)⟩]:=by
   intro b_1 c1 aBP l2 hr
   unfold oM at hr
   refine hK2 _ _<|aVS ?_
   obtain⟨x76,h_4,hr⟩:=aC hr
   refine aV5 mixed [] [116] [[0,1,2,3,4,5,6]] ?_
   refine zz ?_
   refine xG (v:=(eI .i64 x76)) (h':=[some ⟨90,[(eI .i64 0),(.row (some true) 1 []),(eI .i64 0),(eI .i64 0)]⟩,some ⟨90,[(eI .i64 (aVO.wrap x8)),(.sl 2 0 l2.length 1 false),(eI .i64 c1),(eI .i64 aBP)]⟩,some ⟨5,l2.map (eI .u8)⟩]) rfl (Vm.Fn.lendR (aJq h_4) [] [2] (by decide) rfl (by decide) Lend.nil (Brw.row (aI1 (pB rfl (pB (aOF (d:=3) rfl rfl (fun _=>rfl)) (pB rfl (pB rfl aJz))))) Brw.nil) rfl rfB.nil rfl zH) ?_
   refine zz ?_
   obtain rfl:=sj hr
   exact wP Tryz.results94 bH bH bH (zG [2])
  refine zz ?_
  refine aVU ?_
  refine zz ?_
  refine zk hr rfl (fun h6 hr=> ?_) (fun h6 hr=> ?_)
  ·refine aVS ?_
   refine aVV fun K3 hK3 hG3=> ?_
   have J3: ∀(x39:Bool),wO N x8 bX x39=some r→K3 (aI 77 [(0,(.row none 1 (bX.map (eI .u8)))),(2,(.ptr 0 0)),(5,(.ptr 1 0)),(39,(eB x39))]) [some ⟨90,[(eI .i64 0),(.row (some true) 1 []),(eI .i64 0),(eI .i64 0)]⟩,some ⟨90,[(eI .i64 (aVO.wrap x8)),(.row (some true) 1 []),(eI .i64 0),(eI .i64 0)]⟩]:=by
    intro x39 hr
    unfold wO at hr
    refine hK3 _ _ ?_
    refine zk hr rfl (fun h7 hr=> ?_) (fun h7 hr=> ?_)
    ·refine zz ?_
     obtain rfl:=sj hr
     exact wP Tryz.results94 bH bH bH (zW 5 [2])
    obtain⟨x42,h_8,hr⟩:=aC hr
    obtain⟨x48,h_9,hr⟩:=aC hr
    obtain⟨x50,h_10,hr⟩:=aC hr
    obtain⟨x53,h_12,hr⟩:=aC hr
    refine zz ?_
    refine AB.rd (fQ []) (fQ [95]) mixed<|aVQ (n:=10) (i:=0) (by decide +kernel) rfl (gS (v:=(.row none 1 (bX.map (eI .u8)))) (sv (mI rfl)))<|aVQ (n:=9) (i:=1) (by decide +kernel) rfl (gS (v:=(eI .i64 (aVO.wrap (1+(aVO.wrap x42))))) (sv (mI rfl)))<|aVQ (n:=8) (i:=2) (by decide +kernel) rfl (gS (v:=(.row none 1 (x48.map (eI .u8)))) (sv (cZ rfl rfl rfl (u6 dC dO rfl rfl h_9))))<|aVQ (n:=7) (i:=3) (by decide +kernel) rfl (gS (v:=(.sl 2 0 1 1 false)) (h':=[some ⟨90,[(eI .i64 0),(.row (some true) 1 []),(eI .i64 0),(eI .i64 0)]⟩,some ⟨90,[(eI .i64 (aVO.wrap x8)),(.row (some true) 1 []),(eI .i64 0),(eI .i64 0)]⟩,some ⟨31,[x48].map (eL 1 (eI .u8))⟩]) (sv (pD rfl (aNH (xs:=[x48].map (eL 1 (eI .u8))) aAZ dC zl zl rfl rfl rfl rfl rfl rfl rfl)))) ?_
    refine aVQ (n:=6) (i:=4) (by decide +kernel) rfl (gC (v:=(.sl 3 0 x50.length 1 false)) (h':=[some ⟨90,[(eI .i64 0),(.row (some true) 1 []),(eI .i64 0),(eI .i64 0)]⟩,some ⟨90,[(eI .i64 (aVO.wrap x8)),(.row (some true) 1 []),(eI .i64 0),(eI .i64 0)]⟩,some ⟨31,[x48].map (eL 1 (eI .u8))⟩,some ⟨5,x50.map (eI .u8)⟩]) (zL (aAa h_10) [] [2]) rfl (fun _=>⟨_,rfl⟩) (sv (lS rfl o7)))<|aVQ (n:=5) (i:=5) (by decide +kernel) rfl (gS (v:=(.row none 1 (bX.map (eI .u8)))) (sv (mI rfl)))<|aVQ (n:=4) (i:=6) (by decide +kernel) rfl (gS (v:=(eI .i64 (aVO.wrap (1+(aVO.wrap x42))))) (sv (mI rfl))) ?_
    refine aVQ (n:=3) (i:=8) (by decide +kernel) rfl (gS (v:=(.ptr 1 1)) (sv (nL rfl (aJF ..)))) ?_
    refine aWi (m:=1) (L:=lst [0,1,2,3,4,5,6,7,8,9] 11) (s1:=aI 77 [(0,(.row none 1 (bX.map (eI .u8)))),(2,(.ptr 0 0)),(5,(.ptr 1 0)),(53,(.row none 1 (x53.map (eI .u8))))]) (h1:=[some ⟨90,[(eI .i64 0),(.row (some true) 1 []),(eI .i64 0),(eI .i64 0)]⟩,some ⟨90,[(eI .i64 (aVO.wrap x8)),(.sl 2 0 x50.length 1 false),(eI .i64 0),(eI .i64 0)]⟩,some ⟨5,x50.map (eI .u8)⟩]) ?_ (fun J=> ?_)
    ·refine aVQ (n:=0) (i:=10) (by decide +kernel) rfl (gS (v:=(.row none 1 (x53.map (eI .u8)))) (sv (pA rfl)))<|aWa (by decide +kernel) ?_
     refine zz ?_
     exact hG2 _ _ _ _ (zG [0,1,2]) (J2 x53 0 0 x50 hr)
    refine aV3 (n:=2) [7,9] (by decide +kernel) (by decide) ?_
    refine(aVY rfl (gS (v:=(.row none 1 (x53.map (eI .u8)))) (sv (cZ rfl rfl rfl (u6 dC dO rfl rfl h_12)))) ?_ (aVY rfl (gN (h':=[some ⟨90,[(eI .i64 0),(.row (some true) 1 []),(eI .i64 0),(eI .i64 0)]⟩,some ⟨90,[(eI .i64 (aVO.wrap x8)),(.sl 3 0 x50.length 1 false),(eI .i64 0),(eI .i64 0)]⟩,some ⟨31,[x48].map (eL 1 (eI .u8))⟩,some ⟨5,x50.map (eI .u8)⟩]) (sv (bN rfl rfl (jB dC rfl rfl rfl zl rfl)))) ?_ aV7))
    ·refine aVQ (n:=1) (i:=9) (by decide +kernel) rfl (gN (h':=[some ⟨90,[(eI .i64 0),(.row (some true) 1 []),(eI .i64 0),(eI .i64 0)]⟩,some ⟨90,[(eI .i64 (aVO.wrap x8)),(.sl 3 0 x50.length 1 false),(eI .i64 0),(eI .i64 0)]⟩,some ⟨31,[x48].map (eL 1 (eI .u8))⟩,some ⟨5,x50.map (eI .u8)⟩]) (sv (bN rfl rfl (jB dC rfl rfl rfl zl rfl)))) ?_
     exact aV4 (by decide +kernel) (by decide +kernel) (zG [0,1,3]) J
    refine aVQ (n:=1) (i:=7) (by decide +kernel) rfl (gS (v:=(.row none 1 (x53.map (eI .u8)))) (sv (cZ rfl rfl rfl (u6 dC dO rfl rfl h_12)))) ?_
    exact aV4 (by decide +kernel) (by decide +kernel) (zG [0,1,3]) J
   rcases aVR ((bX.length:Int) == 0)with h13|h13
   ·replace hr:=dD hr h13
    refine xr ?_
    refine zz ?_
    exact hG3 _ _ _ _ (zG [0,1]) (J3 true hr)
   replace hr:=dA hr h13
   obtain⟨x35,h_14,hr⟩:=aC hr
   refine xr ?_
   refine zz ?_
   exact hG3 _ _ _ _ (zG [0,1]) (J3 (decide ((aVO.wrap ((bX.length:Int)-1))<(aVO.wrap x35))) hr)
  refine zz ?_
  refine zk hr rfl (fun h15 hr=> ?_) (fun h15 hr=> ?_)
  ·refine aVS ?_
   refine zz ?_
   refine zk hr rfl (fun h16 hr=> ?_) (fun h16 hr=> ?_)
   ·refine zz ?_
    obtain rfl:=sj hr
    exact wP Tryz.results94 bH bH bH (zW 5 [2])
   obtain⟨x62,h_17,hr⟩:=aC hr
   obtain⟨x66,h_18,hr⟩:=aC hr
   obtain⟨x70,h_19,hr⟩:=aC hr
   refine zz ?_
   refine AB.rd (fQ []) (fQ []) mixed<|aVQ (n:=14) (i:=0) (by decide +kernel) rfl (gS (v:=(.row none 1 (bX.map (eI .u8)))) (sv (mI rfl)))<|aVQ (n:=13) (i:=1) (by decide +kernel) rfl (gS (sv (aCF rfl rfl (iaR dC dO h_17))))<|aVQ (n:=12) (i:=2) (by decide +kernel) rfl (gS (v:=(eI .u8 x62)) (sv (cA rfl (ldR h_17 (pH dO rfl rfl)))))<|aVQ (n:=11) (i:=3) (by decide +kernel) rfl (gS (v:=(eI .i64 (aVO.wrap x62))) (sv (jQ rfl (iH _ ⟨_,dO⟩ dW rfl))))<|aVQ (n:=10) (i:=4) (by decide +kernel) rfl (gS (v:=(.row none 1 (bX.map (eI .u8)))) (sv (mI rfl))) ?_
   refine aVQ (n:=9) (i:=5) (by decide +kernel) rfl (gS (sv (aCF rfl rfl (iaR dC dO h_18))))<|aVQ (n:=8) (i:=8) (by decide +kernel) rfl (gS (v:=(.row none 1 (bX.map (eI .u8)))) (sv (mI rfl)))<|aVQ (n:=7) (i:=10) (by decide +kernel) rfl (gS (v:=(.ptr 1 2)) (sv (nL rfl (aJo ..)))) ?_
   refine aWi (m:=1) (L:=lst [0,1,2,3,4,5,6,7,8,9,10,11,12,13] 15) (s1:=aI 77 [(0,(.row none 1 (bX.map (eI .u8)))),(2,(.ptr 0 0)),(5,(.ptr 1 0)),(70,(.row none 1 (x70.map (eI .u8))))]) (h1:=[some ⟨90,[(eI .i64 0),(.row (some true) 1 []),(eI .i64 0),(eI .i64 0)]⟩,some ⟨90,[(eI .i64 (aVO.wrap x8)),(.row (some true) 1 []),(eI .i64 (aVO.wrap x62)),(eI .i64 (aVO.wrap x66))]⟩]) ?_ (fun J=> ?_)
   ·refine aVQ (n:=0) (i:=14) (by decide +kernel) rfl (gS (v:=(.row none 1 (x70.map (eI .u8)))) (sv (pA rfl)))<|aWa (by decide +kernel) ?_
    refine zz ?_
    exact hG2 _ _ _ _ (aWf (aWh (fr':=[(0,(.row none 1 (x70.map (eI .u8)))),(2,(.ptr 0 0)),(5,(.ptr 1 0))]) (h1:=[some ⟨90,[(eI .i64 0),(.row (some true) 1 []),(eI .i64 0),(eI .i64 0)]⟩,some ⟨90,[(eI .i64 (aVO.wrap x8)),(.sl 2 0 0 1 false),(eI .i64 (aVO.wrap x62)),(eI .i64 (aVO.wrap x66))]⟩]) 5 (FLe.same rfl (FLe.same rfl (FLe.same rfl FLe.nil))) (HLv.live (V.les_refl _ _) rfl (HLv.live (V.les_cons (V.le_refl _ _) (V.les_cons (V.le_virt rfl) (V.les_cons (V.le_refl _ _) (V.les_cons (V.le_refl _ _) V.les_nil)))) rfl HLv.nil))) (lK [0,1,2])) (J2 x70 (aVO.wrap x62) (aVO.wrap x66) [] hr)
   refine aV3 (n:=6) [6,9,11] (by decide +kernel) (by decide) ?_
   refine(aVY rfl (gS (v:=(eI .u8 x66)) (sv (cA rfl (ldR h_18 (pH dO rfl rfl))))) ?_ (aVY rfl (gS (v:=(.row none 1 (x70.map (eI .u8)))) (sv (cZ rfl rfl rfl (u6 dC dO rfl rfl h_19)))) ?_ (aVY rfl (gN (h':=[some ⟨90,[(eI .i64 0),(.row (some true) 1 []),(eI .i64 0),(eI .i64 0)]⟩,some ⟨90,[(eI .i64 (aVO.wrap x8)),(.row (some true) 1 []),(eI .i64 (aVO.wrap x62)),(eI .i64 0)]⟩]) (sv (bN rfl rfl (jB dW rfl rfl rfl zl rfl)))) ?_ aV7)))
   ·refine aV3 (n:=5) [7,9,11] (by decide +kernel) (by decide) ?_
    refine(aVY rfl (gS (v:=(eI .i64 (aVO.wrap x66))) (sv (jQ rfl (iH _ ⟨_,dO⟩ dW rfl)))) ?_ (aVY rfl (gS (v:=(.row none 1 (x70.map (eI .u8)))) (sv (cZ rfl rfl rfl (u6 dC dO rfl rfl h_19)))) ?_ (aVY rfl (gN (h':=[some ⟨90,[(eI .i64 0),(.row (some true) 1 []),(eI .i64 0),(eI .i64 0)]⟩,some ⟨90,[(eI .i64 (aVO.wrap x8)),(.row (some true) 1 []),(eI .i64 (aVO.wrap x62)),(eI .i64 0)]⟩]) (sv (bN rfl rfl (jB dW rfl rfl rfl zl rfl)))) ?_ aV7)))
    ·refine aV3 (n:=4) [9,11] (by decide +kernel) (by decide) ?_
     refine(aVY rfl (gS (v:=(.row none 1 (x70.map (eI .u8)))) (sv (cZ rfl rfl rfl (u6 dC dO rfl rfl h_19)))) ?_ (aVY rfl (gN (h':=[some ⟨90,[(eI .i64 0),(.row (some true) 1 []),(eI .i64 0),(eI .i64 0)]⟩,some ⟨90,[(eI .i64 (aVO.wrap x8)),(.row (some true) 1 []),(eI .i64 (aVO.wrap x62)),(eI .i64 0)]⟩]) (sv (bN rfl rfl (jB dW rfl rfl rfl zl rfl)))) ?_ aV7))
     ·refine aVQ (n:=3) (i:=11) (by decide +kernel) rfl (gN (h':=[some ⟨90,[(eI .i64 0),(.row (some true) 1 []),(eI .i64 0),(eI .i64 0)]⟩,some ⟨90,[(eI .i64 (aVO.wrap x8)),(.row (some true) 1 []),(eI .i64 (aVO.wrap x62)),(eI .i64 0)]⟩]) (sv (bN rfl rfl (jB dW rfl rfl rfl zl rfl))))<|aVQ (n:=2) (i:=12) (by decide +kernel) rfl (gS (v:=(.ptr 1 3)) (sv (nL rfl (jZ ..))))<|aVQ (n:=1) (i:=13) (by decide +kernel) rfl (gN (h':=[some ⟨90,[(eI .i64 0),(.row (some true) 1 []),(eI .i64 0),(eI .i64 0)]⟩,some ⟨90,[(eI .i64 (aVO.wrap x8)),(.row (some true) 1 []),(eI .i64 (aVO.wrap x62)),(eI .i64 (aVO.wrap x66))]⟩]) (sv (bN rfl rfl (jB dW rfl rfl rfl zl rfl)))) ?_
      exact aV4 (by decide +kernel) (by decide +kernel) (zG [0,1]) J
     refine aVQ (n:=3) (i:=12) (by decide +kernel) rfl (gS (v:=(.ptr 1 3)) (sv (nL rfl (jZ ..))))<|aV3 (n:=2) [9,13] (by decide +kernel) (by decide) ?_
     refine(aVY rfl (gS (v:=(.row none 1 (x70.map (eI .u8)))) (sv (cZ rfl rfl rfl (u6 dC dO rfl rfl h_19)))) ?_ (aVY rfl (gN (h':=[some ⟨90,[(eI .i64 0),(.row (some true) 1 []),(eI .i64 0),(eI .i64 0)]⟩,some ⟨90,[(eI .i64 (aVO.wrap x8)),(.row (some true) 1 []),(eI .i64 (aVO.wrap x62)),(eI .i64 (aVO.wrap x66))]⟩]) (sv (bN rfl rfl (jB dW rfl rfl rfl zl rfl)))) ?_ aV7))
     ·refine aVQ (n:=1) (i:=13) (by decide +kernel) rfl (gN (h':=[some ⟨90,[(eI .i64 0),(.row (some true) 1 []),(eI .i64 0),(eI .i64 0)]⟩,some ⟨90,[(eI .i64 (aVO.wrap x8)),(.row (some true) 1 []),(eI .i64 (aVO.wrap x62)),(eI .i64 (aVO.wrap x66))]⟩]) (sv (bN rfl rfl (jB dW rfl rfl rfl zl rfl)))) ?_
      exact aV4 (by decide +kernel) (by decide +kernel) (zG [0,1]) J
     refine aVQ (n:=1) (i:=9) (by decide +kernel) rfl (gS (v:=(.row none 1 (x70.map (eI .u8)))) (sv (cZ rfl rfl rfl (u6 dC dO rfl rfl h_19)))) ?_
     exact aV4 (by decide +kernel) (by decide +kernel) (zG [0,1]) J
    ·refine aV3 (n:=4) [7,11] (by decide +kernel) (by decide) ?_
     refine(aVY rfl (gS (v:=(eI .i64 (aVO.wrap x66))) (sv (jQ rfl (iH _ ⟨_,dO⟩ dW rfl)))) ?_ (aVY rfl (gN (h':=[some ⟨90,[(eI .i64 0),(.row (some true) 1 []),(eI .i64 0),(eI .i64 0)]⟩,some ⟨90,[(eI .i64 (aVO.wrap x8)),(.row (some true) 1 []),(eI .i64 (aVO.wrap x62)),(eI .i64 0)]⟩]) (sv (bN rfl rfl (jB dW rfl rfl rfl zl rfl)))) ?_ aV7))
     ·refine aVQ (n:=3) (i:=11) (by decide +kernel) rfl (gN (h':=[some ⟨90,[(eI .i64 0),(.row (some true) 1 []),(eI .i64 0),(eI .i64 0)]⟩,some ⟨90,[(eI .i64 (aVO.wrap x8)),(.row (some true) 1 []),(eI .i64 (aVO.wrap x62)),(eI .i64 0)]⟩]) (sv (bN rfl rfl (jB dW rfl rfl rfl zl rfl))))<|aVQ (n:=2) (i:=12) (by decide +kernel) rfl (gS (v:=(.ptr 1 3)) (sv (nL rfl (jZ ..))))<|aVQ (n:=1) (i:=13) (by decide +kernel) rfl (gN (h':=[some ⟨90,[(eI .i64 0),(.row (some true) 1 []),(eI .i64 0),(eI .i64 0)]⟩,some ⟨90,[(eI .i64 (aVO.wrap x8)),(.row (some true) 1 []),(eI .i64 (aVO.wrap x62)),(eI .i64 (aVO.wrap x66))]⟩]) (sv (bN rfl rfl (jB dW rfl rfl rfl zl rfl)))) ?_
      exact aV4 (by decide +kernel) (by decide +kernel) (zG [0,1]) J
     refine aVQ (n:=3) (i:=7) (by decide +kernel) rfl (gS (v:=(eI .i64 (aVO.wrap x66))) (sv (jQ rfl (iH _ ⟨_,dO⟩ dW rfl))))<|aVQ (n:=2) (i:=12) (by decide +kernel) rfl (gS (v:=(.ptr 1 3)) (sv (nL rfl (jZ ..))))<|aVQ (n:=1) (i:=13) (by decide +kernel) rfl (gN (h':=[some ⟨90,[(eI .i64 0),(.row (some true) 1 []),(eI .i64 0),(eI .i64 0)]⟩,some ⟨90,[(eI .i64 (aVO.wrap x8)),(.row (some true) 1 []),(eI .i64 (aVO.wrap x62)),(eI .i64 (aVO.wrap x66))]⟩]) (sv (bN rfl rfl (jB dW rfl rfl rfl zl rfl)))) ?_
     exact aV4 (by decide +kernel) (by decide +kernel) (zG [0,1]) J
    refine aVQ (n:=4) (i:=7) (by decide +kernel) rfl (gS (v:=(eI .i64 (aVO.wrap x66))) (sv (jQ rfl (iH _ ⟨_,dO⟩ dW rfl))))<|aVQ (n:=3) (i:=12) (by decide +kernel) rfl (gS (v:=(.ptr 1 3)) (sv (nL rfl (jZ ..))))<|aV3 (n:=2) [9,13] (by decide +kernel) (by decide) ?_
    refine(aVY rfl (gS (v:=(.row none 1 (x70.map (eI .u8)))) (sv (cZ rfl rfl rfl (u6 dC dO rfl rfl h_19)))) ?_ (aVY rfl (gN (h':=[some ⟨90,[(eI .i64 0),(.row (some true) 1 []),(eI .i64 0),(eI .i64 0)]⟩,some ⟨90,[(eI .i64 (aVO.wrap x8)),(.row (some true) 1 []),(eI .i64 (aVO.wrap x62)),(eI .i64 (aVO.wrap x66))]⟩]) (sv (bN rfl rfl (jB dW rfl rfl rfl zl rfl)))) ?_ aV7))
    ·refine aVQ (n:=1) (i:=13) (by decide +kernel) rfl (gN (h':=[some ⟨90,[(eI .i64 0),(.row (some true) 1 []),(eI .i64 0),(eI .i64 0)]⟩,some ⟨90,[(eI .i64 (aVO.wrap x8)),(.row (some true) 1 []),(eI .i64 (aVO.wrap x62)),(eI .i64 (aVO.wrap x66))]⟩]) (sv (bN rfl rfl (jB dW rfl rfl rfl zl rfl)))) ?_
     exact aV4 (by decide +kernel) (by decide +kernel) (zG [0,1]) J
    refine aVQ (n:=1) (i:=9) (by decide +kernel) rfl (gS (v:=(.row none 1 (x70.map (eI .u8)))) (sv (cZ rfl rfl rfl (u6 dC dO rfl rfl h_19)))) ?_
    exact aV4 (by decide +kernel) (by decide +kernel) (zG [0,1]) J
   ·refine aV3 (n:=5) [6,11] (by decide +kernel) (by decide) ?_
    refine(aVY rfl (gS (v:=(eI .u8 x66)) (sv (cA rfl (ldR h_18 (pH dO rfl rfl))))) ?_ (aVY rfl (gN (h':=[some ⟨90,[(eI .i64 0),(.row (some true) 1 []),(eI .i64 0),(eI .i64 0)]⟩,some ⟨90,[(eI .i64 (aVO.wrap x8)),(.row (some true) 1 []),(eI .i64 (aVO.wrap x62)),(eI .i64 0)]⟩]) (sv (bN rfl rfl (jB dW rfl rfl rfl zl rfl)))) ?_ aV7))
    ·refine aV3 (n:=4) [7,11] (by decide +kernel) (by decide) ?_
     refine(aVY rfl (gS (v:=(eI .i64 (aVO.wrap x66))) (sv (jQ rfl (iH _ ⟨_,dO⟩ dW rfl)))) ?_ (aVY rfl (gN (h':=[some ⟨90,[(eI .i64 0),(.row (some true) 1 []),(eI .i64 0),(eI .i64 0)]⟩,some ⟨90,[(eI .i64 (aVO.wrap x8)),(.row (some true) 1 []),(eI .i64 (aVO.wrap x62)),(eI .i64 0)]⟩]) (sv (bN rfl rfl (jB dW rfl rfl rfl zl rfl)))) ?_ aV7))
     ·refine aVQ (n:=3) (i:=11) (by decide +kernel) rfl (gN (h':=[some ⟨90,[(eI .i64 0),(.row (some true) 1 []),(eI .i64 0),(eI .i64 0)]⟩,some ⟨90,[(eI .i64 (aVO.wrap x8)),(.row (some true) 1 []),(eI .i64 (aVO.wrap x62)),(eI .i64 0)]⟩]) (sv (bN rfl rfl (jB dW rfl rfl rfl zl rfl))))<|aVQ (n:=2) (i:=12) (by decide +kernel) rfl (gS (v:=(.ptr 1 3)) (sv (nL rfl (jZ ..))))<|aVQ (n:=1) (i:=13) (by decide +kernel) rfl (gN (h':=[some ⟨90,[(eI .i64 0),(.row (some true) 1 []),(eI .i64 0),(eI .i64 0)]⟩,some ⟨90,[(eI .i64 (aVO.wrap x8)),(.row (some true) 1 []),(eI .i64 (aVO.wrap x62)),(eI .i64 (aVO.wrap x66))]⟩]) (sv (bN rfl rfl (jB dW rfl rfl rfl zl rfl)))) ?_
      exact aV4 (by decide +kernel) (by decide +kernel) (zG [0,1]) J
     refine aVQ (n:=3) (i:=7) (by decide +kernel) rfl (gS (v:=(eI .i64 (aVO.wrap x66))) (sv (jQ rfl (iH _ ⟨_,dO⟩ dW rfl))))<|aVQ (n:=2) (i:=12) (by decide +kernel) rfl (gS (v:=(.ptr 1 3)) (sv (nL rfl (jZ ..))))<|aVQ (n:=1) (i:=13) (by decide +kernel) rfl (gN (h':=[some ⟨90,[(eI .i64 0),(.row (some true) 1 []),(eI .i64 0),(eI .i64 0)]⟩,some ⟨90,[(eI .i64 (aVO.wrap x8)),(.row (some true) 1 []),(eI .i64 (aVO.wrap x62)),(eI .i64 (aVO.wrap x66))]⟩]) (sv (bN rfl rfl (jB dW rfl rfl rfl zl rfl)))) ?_
     exact aV4 (by decide +kernel) (by decide +kernel) (zG [0,1]) J
    refine aVQ (n:=4) (i:=6) (by decide +kernel) rfl (gS (v:=(eI .u8 x66)) (sv (cA rfl (ldR h_18 (pH dO rfl rfl)))))<|aVQ (n:=3) (i:=7) (by decide +kernel) rfl (gS (v:=(eI .i64 (aVO.wrap x66))) (sv (jQ rfl (iH _ ⟨_,dO⟩ dW rfl))))<|aVQ (n:=2) (i:=12) (by decide +kernel) rfl (gS (v:=(.ptr 1 3)) (sv (nL rfl (jZ ..))))<|aVQ (n:=1) (i:=13) (by decide +kernel) rfl (gN (h':=[some ⟨90,[(eI .i64 0),(.row (some true) 1 []),(eI .i64 0),(eI .i64 0)]⟩,some ⟨90,[(eI .i64 (aVO.wrap x8)),(.row (some true) 1 []),(eI .i64 (aVO.wrap x62)),(eI .i64 (aVO.wrap x66))]⟩]) (sv (bN rfl rfl (jB dW rfl rfl rfl zl rfl)))) ?_
    exact aV4 (by decide +kernel) (by decide +kernel) (zG [0,1]) J
   refine aVQ (n:=5) (i:=6) (by decide +kernel) rfl (gS (v:=(eI .u8 x66)) (sv (cA rfl (ldR h_18 (pH dO rfl rfl)))))<|aVQ (n:=4) (i:=7) (by decide +kernel) rfl (gS (v:=(eI .i64 (aVO.wrap x66))) (sv (jQ rfl (iH _ ⟨_,dO⟩ dW rfl))))<|aVQ (n:=3) (i:=12) (by decide +kernel) rfl (gS (v:=(.ptr 1 3)) (sv (nL rfl (jZ ..))))<|aV3 (n:=2) [9,13] (by decide +kernel) (by decide) ?_
   refine(aVY rfl (gS (v:=(.row none 1 (x70.map (eI .u8)))) (sv (cZ rfl rfl rfl (u6 dC dO rfl rfl h_19)))) ?_ (aVY rfl (gN (h':=[some ⟨90,[(eI .i64 0),(.row (some true) 1 []),(eI .i64 0),(eI .i64 0)]⟩,some ⟨90,[(eI .i64 (aVO.wrap x8)),(.row (some true) 1 []),(eI .i64 (aVO.wrap x62)),(eI .i64 (aVO.wrap x66))]⟩]) (sv (bN rfl rfl (jB dW rfl rfl rfl zl rfl)))) ?_ aV7))
   ·refine aVQ (n:=1) (i:=13) (by decide +kernel) rfl (gN (h':=[some ⟨90,[(eI .i64 0),(.row (some true) 1 []),(eI .i64 0),(eI .i64 0)]⟩,some ⟨90,[(eI .i64 (aVO.wrap x8)),(.row (some true) 1 []),(eI .i64 (aVO.wrap x62)),(eI .i64 (aVO.wrap x66))]⟩]) (sv (bN rfl rfl (jB dW rfl rfl rfl zl rfl)))) ?_
    exact aV4 (by decide +kernel) (by decide +kernel) (zG [0,1]) J
   refine aVQ (n:=1) (i:=9) (by decide +kernel) rfl (gS (v:=(.row none 1 (x70.map (eI .u8)))) (sv (cZ rfl rfl rfl (u6 dC dO rfl rfl h_19)))) ?_
   exact aV4 (by decide +kernel) (by decide +kernel) (zG [0,1]) J
  refine zz ?_
  exact hG2 _ _ _ _ (aWf (aWh (fr':=[(0,(.row none 1 (bX.map (eI .u8)))),(2,(.ptr 0 0)),(5,(.ptr 1 0))]) (h1:=[some ⟨90,[(eI .i64 0),(.row (some true) 1 []),(eI .i64 0),(eI .i64 0)]⟩,some ⟨90,[(eI .i64 (aVO.wrap x8)),(.sl 2 0 0 1 false),(eI .i64 0),(eI .i64 0)]⟩]) 5 (FLe.same rfl (FLe.same rfl (FLe.same rfl FLe.nil))) (HLv.live (V.les_refl _ _) rfl (HLv.live (V.les_cons (V.le_refl _ _) (V.les_cons (V.le_virt rfl) (V.les_cons (V.le_refl _ _) (V.les_cons (V.le_refl _ _) V.les_nil)))) rfl HLv.nil))) (lK [0,1,2])) (J2 bX 0 0 [] hr)
 rcases aVR (decide ((aVO.wrap x8)<1))with h20|h20
 ·replace hr:=dD hr h20
  refine xr ?_
  refine zz ?_
  exact hG1 _ _ _ _ (zG [0,1]) (J1 true hr)
 replace hr:=dA hr h20
 refine xr ?_
 refine zz ?_
 exact hG1 _ _ _ _ (zG [0,1]) (J1 (decide (17<(aVO.wrap x8))) hr)
theorem aJt {N:Nat}{b:List Int}{r:(List aX)×Int}(hr:z6 N b=some r):
  Vm.Fn Tryz.prog 68 [] [(.row none 1 (b.map (eI .u8)))] (.tup [(.sl 0 0 r.1.length 4 true),(eI .i64 r.2)]) [some ⟨90,r.1.flatMap cO⟩]:=by
 refine zf Tryz.func68 Tryz.ntmps68 ?_
 unfold z6 at hr
 refine zz ?_
 refine aVS ?_
 refine zz ?_
 refine zk hr rfl (fun h1 hr=> ?_) (fun h1 hr=> ?_)
 ·refine zz ?_
  obtain rfl:=sj hr
  exact nX Tryz.results68 bH bH (zW 90 [0])
 refine zz ?_
 refine aVV fun K1 hK1 hG1=> ?_
 have J1: ∀(l0:List aX),aBQ N l0=some r→K1 (aI 29 [(4,(.sl 0 0 l0.length 4 true))]) [some ⟨90,l0.flatMap cO⟩]:=by
  intro l0 hr
  unfold aBQ at hr
  refine hK1 _ _ ?_
  refine zz ?_
  obtain rfl:=sj hr
  exact sZ Tryz.results68 [0]
 obtain⟨bQ,hL2,hr⟩:=aC hr
 refine aVU<|aV2 (fun m s h=> ∃(b_1:List Int)(aS:List aX),nK N m b_1 aS=some bQ∧Ghost 0 s h (aI 29 [(0,(.row none 1 (b_1.map (eI .u8)))),(4,(.sl 0 0 aS.length 4 true))]) [some ⟨90,aS.flatMap cO⟩]) (n:=N) ⟨b,[],hL2,(zW 90 [0])⟩ (by rintro s h ⟨_,_,h0,_⟩;simp[nK]at h0) ?_
 rintro m2 s h ⟨b_1,aS,hr2,hg⟩
 refine aV1 hg ?_
 clear hg hL2
 rw[nK]at hr2
 refine aVS ?_
 refine zz ?_
 refine zk hr2 rfl (fun h2 hr2=> ?_) (fun h2 hr2=> ?_)
 ·refine zz ?_
  refine aVU ?_
  obtain⟨x16,h_3,hr2⟩:=aC hr2
  refine zz ?_
  refine zc (aK3 h_3) [] ?_
  refine zz ?_
  refine aVS ?_
  refine zz ?_
  refine zk hr2 rfl (fun h4 hr2=> ?_) (fun h4 hr2=> ?_)
  ·refine zz ?_
   obtain rfl:=sj hr2
   obtain rfl:=sj hr
   exact nX Tryz.results68 bH bH (zW 90 [3])
  obtain⟨x26,h_5,hr2⟩:=aC hr2
  refine zz ?_
  refine aWd (aWk (fr':=[(0,(.row none 1 (b_1.map (eI .u8)))),(4,(.sl 0 0 aS.length 4 true)),(5,(.ptr 2 0)),(6,(.row none 1 (x16.2.2.2.2.1.map (eI .u8)))),(7,(eI .i64 x16.2.2.2.2.2)),(11,(.row none 1 (b_1.map (eI .u8)))),(12,(eI .i64 (b_1.length:Int))),(13,(eB (decide (0<(b_1.length:Int))))),(14,(.tup [(.agg [(eI .i64 x16.1),(.row none 1 (x16.2.1.map (eI .u8))),(eI .i64 x16.2.2.1),(eI .i64 x16.2.2.2.1)]),(.row none 1 (x16.2.2.2.2.1.map (eI .u8))),(eI .i64 x16.2.2.2.2.2)])),(15,(.row none 1 (b_1.map (eI .u8)))),(16,(.tup [(.agg [(eI .i64 x16.1),(.row none 1 (x16.2.1.map (eI .u8))),(eI .i64 x16.2.2.1),(eI .i64 x16.2.2.2.1)]),(.row none 1 (x16.2.2.2.2.1.map (eI .u8))),(eI .i64 x16.2.2.2.2.2)])),(17,(.agg [(eI .i64 x16.1),(.row none 1 (x16.2.1.map (eI .u8))),(eI .i64 x16.2.2.1),(eI .i64 x16.2.2.2.1)])),(18,(.row none 1 (x16.2.2.2.2.1.map (eI .u8)))),(19,(eI .i64 x16.2.2.2.2.2)),(20,(eI .i64 x16.2.2.2.2.2)),(21,(eB (x16.2.2.2.2.2 != 0))),(23,(.sl 0 0 aS.length 4 true)),(24,(.agg [(eI .i64 x16.1),(.row none 1 (x16.2.1.map (eI .u8))),(eI .i64 x16.2.2.1),(eI .i64 x16.2.2.2.1)]))]) (h':=[some ⟨90,aS.flatMap cO⟩,none,some ⟨90,[(eI .i64 x16.1),(.row none 1 (x16.2.1.map (eI .u8))),(eI .i64 x16.2.2.1),(eI .i64 x16.2.2.2.1)]⟩]) (aVZ rfl (aVT (aQ rfl)) (aVZ rfl (aVT (aQ rfl)) (aVZ rfl (aVT (aQ rfl)) (aVZ rfl (aVT (aQ rfl)) (aVZ rfl (aVT (aQ rfl)) (aVZ rfl (aVT (aQ rfl)) (aVZ rfl (aVT (aQ rfl)) (aVZ rfl (aVT (aQ rfl)) (aVZ rfl (Conv.tup (aVW (aWl (aVW (aVT (aQ rfl)) (aVW (aWg (aQ rfl) rfl rfl (gL (fun _=>rfl)) (by first|rfl|(simp only[aV6,b7,b6];done))) (aVW (aVT (aQ rfl)) (aVW (aVT (aQ rfl)) aV9))))) (aVW (aVT (aQ rfl)) (aVW (aVT (aQ rfl)) aV9)))) (aVZ rfl (aVT (aQ rfl)) (aVZ rfl (Conv.tup (aVW (aWl (aVW (aVT (aQ rfl)) (aVW (aWg (aQ rfl) rfl rfl (gL (fun _=>rfl)) (by first|rfl|(simp only[aV6,b7,b6];done))) (aVW (aVT (aQ rfl)) (aVW (aVT (aQ rfl)) aV9))))) (aVW (aVT (aQ rfl)) (aVW (aVT (aQ rfl)) aV9)))) (aVZ rfl (aWl (aVW (aVT (aQ rfl)) (aVW (aWg (aQ rfl) rfl rfl (gL (fun _=>rfl)) (by first|rfl|(simp only[aV6,b7,b6];done))) (aVW (aVT (aQ rfl)) (aVW (aVT (aQ rfl)) aV9))))) (aVZ rfl (aVT (aQ rfl)) (aVZ rfl (aVT (aQ rfl)) (aVZ rfl (aVT (aQ rfl)) (aVZ rfl (aVT (aQ rfl)) (aVZ rfl (aVT (aQ rfl)) (aVZ rfl (aWl (aVW (aVT (aQ rfl)) (aVW (aWg (aQ rfl) rfl rfl (gL (fun _=>rfl)) (by first|rfl|(simp only[aV6,b7,b6];done))) (aVW (aVT (aQ rfl)) (aVW (aVT (aQ rfl)) aV9))))) FCv.nil)))))))))))))))))) (aWe (aWc (aQ rfl)) (q7 (fun _=>rfl) _) (HCv.dead (aWe (aVW (aVT (aQ rfl)) (aVW (aWg (aQ rfl) rfl rfl (gL (fun _=>rfl)) (by first|rfl|(simp only[aV6,b7,b6];done))) (aVW (aVT (aQ rfl)) (aVW (aVT (aQ rfl)) aV9)))) rfl HCv.nil)))) ?_
  refine xw (v:=(.sl 3 0 1 4 true)) (h':=[some ⟨90,aS.flatMap cO⟩,none,some ⟨90,[(eI .i64 x16.1),(.row none 1 (x16.2.1.map (eI .u8))),(eI .i64 x16.2.2.1),(eI .i64 x16.2.2.2.1)]⟩,some ⟨90,[(aX.mk x16.1 x16.2.1 x16.2.2.1 x16.2.2.2.1)].flatMap cO⟩]) (pD rfl (aCL (C:=cO) (xs:=[(aX.mk x16.1 x16.2.1 x16.2.2.1 x16.2.2.2.1)]) (K:=4) (fun _=>rfl) (fun _=>rfl) aQm aBM ⟨zl,zl,zl⟩ rfl rfl rfl rfl rfl rfl)) ?_
  refine zz ?_
  exact⟨x16.2.2.2.2.1,x26,hr2,(zG [4])⟩
 refine zz ?_
 obtain rfl:=sj hr2
 refine zz ?_
 exact hG1 _ _ _ _ (zG [0]) (J1 aS hr)
end Go.Proofs.YtbjiaghljpoliaaGreatDoor
