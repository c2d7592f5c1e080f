/- Texts of ours, joined: Wk2. -/
import Derived.Test.YtbjiaghljpoliaaGreatDoorQSpendChecks6
open Go.IntKind renaming i64 → aXj,u32 → aXs,u8 → aXG,max → aXO
open List renaming replicate → aXk,length_map → aXB,forall_mem_cons → aXD
open Go.Vm.DrawG renaming pick → aXl,fork → aXy,jg → aXz,nil → aXF,jn → aXN
open Bool renaming eq_false_or_eq_true → aXm
open Go.Vm.AB renaming seq → aXn,block → aXp,seq_g → aXq,ghost → aXw,loopN → aXx,rs → aXA
open Go.Vm.Conv renaming same → aXo,row → aXL,agg → aXQ
open Go.Vm.Convs renaming cons → aXr,nil → aXE,same → aXH
open Go.Vm.Fork renaming cons → aXt,nil → aXC
open Go.Vm.FCv renaming cons → aXu
open Int renaming toNat → aXv
open Go.Vm.OpsX renaming ghost → aXI
open Go.Vm.HCv renaming live → aXJ
open Go.Vm.Ghost renaming trans → aXK,virt → aXM,conv → aXP
set_option linter.unusedVariables false
set_option linter.unusedSimpArgs false
set_option maxRecDepth 20000
set_option maxHeartbeats 1000000
namespace Go.Proofs.YtbjiaghljpoliaaGreatDoor
open Go Go.Vm
theorem aKb {N:Nat}{va b vm:List Int}{r:(List Int)}(hr:aAu N va b vm=some r):
  Vm.Fn Tryz.prog 165 [] [(.agg (va.map (eI .u64))),(.agg (b.map (eI .u64))),(.agg (vm.map (eI .u64)))] (.agg (r.map (eI .u64))) []:=by
 refine zf Tryz.func165 Tryz.ntmps165 ?_
 unfold aAu at hr
 refine zz ?_
 refine aXn ?_
 obtain⟨q,h_1,hr⟩:=aD hr
 refine zz ?_
 refine xw (v:=(.agg ([0,0,0,0].map (eI .u64)))) (cE rfl (nR b8 nQ rfl)) ?_
 refine zz ?_
 refine zk hr rfl (fun h2 hr=> ?_) (fun h2 hr=> ?_)
 ·refine zz ?_
  refine xw (v:=(.agg ([0,0,0,0].map (eI .u64)))) (cE rfl (nR b8 nQ rfl)) ?_
  refine zz ?_
  obtain rfl:=sj hr
  exact iE Tryz.results165 bJ (zG [])
 obtain⟨q_1,h_3,hr⟩:=aD hr
 obtain⟨q_2,h_4,hr⟩:=aD hr
 obtain⟨x19,h_5,hr⟩:=aD hr
 obtain⟨q_3,h_6,hr⟩:=aD hr
 obtain⟨q_4,h_7,hr⟩:=aD hr
 refine zz ?_
 refine xp (aNH h_5) ?_
 refine zz ?_
 refine aXn ?_
 obtain⟨x25,h_8,hr⟩:=aD hr
 obtain⟨x28,h_10,hr⟩:=aD hr
 obtain⟨q_5,h_12,hr⟩:=aD hr
 obtain⟨q_6,h_13,hr⟩:=aD hr
 refine AB.rd (fQ [175,176]) (fQ []) mixed<|aXl (n:=14) (i:=0) (by decide +kernel) rfl (gS (v:=(.agg (x19.1.map (eI .u64)))) (sv (cA rfl (ldA (E:=(eI .u64)) (l:=x19.1) b8 rfl rfl (bH h_6)))))<|aXl (n:=13) (i:=1) (by decide +kernel) rfl (gS (v:=(.agg (vm.map (eI .u64)))) (sv (cA rfl (ldA (E:=(eI .u64)) (l:=vm) b8 rfl rfl (bH h_1)))))<|aXl (n:=12) (i:=2) (by decide +kernel) rfl (gU (fun _=>(Vm.Fn.pure (aCF h_8) zR zR)) rfl (sv (mA rfl yT)))<|aXl (n:=11) (i:=3) (by decide +kernel) rfl (gS (v:=(.agg (x19.2.map (eI .u64)))) (sv (cA rfl (ldA (E:=(eI .u64)) (l:=x19.2) b8 rfl rfl (bH h_7))))) ?_
 refine aXl (n:=10) (i:=4) (by decide +kernel) rfl (gS (v:=(.agg (vm.map (eI .u64)))) (sv (cA rfl (ldA (E:=(eI .u64)) (l:=vm) b8 rfl rfl (bH h_1)))))<|aXl (n:=9) (i:=5) (by decide +kernel) rfl (gU (fun _=>(Vm.Fn.pure (aHS h_10) zR zR)) rfl (sv (mA rfl yT)))<|aXl (n:=8) (i:=6) (by decide +kernel) rfl (gS (v:=(.tup [(.agg (x28.1.map (eI .u64))),(.agg (x28.2.1.map (eI .u64))),(eB x28.2.2)])) (sv (mR rfl)))<|aXl (n:=7) (i:=7) (by decide +kernel) rfl (gS (v:=(.agg (x28.1.map (eI .u64)))) (sv (aHu rfl rfl)))<|aXl (n:=6) (i:=8) (by decide +kernel) rfl (gS (v:=(.agg (x28.2.1.map (eI .u64)))) (sv (aHu rfl rfl))) ?_
 refine aXl (n:=5) (i:=9) (by decide +kernel) rfl (gS (v:=(eB x28.2.2)) (sv (aHu rfl rfl))) ?_
 refine aXN (m:=1) (L:=lst [0,1,2,3,4,5,6,7,8,9,10,11,12,13] 15) (s1:=aI 33 [(6,(.ptr 0 0)),(10,(.ptr 1 0)),(31,(eB x28.2.2))]) (h1:=[some ⟨135,(aXk 4 0).map (eI .u64)⟩,some ⟨135,x28.2.1.map (eI .u64)⟩]) ?_ (fun J=> ?_)
 ·refine aXl (n:=0) (i:=14) (by decide +kernel) rfl (gS (v:=(eB x28.2.2)) (sv (pS rfl)))<|aXF (by decide +kernel) ?_
  refine zz ?_
  obtain rfl:=sj hr
  exact iE Tryz.results165 bJ (zG [])
 refine aXy (n:=4) [10,11] (by decide +kernel) (by decide) ?_
 refine(aXt rfl (gS (v:=(.ptr 6 0)) (h':=[some ⟨135,va.map (eI .u64)⟩,some ⟨135,b.map (eI .u64)⟩,some ⟨135,vm.map (eI .u64)⟩,some ⟨135,(aXk 4 0).map (eI .u64)⟩,some ⟨135,x19.1.map (eI .u64)⟩,some ⟨135,x19.2.map (eI .u64)⟩,some ⟨135,(aXk 4 0).map (eI .u64)⟩]) (sv (cY b8 rfl rfl rfl))) ?_ (aXt rfl (gS (v:=(.ptr 6 0)) (h':=[some ⟨135,va.map (eI .u64)⟩,some ⟨135,b.map (eI .u64)⟩,some ⟨135,vm.map (eI .u64)⟩,some ⟨135,(aXk 4 0).map (eI .u64)⟩,some ⟨135,x19.1.map (eI .u64)⟩,some ⟨135,x19.2.map (eI .u64)⟩,some ⟨135,(aXk 4 0).map (eI .u64)⟩]) (sv (cY b8 rfl rfl rfl))) ?_ aXC))
 ·refine aXl (n:=3) (i:=11) (by decide +kernel) rfl (gS (v:=(.ptr 7 0)) (h':=[some ⟨135,va.map (eI .u64)⟩,some ⟨135,b.map (eI .u64)⟩,some ⟨135,vm.map (eI .u64)⟩,some ⟨135,(aXk 4 0).map (eI .u64)⟩,some ⟨135,x19.1.map (eI .u64)⟩,some ⟨135,x19.2.map (eI .u64)⟩,some ⟨135,(aXk 4 0).map (eI .u64)⟩,some ⟨135,(aXk 4 0).map (eI .u64)⟩]) (sv (cY b8 rfl rfl rfl)))<|aXl (n:=2) (i:=12) (by decide +kernel) rfl (gN (h':=[some ⟨135,va.map (eI .u64)⟩,some ⟨135,b.map (eI .u64)⟩,some ⟨135,vm.map (eI .u64)⟩,some ⟨135,(aXk 4 0).map (eI .u64)⟩,some ⟨135,x19.1.map (eI .u64)⟩,some ⟨135,x19.2.map (eI .u64)⟩,some ⟨135,x28.1.map (eI .u64)⟩,some ⟨135,(aXk 4 0).map (eI .u64)⟩]) (sv (bO rfl rfl (stA (E:=(eI .u64)) (l:=aXk 4 0) b8 rfl rfl (fun _=>rfl) rfl (bH h_12) rfl)))) ?_
  refine aXl (n:=1) (i:=13) (by decide +kernel) rfl (gN (h':=[some ⟨135,va.map (eI .u64)⟩,some ⟨135,b.map (eI .u64)⟩,some ⟨135,vm.map (eI .u64)⟩,some ⟨135,(aXk 4 0).map (eI .u64)⟩,some ⟨135,x19.1.map (eI .u64)⟩,some ⟨135,x19.2.map (eI .u64)⟩,some ⟨135,x28.1.map (eI .u64)⟩,some ⟨135,x28.2.1.map (eI .u64)⟩]) (sv (bO rfl rfl (stA (E:=(eI .u64)) (l:=aXk 4 0) b8 rfl rfl (fun _=>rfl) rfl (bH h_13) rfl)))) ?_
  exact aXz (by decide +kernel) (by decide +kernel) (zG [3,7]) J
 refine aXl (n:=3) (i:=10) (by decide +kernel) rfl (gS (v:=(.ptr 7 0)) (h':=[some ⟨135,va.map (eI .u64)⟩,some ⟨135,b.map (eI .u64)⟩,some ⟨135,vm.map (eI .u64)⟩,some ⟨135,(aXk 4 0).map (eI .u64)⟩,some ⟨135,x19.1.map (eI .u64)⟩,some ⟨135,x19.2.map (eI .u64)⟩,some ⟨135,(aXk 4 0).map (eI .u64)⟩,some ⟨135,(aXk 4 0).map (eI .u64)⟩]) (sv (cY b8 rfl rfl rfl)))<|aXl (n:=2) (i:=12) (by decide +kernel) rfl (gN (h':=[some ⟨135,va.map (eI .u64)⟩,some ⟨135,b.map (eI .u64)⟩,some ⟨135,vm.map (eI .u64)⟩,some ⟨135,(aXk 4 0).map (eI .u64)⟩,some ⟨135,x19.1.map (eI .u64)⟩,some ⟨135,x19.2.map (eI .u64)⟩,some ⟨135,(aXk 4 0).map (eI .u64)⟩,some ⟨135,x28.1.map (eI .u64)⟩]) (sv (bO rfl rfl (stA (E:=(eI .u64)) (l:=aXk 4 0) b8 rfl rfl (fun _=>rfl) rfl (bH h_12) rfl)))) ?_
 refine aXl (n:=1) (i:=13) (by decide +kernel) rfl (gN (h':=[some ⟨135,va.map (eI .u64)⟩,some ⟨135,b.map (eI .u64)⟩,some ⟨135,vm.map (eI .u64)⟩,some ⟨135,(aXk 4 0).map (eI .u64)⟩,some ⟨135,x19.1.map (eI .u64)⟩,some ⟨135,x19.2.map (eI .u64)⟩,some ⟨135,x28.2.1.map (eI .u64)⟩,some ⟨135,x28.1.map (eI .u64)⟩]) (sv (bO rfl rfl (stA (E:=(eI .u64)) (l:=aXk 4 0) b8 rfl rfl (fun _=>rfl) rfl (bH h_13) rfl)))) ?_
 exact aXz (by decide +kernel) (by decide +kernel) (zG [3,6]) J
theorem aEm {N:Nat}{va b:List Int}{r:(List Int)}(hr:xI N va b=some r):
  Vm.Fn Tryz.prog 152 [] [(.agg (va.map (eI .u64))),(.agg (b.map (eI .u64)))] (.agg (r.map (eI .u64))) []:=by
 refine zf Tryz.func152 Tryz.ntmps152 ?_
 unfold xI at hr
 refine zz ?_
 refine aXn ?_
 obtain⟨q,h_1,hr⟩:=aD hr
 obtain⟨q_1,h_2,hr⟩:=aD hr
 obtain⟨x7,h_3,hr⟩:=aD hr
 obtain⟨x8,h_5,hr⟩:=aD hr
 obtain⟨q_2,h_7,hr⟩:=aD hr
 refine aXA mixed [164,165] [] [[0,1,2,3,4]] ?_
 refine zz ?_
 refine xu (aEi h_3)<|xu (aKb h_5) ?_
 refine zz ?_
 obtain rfl:=sj hr
 exact iE Tryz.results152 bJ (zG [])
theorem aD8 {N:Nat}{va ve:List Int}{r:(List Int)}(hr:yS N va ve=some r):
  Vm.Fn Tryz.prog 154 [] [(.agg (va.map (eI .u64))),(.agg (ve.map (eI .u64)))] (.agg (r.map (eI .u64))) []:=by
 refine zf Tryz.func154 Tryz.ntmps154 ?_
 unfold yS at hr
 obtain⟨x9,h_1,hr⟩:=aD hr
 obtain⟨q,h_2,hr⟩:=aD hr
 refine zz ?_
 refine xp (rF h_1) ?_
 obtain⟨q_1,h_3,hr⟩:=aD hr
 obtain⟨b4,h_4,hr⟩:=aD hr
 refine zz ?_
 refine xp (aNQ h_4) ?_
 refine zz ?_
 refine aXq fun K1 hK1 hG1=> ?_
 have J1: ∀(l1:List Int),aBg N l1=some r→K1 (aI 37 [(4,(.ptr 0 0)),(5,(.ptr 1 0))]) [some ⟨135,(aXk 4 0).map (eI .u64)⟩,some ⟨135,l1.map (eI .u64)⟩]:=by
  intro l1 hr
  unfold aBg at hr
  refine hK1 _ _ ?_
  obtain⟨q_2,h_5,hr⟩:=aD hr
  refine zz ?_
  obtain rfl:=sj hr
  exact iE Tryz.results154 bJ (zG [])
 obtain⟨bL,hL2,hr⟩:=aD hr
 refine zz ?_
 refine aXp<|aXx (fun m s h=> ∃(dA:Int)(l3:List Int),mL N va ve b4 m dA l3=some bL∧Ghost 0 s h (aI 37 [(2,(.ptr 0 0)),(3,(.ptr 1 0)),(4,(.ptr 2 0)),(5,(.ptr 3 0)),(6,(eI .i64 b4)),(12,(eI .i64 b4)),(13,(eI .i64 dA))]) [some ⟨135,va.map (eI .u64)⟩,some ⟨135,ve.map (eI .u64)⟩,some ⟨135,(aXk 4 0).map (eI .u64)⟩,some ⟨135,l3.map (eI .u64)⟩]) (n:=N) ⟨0,x9,hL2,(zG [0,1,2,3])⟩ (by rintro s h ⟨_,_,h0,_⟩;simp[mL]at h0) ?_
 rintro m2 s h ⟨dA,l3,hr2,hg⟩
 refine aXw hg ?_
 clear hg hL2
 rw[mL]at hr2
 refine zz ?_
 refine aXn ?_
 refine zk hr2 rfl (fun h6 hr2=> ?_) (fun h6 hr2=> ?_)
 ·refine zz ?_
  refine aXq fun K3 hK3 hG3=> ?_
  have J3: ∀(e9:List Int),uK N va ve b4 dA (mL N va ve b4 m2) e9=some bL→K3 (aI 37 [(2,(.ptr 0 0)),(3,(.ptr 1 0)),(4,(.ptr 2 0)),(5,(.ptr 3 0)),(6,(eI .i64 b4)),(12,(eI .i64 b4)),(13,(eI .i64 dA))]) [some ⟨135,va.map (eI .u64)⟩,some ⟨135,ve.map (eI .u64)⟩,some ⟨135,(aXk 4 0).map (eI .u64)⟩,some ⟨135,e9.map (eI .u64)⟩]:=by
   intro e9 hr2
   unfold uK at hr2
   refine hK3 _ _ ?_
   refine zz ?_
   exact⟨aXj.wrap (dA+1),e9,hr2,(zG [0,1,2,3])⟩
  refine aXp ?_
  obtain⟨q_3,h_7,hr2⟩:=aD hr2
  obtain⟨bV,h_8,hr2⟩:=aD hr2
  obtain⟨q_4,h_9,hr2⟩:=aD hr2
  refine zz ?_
  refine xp (aEm h_8) ?_
  obtain⟨x25,h_10,hr2⟩:=aD hr2
  obtain⟨x29,h_11,hr2⟩:=aD hr2
  refine zz ?_
  refine zk hr2 rfl (fun h12 hr2=> ?_) (fun h12 hr2=> ?_)
  ·obtain⟨q_5,h_13,hr2⟩:=aD hr2
   obtain⟨cU,h_14,hr2⟩:=aD hr2
   obtain⟨q_6,h_15,hr2⟩:=aD hr2
   refine zz ?_
   refine xp (aEm h_14) ?_
   refine zz ?_
   exact hG3 _ _ _ _ (zG [0,1,2,3]) (J3 cU hr2)
  refine zz ?_
  exact hG3 _ _ _ _ (zG [0,1,2,3]) (J3 bV hr2)
 refine zz ?_
 obtain rfl:=sj hr2
 refine zz ?_
 exact hG1 _ _ _ _ (zG [2,3]) (J1 l3 hr)
theorem aJu {N:Nat}{va:List Int}{r:Bool}(hr:rR N va=some r):
  Vm.Fn Tryz.prog 148 [] [(.agg (va.map (eI .u64)))] (eB r) []:=by
 refine zf Tryz.func148 Tryz.ntmps148 ?_
 unfold rR at hr
 refine zz ?_
 refine aXn ?_
 refine aXq fun K1 hK1 hG1=> ?_
 have J1: ∀(b4:Bool),mT N va b4=some r→K1 (aI 17 [(1,(.ptr 0 0)),(11,(eB b4))]) [some ⟨135,va.map (eI .u64)⟩]:=by
  intro b4 hr
  unfold mT at hr
  refine hK1 _ _ ?_
  refine zk hr rfl (fun h1 hr=> ?_) (fun h1 hr=> ?_)
  ·refine zz ?_
   obtain rfl:=sj hr
   exact bE Tryz.results148 []
  refine zz ?_
  refine aXn ?_
  obtain⟨q,h_2,hr⟩:=aD hr
  obtain⟨dA,h_3,hr⟩:=aD hr
  obtain⟨bQ,h_5,hr⟩:=aD hr
  obtain⟨x15,h_7,hr⟩:=aD hr
  obtain⟨q_1,h_9,hr⟩:=aD hr
  obtain⟨q_2,h_10,hr⟩:=aD hr
  refine aXA mixed [147,151,154] [] [[0,1,2,3,4,5]] ?_
  refine zz ?_
  refine xu (z5 h_3)<|xu (aD8 h_5)<|xu (rF h_7) ?_
  refine zz ?_
  obtain rfl:=sj hr
  exact bE Tryz.results148 []
 obtain⟨q_3,h_11,hr⟩:=aD hr
 rcases aXm (va == [0,0,0,0])with h12|h12
 ·replace hr:=cQ hr h12
  refine aXA mixed [163,164] [] [[0,1,2,3,4,5,6,7,8]] ?_
  refine zz ?_
  refine xw (v:=(.agg ([0,0,0,0].map (eI .u64)))) (cE rfl (nR b8 nQ rfl)) ?_
  refine zz ?_
  exact hG1 _ _ _ _ (zG [0]) (J1 true hr)
 replace hr:=cR hr h12
 obtain⟨x8,h_13,hr⟩:=aD hr
 obtain⟨x9,h_15,hr⟩:=aD hr
 refine aXA mixed [163,164] [] [[0,1,2,3,4,5,6,7,8]] ?_
 refine zz ?_
 refine xw (v:=(.agg ([0,0,0,0].map (eI .u64)))) (cE rfl (nR b8 nQ rfl)) ?_
 refine zz ?_
 refine xu (aEi h_13)<|xu (wB h_15) ?_
 refine zz ?_
 exact hG1 _ _ _ _ (zG [0]) (J1 (decide (0≤x9)) hr)
theorem aGr {N:Nat}{p:List Int}{r:Bool}(hr:sR N p=some r):
  Vm.Fn Tryz.prog 134 [] [(.agg (p.map (eI .u64)))] (eB r) []:=by
 refine zf Tryz.func134 Tryz.ntmps134 ?_
 unfold sR at hr
 refine zz ?_
 refine aXq fun K1 hK1 hG1=> ?_
 have J1: ∀(x2:Bool),aAW N x2=some r→K1 (aI 10 [(2,(eB x2))]) []:=by
  intro x2 hr
  unfold aAW at hr
  refine hK1 _ _ ?_
  refine zz ?_
  obtain rfl:=sj hr
  exact bE Tryz.results134 []
 obtain⟨q,h_1,hr⟩:=aD hr
 obtain⟨x4,h_2,hr⟩:=aD hr
 obtain⟨q_1,h_4,hr⟩:=aD hr
 rcases aXm (!(p == x4))with h5|h5
 ·replace hr:=cQ hr h5
  obtain⟨x8,h_6,hr⟩:=aD hr
  refine aXA mixed [147,148] [] [[0,1,2,3,4,5,6,7]] ?_
  refine zz ?_
  refine xu (rF h_2) ?_
  refine zz ?_
  refine xu (aJu h_6) ?_
  refine zz ?_
  exact hG1 _ _ _ _ (zG []) (J1 x8 hr)
 replace hr:=cR hr h5
 refine aXA mixed [147,148] [] [[0,1,2,3,4,5,6,7]] ?_
 refine zz ?_
 refine xu (rF h_2) ?_
 refine zz ?_
 exact hG1 _ _ _ _ (zG []) (J1 false hr)
theorem lL {N:Nat}{va:List Int}{r:Bool}(hr:qP N va=some r):
  Vm.Fn Tryz.prog 149 [] [(.agg (va.map (eI .u64)))] (eB r) []:=by
 refine zf Tryz.func149 Tryz.ntmps149 ?_
 unfold qP at hr
 refine zz ?_
 refine aXn ?_
 obtain⟨q,h_1,hr⟩:=aD hr
 obtain⟨x4,h_2,hr⟩:=aD hr
 obtain⟨x5,h_4,hr⟩:=aD hr
 refine aXA mixed [151,163] [] [[0,1,2,3,4]] ?_
 refine zz ?_
 refine xu (z5 h_2)<|xu (wB h_4) ?_
 refine zz ?_
 obtain rfl:=sj hr
 exact bE Tryz.results149 []
theorem aKs {N:Nat}{b:List Int}{r:(List Int)×(List Int)×Int}(hr:tP N b=some r):
  Vm.Fn Tryz.prog 135 [] [(.row none 1 (b.map (eI .u8)))] (.tup [(.agg (dL (eI .u64) r.1 (dL (eI .u64) r.2.1 []))),(eI .i64 r.2.2)]) []:=by
 refine zf Tryz.func135 Tryz.ntmps135 ?_
 unfold tP at hr
 refine zz ?_
 refine xw (v:=(.ptr 0 0)) (h':=[some ⟨139,(dL (eI .u64) (aXk 4 0) (dL (eI .u64) (aXk 4 0) []))⟩]) (cY sB rfl rfl rfl) ?_
 refine zz ?_
 refine aXn ?_
 refine zz ?_
 refine zk hr rfl (fun h1 hr=> ?_) (fun h1 hr=> ?_)
 ·refine zz ?_
  refine xw (v:=(.agg (dL (eI .u64) (aXk 4 0) (dL (eI .u64) (aXk 4 0) [])))) (cE rfl (tH sB aGb rfl)) ?_
  refine zz ?_
  obtain rfl:=sj hr
  exact oL Tryz.results135 bJ bJ (zG [])
 refine zz ?_
 refine aXn ?_
 obtain⟨cD,h_2,hr⟩:=aD hr
 obtain⟨b4,h_3,hr⟩:=aD hr
 obtain⟨dA,h_4,hr⟩:=aD hr
 obtain⟨x15,h_6,hr⟩:=aD hr
 obtain⟨x16,h_7,hr⟩:=aD hr
 obtain⟨x18,h_8,hr⟩:=aD hr
 obtain⟨q,h_10,hr⟩:=aD hr
 obtain⟨q_1,h_11,hr⟩:=aD hr
 refine aXA mixed [133] [] [[0,1,2,3,4,5,6,7,8,9,10,11,12]] ?_
 refine zz ?_
 refine xw (v:=(.eptr [.agg (b4.map (eI .u8))] 0 0)) (aFX rfl (apR (E:=(eI .u8)) wJ (fun _=>rfl) zl h_3))<|xw (v:=(.agg (b4.map (eI .u8)))) (cA rfl (aNj (E:=(eI .u8)) (l:=b4) wJ rfl (cP h_3)))<|xu (t0 h_4) ?_
 refine zz ?_
 refine xw (v:=(.eptr [.agg (x16.map (eI .u8))] 0 0)) (aFX rfl (apR (E:=(eI .u8)) wJ (fun _=>rfl) zl h_7))<|xw (v:=(.agg (x16.map (eI .u8)))) (cA rfl (aNj (E:=(eI .u8)) (l:=x16) wJ rfl (cP h_7)))<|xu (t0 h_8)<|xw (v:=(.agg (dL (eI .u64) dA (dL (eI .u64) x18 [])))) (cE rfl (aOU (ps':=[(0,(.agg (dL (eI .u64) dA []))),(1,(.agg (dL (eI .u64) x18 [])))]) (by simp only[aFe (l:=dA) (bH h_10),aFe (l:=x18) (bH h_11)]) (tH sB aGb rfl)))<|xw (v:=(.ptr 1 0)) (h':=[some ⟨139,(dL (eI .u64) (aXk 4 0) (dL (eI .u64) (aXk 4 0) []))⟩,some ⟨139,(dL (eI .u64) (aXk 4 0) (dL (eI .u64) (aXk 4 0) []))⟩]) (cY sB rfl rfl rfl) ?_
 refine zz ?_
 refine aXn ?_
 refine aXq fun K1 hK1 hG1=> ?_
 have J1: ∀(x29:Bool),qV N dA x18 x29=some r→K1 (aI 32 [(2,(.ptr 0 0)),(4,(.ptr 1 0)),(29,(eB x29))]) [some ⟨139,(dL (eI .u64) (aXk 4 0) (dL (eI .u64) (aXk 4 0) []))⟩,some ⟨139,(dL (eI .u64) dA (dL (eI .u64) x18 []))⟩]:=by
  intro x29 hr
  unfold qV at hr
  refine hK1 _ _ ?_
  refine zk hr rfl (fun h12 hr=> ?_) (fun h12 hr=> ?_)
  ·refine zz ?_
   refine xw (v:=(.agg (dL (eI .u64) (aXk 4 0) (dL (eI .u64) (aXk 4 0) [])))) (cE rfl (tH sB aGb rfl)) ?_
   refine zz ?_
   obtain rfl:=sj hr
   exact oL Tryz.results135 bJ bJ (zG [])
  refine zz ?_
  obtain rfl:=sj hr
  exact oL Tryz.results135 bJ bJ (zG [])
 obtain⟨bV,h_13,hr⟩:=aD hr
 rcases aXm (!bV)with h14|h14
 ·replace hr:=cQ hr h14
  refine xr ?_
  refine zz ?_
  refine xp (lL h_13) ?_
  refine zz ?_
  exact hG1 _ _ _ _ (zG [0,1]) (J1 true hr)
 replace hr:=cR hr h14
 obtain⟨x27,h_15,hr⟩:=aD hr
 refine xr ?_
 refine zz ?_
 refine xp (lL h_13) ?_
 refine zz ?_
 refine xCg (v:=(eB x27)) (h':=[some ⟨139,(dL (eI .u64) (aXk 4 0) (dL (eI .u64) (aXk 4 0) []))⟩,some ⟨139,(dL (eI .u64) dA (dL (eI .u64) x18 []))⟩]) rfl rfl h14 rfl (Vm.Fn.pure (lL h_15) zR rfl) ?_
 refine zz ?_
 exact hG1 _ _ _ _ (zG [0,1]) (J1 (!x27) hr)
theorem aKM {N:Nat}{ve:List Int}{r:(List Int)}(hr:wE N ve=some r):
  Vm.Fn Tryz.prog 153 [] [(.agg (ve.map (eI .u64)))] (.agg (r.map (eI .u64))) []:=by
 refine zf Tryz.func153 Tryz.ntmps153 ?_
 unfold wE at hr
 refine zz ?_
 refine aXn ?_
 obtain⟨x3,h_1,hr⟩:=aD hr
 obtain⟨q,h_3,hr⟩:=aD hr
 obtain⟨x5,h_4,hr⟩:=aD hr
 obtain⟨q_1,h_6,hr⟩:=aD hr
 refine aXA mixed [147,154] [] [[0,1,2,3]]<|xu (rF h_1) ?_
 refine zz ?_
 refine xu (aD8 h_4) ?_
 refine zz ?_
 obtain rfl:=sj hr
 exact iE Tryz.results153 bJ (zG [])
theorem aGm {N:Nat}{va:List Int}{r:(List Int)}(hr:vM N va=some r):
  Vm.Fn Tryz.prog 169 [] [(.agg (va.map (eI .u64)))] (.agg (r.map (eI .u8))) []:=by
 refine zf Tryz.func169 Tryz.ntmps169 ?_
 unfold vM at hr
 refine zz ?_
 refine aXq fun K1 hK1 hG1=> ?_
 have J1: ∀(l1:List Int),aAS N l1=some r→K1 (aI 23 [(2,(.ptr 0 0)),(3,(.ptr 1 0))]) [some ⟨28,(aXk 32 0).map (eI .u8)⟩,some ⟨28,l1.map (eI .u8)⟩]:=by
  intro l1 hr
  unfold aAS at hr
  refine hK1 _ _ ?_
  obtain⟨q,h_1,hr⟩:=aD hr
  refine zz ?_
  obtain rfl:=sj hr
  exact iE Tryz.results169 bJ (zG [])
 obtain⟨bL,hL2,hr⟩:=aD hr
 refine zz ?_
 refine aXp<|aXx (fun m s h=> ∃(x5:Int)(l2:List Int),k6 N va m x5 l2=some bL∧Ghost 0 s h (aI 23 [(1,(.ptr 0 0)),(2,(.ptr 1 0)),(3,(.ptr 2 0)),(5,(eI .i64 x5))]) [some ⟨135,va.map (eI .u64)⟩,some ⟨28,(aXk 32 0).map (eI .u8)⟩,some ⟨28,l2.map (eI .u8)⟩]) (n:=N) ⟨0,aXk 32 0,hL2,(zG [0,1,2])⟩ (by rintro s h ⟨_,_,h0,_⟩;simp[k6]at h0) ?_
 rintro m2 s h ⟨x5,l2,hr2,hg⟩
 refine aXw hg ?_
 clear hg hL2
 rw[k6]at hr2
 refine zz ?_
 refine aXn ?_
 refine zk hr2 rfl (fun h2 hr2=> ?_) (fun h2 hr2=> ?_)
 ·refine zz ?_
  refine aXn<|aXp ?_
  obtain⟨fR,h_3,hr2⟩:=aD hr2
  obtain⟨x18,h_4,hr2⟩:=aD hr2
  obtain⟨bT,h_5,hr2⟩:=aD hr2
  refine zz ?_
  exact⟨aXj.wrap (x5+1),l2.set (aXv x5) (aXG.wrap x18),hr2,(zG [0,1,2])⟩
 refine zz ?_
 obtain rfl:=sj hr2
 refine zz ?_
 exact hG1 _ _ _ _ (zG [1,2]) (J1 l2 hr)
theorem aNB {N:Nat}{parts:List (List Int)}{r:(List Int)}(hr:aA2 N parts=some r):
  Vm.Fn Tryz.prog 168 [] [(.row none 32 (parts.map (eA (eI .u8))))] (.sl 0 0 r.length 1 false) [some ⟨5,r.map (eI .u8)⟩]:=by
 refine zf Tryz.func168 Tryz.ntmps168 ?_
 unfold aA2 at hr
 refine zz ?_
 refine aXq fun K1 hK1 hG1=> ?_
 have J1: ∀(l0:List Int),aFc N l0=some r→K1 (aI 17 [(3,(.sl 0 0 l0.length 1 false))]) [some ⟨5,l0.map (eI .u8)⟩]:=by
  intro l0 hr
  unfold aFc at hr
  refine hK1 _ _ ?_
  refine zz ?_
  obtain rfl:=sj hr
  exact bE Tryz.results168 [0]
 obtain⟨bL,hL2,hr⟩:=aD hr
 refine zz ?_
 refine aXp<|aXx (fun m s h=> ∃(x8:Int)(aS:List Int),qI N parts m x8 aS=some bL∧Ghost 0 s h (aI 17 [(3,(.sl 0 0 aS.length 1 false)),(6,(.row none 32 (parts.map (eA (eI .u8))))),(7,(eI .i64 (parts.length:Int))),(8,(eI .i64 x8))]) [some ⟨5,aS.map (eI .u8)⟩]) (n:=N) ⟨0,[],hL2,(zW 5 [0])⟩ (by rintro s h ⟨_,_,h0,_⟩;simp[qI]at h0) ?_
 rintro m2 s h ⟨x8,aS,hr2,hg⟩
 refine aXw hg ?_
 clear hg hL2
 rw[qI]at hr2
 refine zz ?_
 refine aXn ?_
 refine zk hr2 rfl (fun h1 hr2=> ?_) (fun h1 hr2=> ?_)
 ·refine zz ?_
  refine aXn<|aXp ?_
  obtain⟨cD,h_2,hr2⟩:=aD hr2
  obtain⟨q,h_3,hr2⟩:=aD hr2
  refine zz ?_
  refine xw (v:=(.agg (cD.map (eI .u8)))) (cA rfl (aWr (E:=(eI .u8)) wJ rfl h_2 (bH h_3))) ?_
  obtain⟨bQ,h_4,hr2⟩:=aD hr2
  refine zz ?_
  exact⟨aXj.wrap (x8+1),bQ,hr2,(zG [2])⟩
 refine zz ?_
 obtain rfl:=sj hr2
 refine zz ?_
 exact hG1 _ _ _ _ (zG [0]) (J1 aS hr)
theorem aNP {N:Nat}{va b:List Int}{r:(List Int)×Bool}(hr:y9 N va b=some r):
  Vm.Fn Tryz.prog 181 [] [(.agg (va.map (eI .u64))),(.agg (b.map (eI .u64)))] (.tup [(.agg (r.1.map (eI .u64))),(eB r.2)]) []:=by
 refine zf Tryz.func181 Tryz.ntmps181 ?_
 unfold y9 at hr
 refine zz ?_
 refine aXq fun K1 hK1 hG1=> ?_
 have J1: ∀(lA:Int)(l1:List Int),aAx N lA l1=some r→K1 (aI 29 [(4,(.ptr 0 0)),(6,(.ptr 1 0)),(7,(eI .u64 lA))]) [some ⟨135,(aXk 4 0).map (eI .u64)⟩,some ⟨135,l1.map (eI .u64)⟩]:=by
  intro lA l1 hr
  unfold aAx at hr
  refine hK1 _ _ ?_
  obtain⟨q,h_1,hr⟩:=aD hr
  refine zz ?_
  obtain rfl:=sj hr
  exact oL Tryz.results181 bJ bJ (lU [])
 obtain⟨bL,hL2,hr⟩:=aD hr
 refine zz ?_
 refine aXp<|aXx (fun m s h=> ∃(carry_1 x9:Int)(l3:List Int),kT N va b m carry_1 x9 l3=some bL∧Ghost 0 s h (aI 29 [(2,(.ptr 0 0)),(3,(.ptr 1 0)),(4,(.ptr 2 0)),(6,(.ptr 3 0)),(7,(eI .u64 carry_1)),(9,(eI .i64 x9))]) [some ⟨135,va.map (eI .u64)⟩,some ⟨135,b.map (eI .u64)⟩,some ⟨135,(aXk 4 0).map (eI .u64)⟩,some ⟨135,l3.map (eI .u64)⟩]) (n:=N) ⟨0,0,aXk 4 0,hL2,(zG [0,1,2,3])⟩ (by rintro s h ⟨_,_,_,h0,_⟩;simp[kT]at h0) ?_
 rintro m2 s h ⟨carry_1,x9,l3,hr2,hg⟩
 refine aXw hg ?_
 clear hg hL2
 rw[kT]at hr2
 refine zz ?_
 refine aXn ?_
 refine zk hr2 rfl (fun h2 hr2=> ?_) (fun h2 hr2=> ?_)
 ·refine zz ?_
  refine aXn<|aXp ?_
  obtain⟨x15,h_3,hr2⟩:=aD hr2
  obtain⟨x18,h_4,hr2⟩:=aD hr2
  obtain⟨d5,h_5,hr2⟩:=aD hr2
  obtain⟨fG,h_7,hr2⟩:=aD hr2
  refine zz ?_
  refine aXA mixed [171] [] [[0,1,2,3,4,5,6,7,8,9,10,11,12,13,14]] ?_
  refine zz ?_
  refine xu (lO h_5) ?_
  refine zz ?_
  exact⟨d5.2,aXj.wrap (x9+1),l3.set (aXv x9) d5.1,hr2,(zG [0,1,2,3])⟩
 refine zz ?_
 obtain rfl:=sj hr2
 refine zz ?_
 exact hG1 _ _ _ _ (zG [2,3]) (J1 carry_1 l3 hr)
theorem aKD {N:Nat}{va b vm:List Int}{r:(List Int)}(hr:aAi N va b vm=some r):
  Vm.Fn Tryz.prog 180 [] [(.agg (va.map (eI .u64))),(.agg (b.map (eI .u64))),(.agg (vm.map (eI .u64)))] (.agg (r.map (eI .u64))) []:=by
 refine zf Tryz.func180 Tryz.ntmps180 ?_
 unfold aAi at hr
 refine zz ?_
 refine aXn ?_
 obtain⟨q,h_1,hr⟩:=aD hr
 refine zz ?_
 refine xw (v:=(.agg ([0,0,0,0].map (eI .u64)))) (cE rfl (nR b8 nQ rfl)) ?_
 refine zz ?_
 refine zk hr rfl (fun h2 hr=> ?_) (fun h2 hr=> ?_)
 ·refine zz ?_
  refine xw (v:=(.agg ([0,0,0,0].map (eI .u64)))) (cE rfl (nR b8 nQ rfl)) ?_
  refine zz ?_
  obtain rfl:=sj hr
  exact iE Tryz.results180 bJ (zG [])
 refine zz ?_
 refine aXn ?_
 obtain⟨q_1,h_3,hr⟩:=aD hr
 obtain⟨x16,h_4,hr⟩:=aD hr
 obtain⟨q_2,h_6,hr⟩:=aD hr
 obtain⟨x19,h_7,hr⟩:=aD hr
 obtain⟨bT,h_9,hr⟩:=aD hr
 obtain⟨q_3,h_11,hr⟩:=aD hr
 refine aXA mixed [176,181] [] [[0,1,2,3,4,5,6,7,8,9,10,11,12]] ?_
 refine zz ?_
 refine xu (aCF h_4) ?_
 refine zz ?_
 refine xu (aCF h_7)<|xu (aNP h_9) ?_
 refine zz ?_
 refine aXq fun K1 hK1 hG1=> ?_
 have J1: ∀(l1:List Int),oC N l1=some r→K1 (aI 37 [(6,(.ptr 0 0)),(7,(.ptr 1 0))]) [some ⟨135,(aXk 4 0).map (eI .u64)⟩,some ⟨135,l1.map (eI .u64)⟩]:=by
  intro l1 hr
  unfold oC at hr
  refine hK1 _ _ ?_
  obtain⟨q_4,h_12,hr⟩:=aD hr
  refine zz ?_
  obtain rfl:=sj hr
  exact iE Tryz.results180 bJ (zG [])
 refine aXq fun K2 hK2 hG2=> ?_
 have J2: ∀(x29:Bool),nY N vm bT x29=some r→K2 (aI 37 [(5,(.ptr 0 0)),(6,(.ptr 1 0)),(7,(.ptr 2 0)),(29,(eB x29))]) [some ⟨135,vm.map (eI .u64)⟩,some ⟨135,(aXk 4 0).map (eI .u64)⟩,some ⟨135,bT.1.map (eI .u64)⟩]:=by
  intro x29 hr
  unfold nY at hr
  refine hK2 _ _ ?_
  refine zk hr rfl (fun h13 hr=> ?_) (fun h13 hr=> ?_)
  ·obtain⟨iA,h_14,hr⟩:=aD hr
   obtain⟨q_5,h_15,hr⟩:=aD hr
   refine zz ?_
   refine xp (aE3 h_14) ?_
   refine zz ?_
   exact hG1 _ _ _ _ (zG [1,2]) (J1 iA.1 hr)
  refine zz ?_
  exact hG1 _ _ _ _ (zG [1,2]) (J1 bT.1 hr)
 rcases aXm bT.2 with h16|h16
 ·replace hr:=cQ hr h16
  refine xr ?_
  refine zz ?_
  exact hG2 _ _ _ _ (zG [2,3,4]) (J2 true hr)
 replace hr:=cR hr h16
 obtain⟨x27,h_17,hr⟩:=aD hr
 refine xr ?_
 refine zz ?_
 refine xCg (v:=(eI .i64 x27)) (h':=[some ⟨135,va.map (eI .u64)⟩,some ⟨135,b.map (eI .u64)⟩,some ⟨135,vm.map (eI .u64)⟩,some ⟨135,(aXk 4 0).map (eI .u64)⟩,some ⟨135,bT.1.map (eI .u64)⟩]) rfl rfl h16 rfl (Vm.Fn.pure (wB h_17) zR rfl) ?_
 refine zz ?_
 exact hG2 _ _ _ _ (zG [2,3,4]) (J2 (decide (0≤x27)) hr)
theorem aGy {N:Nat}{va b:List Int}{r:(List Int)}(hr:pH N va b=some r):
  Vm.Fn Tryz.prog 178 [] [(.agg (va.map (eI .u64))),(.agg (b.map (eI .u64)))] (.agg (r.map (eI .u64))) []:=by
 refine zf Tryz.func178 Tryz.ntmps178 ?_
 unfold pH at hr
 refine zz ?_
 refine aXn ?_
 obtain⟨q,h_1,hr⟩:=aD hr
 obtain⟨q_1,h_2,hr⟩:=aD hr
 obtain⟨x7,h_3,hr⟩:=aD hr
 obtain⟨x8,h_5,hr⟩:=aD hr
 obtain⟨q_2,h_7,hr⟩:=aD hr
 refine aXA mixed [151,180] [] [[0,1,2,3,4]] ?_
 refine zz ?_
 refine xu (z5 h_3)<|xu (aKD h_5) ?_
 refine zz ?_
 obtain rfl:=sj hr
 exact iE Tryz.results178 bJ (zG [])
theorem aJf {N:Nat}{vh:List Int}{r:(List Int)}(hr:rX N vh=some r):
  Vm.Fn Tryz.prog 167 [] [(.agg (vh.map (eI .u8)))] (.agg (r.map (eI .u64))) []:=by
 refine zf Tryz.func167 Tryz.ntmps167 ?_
 unfold rX at hr
 obtain⟨q,h_1,hr⟩:=aD hr
 obtain⟨x4,h_2,hr⟩:=aD hr
 obtain⟨x6,h_3,hr⟩:=aD hr
 obtain⟨q_1,h_4,hr⟩:=aD hr
 refine zz ?_
 refine xp (t0 h_2)<|xw (v:=(.agg ([0,0,0,0].map (eI .u64)))) (cE rfl (nR b8 nQ rfl))<|xp (aGy h_3) ?_
 refine zz ?_
 obtain rfl:=sj hr
 exact iE Tryz.results167 bJ (zG [])
theorem aHJ {N:Nat}{vr p vm:List Int}{r:(List Int)}(hr:oH N vr p vm=some r):
  Vm.Fn Tryz.prog 155 [] [(.agg (vr.map (eI .u64))),(.agg (p.map (eI .u64))),(.agg (vm.map (eI .u8)))] (.agg (r.map (eI .u64))) []:=by
 refine zf Tryz.func155 Tryz.ntmps155 ?_
 unfold oH at hr
 refine zz ?_
 refine aXn ?_
 obtain⟨q,h_1,hr⟩:=aD hr
 obtain⟨x8,h_2,hr⟩:=aD hr
 obtain⟨q_1,h_4,hr⟩:=aD hr
 obtain⟨cD,h_5,hr⟩:=aD hr
 obtain⟨q_2,h_7,hr⟩:=aD hr
 obtain⟨q_3,h_8,hr⟩:=aD hr
 obtain⟨q_4,h_9,hr⟩:=aD hr
 obtain⟨dA,h_10,hr⟩:=aD hr
 obtain⟨bQ,h_12,hr⟩:=aD hr
 obtain⟨x15,h_14,hr⟩:=aD hr
 obtain⟨q_5,h_16,hr⟩:=aD hr
 refine aXA mixed [167,169] [29,168] [[0,1,2,3,4,5],[6,7,8,9]] ?_
 refine zz ?_
 refine xu (aGm h_2) ?_
 refine zz ?_
 refine xu (aGm h_5) ?_
 refine zz ?_
 refine xw (v:=(.sl 4 0 3 32 true)) (h':=[some ⟨135,vr.map (eI .u64)⟩,some ⟨135,p.map (eI .u64)⟩,some ⟨28,vm.map (eI .u8)⟩,some ⟨135,(aXk 4 0).map (eI .u64)⟩,some ⟨28,[x8,cD,vm].flatMap (aGf (eI .u8))⟩]) (pT rfl (aVm (ps':=[(0,.agg (aGf (eI .u8) x8)),(1,.agg (aGf (eI .u8) cD)),(2,.agg (aGf (eI .u8) vm))]) (by simp only[aRY,aGf,u9 (l:=x8) (bH h_8),u9 (l:=cD) (bH h_9),u9 (l:=vm) (bH h_7)]) (aDM (len:=3) (C:=(aGf (eI .u8))) (xs:=[x8,cD,vm]) (K:=32) (fun _=>rfl) (fun _=>rfl) aSw wJ ⟨zl,zl,zl⟩ rfl rfl rfl rfl rfl rfl))) ?_
 refine zz ?_
 refine⟨_,_,(aXP (fr':=[(0,(.agg (vr.map (eI .u64)))),(1,(.agg (p.map (eI .u64)))),(2,(.agg (vm.map (eI .u8)))),(3,(.ptr 0 0)),(4,(.ptr 1 0)),(5,(.ptr 2 0)),(6,(.ptr 3 0)),(7,(.agg (vr.map (eI .u64)))),(8,(.agg (x8.map (eI .u8)))),(9,(.agg (p.map (eI .u64)))),(10,(.agg (cD.map (eI .u8)))),(11,(.agg (vm.map (eI .u8)))),(12,(.row none 32 ([x8,cD,vm].map (eA (eI .u8)))))]) (h':=[some ⟨135,vr.map (eI .u64)⟩,some ⟨135,p.map (eI .u64)⟩,some ⟨28,vm.map (eI .u8)⟩,some ⟨135,(aXk 4 0).map (eI .u64)⟩,none]) (aXu rfl (aXo (aQ rfl)) (aXu rfl (aXo (aQ rfl)) (aXu rfl (aXo (aQ rfl)) (aXu rfl (aXo (aQ rfl)) (aXu rfl (aXo (aQ rfl)) (aXu rfl (aXo (aQ rfl)) (aXu rfl (aXo (aQ rfl)) (aXu rfl (aXo (aQ rfl)) (aXu rfl (aXo (aQ rfl)) (aXu rfl (aXo (aQ rfl)) (aXu rfl (aXo (aQ rfl)) (aXu rfl (aXo (aQ rfl)) (aXu rfl (Conv.rowKA (C:=(aGf (eI .u8))) (E:=(eI .u8)) (fun _=>rfl) (fun _=>rfl) (fun _=>rfl) (aXD.2 ⟨u9 (bH h_8),aXD.2 ⟨u9 (bH h_9),aXD.2 ⟨u9 (bH h_7),List.forall_mem_nil _⟩⟩⟩) (aQ rfl) rfl rfl rfl) FCv.nil))))))))))))) (aXJ (aXH (aQ rfl)) (all_map (fun _=>rfl) _) (aXJ (aXH (aQ rfl)) (all_map (fun _=>rfl) _) (aXJ (aXH (aQ rfl)) (all_map (fun _=>rfl) _) (aXJ (aXH (aQ rfl)) (all_map (fun _=>rfl) _) (HCv.dead HCv.nil)))))), ?_⟩
 refine zg (aNB h_10) [] ?_
 refine zgL (aGl h_12) [] [5] ?_
 refine xu (aJf h_14) ?_
 refine zz ?_
 obtain rfl:=sj hr
 exact iE Tryz.results155 bJ (zG [])
theorem aKJ {N:Nat}{p vm s_E s_S:List Int}{r:Bool}(hr:tM N p vm s_E s_S=some r):
  Vm.Fn Tryz.prog 136 [] [(.agg (p.map (eI .u64))),(.agg (vm.map (eI .u8))),(.agg (dL (eI .u64) s_E (dL (eI .u64) s_S [])))] (eB r) []:=by
 refine zf Tryz.func136 Tryz.ntmps136 ?_
 unfold tM at hr
 refine zz ?_
 refine aXn ?_
 refine aXq fun K1 hK1 hG1=> ?_
 have J1: ∀(fG:Bool),kD N p vm s_E s_S fG=some r→K1 (aI 46 [(3,(.ptr 0 0)),(4,(.ptr 1 0)),(5,(.ptr 2 0)),(24,(eB fG))]) [some ⟨135,p.map (eI .u64)⟩,some ⟨28,vm.map (eI .u8)⟩,some ⟨139,(dL (eI .u64) s_E (dL (eI .u64) s_S []))⟩]:=by
  intro fG hr
  unfold kD at hr
  refine hK1 _ _ ?_
  refine zk hr rfl (fun h1 hr=> ?_) (fun h1 hr=> ?_)
  ·refine zz ?_
   obtain rfl:=sj hr
   exact bE Tryz.results136 []
  refine zz ?_
  refine aXn ?_
  obtain⟨x26,h_2,hr⟩:=aD hr
  obtain⟨q,h_4,hr⟩:=aD hr
  obtain⟨x29,h_5,hr⟩:=aD hr
  obtain⟨q_1,h_7,hr⟩:=aD hr
  refine aXA mixed [150,151] [] [[0,1,2,3,4,5,6,7,8,9]]<|xu (z5 h_2) ?_
  refine zz ?_
  refine xu (aE3 h_5) ?_
  refine zz ?_
  refine aXn ?_
  obtain⟨q_2,h_8,hr⟩:=aD hr
  obtain⟨cU,h_9,hr⟩:=aD hr
  obtain⟨q_3,h_11,hr⟩:=aD hr
  obtain⟨x37,h_12,hr⟩:=aD hr
  obtain⟨x38,h_14,hr⟩:=aD hr
  obtain⟨q_4,h_16,hr⟩:=aD hr
  refine aXA mixed [152,153,154] [] [[0,1,2,3,4,5,6,7,8]] ?_
  refine zz ?_
  refine xu (aKM h_9) ?_
  refine zz ?_
  refine xu (aD8 h_12)<|xu (aEm h_14) ?_
  refine zz ?_
  refine aXn ?_
  obtain⟨q_5,h_17,hr⟩:=aD hr
  obtain⟨x44,h_18,hr⟩:=aD hr
  obtain⟨q_6,h_20,hr⟩:=aD hr
  refine aXA mixed [155] [] [[0,1,2,3,4,5,6,7]] ?_
  refine zz ?_
  refine xu (aHJ h_18) ?_
  refine zz ?_
  obtain rfl:=sj hr
  exact bE Tryz.results136 []
 obtain⟨q_7,h_21,hr⟩:=aD hr
 obtain⟨fR,h_22,hr⟩:=aD hr
 rcases aXm (!fR)with h23|h23
 ·replace hr:=cQ hr h23
  refine xr ?_
  refine zz ?_
  refine xp (lL h_22) ?_
  refine zz ?_
  refine xX rfl<|xX rfl<|xX rfl ?_
  refine zz ?_
  exact hG1 _ _ _ _ (zG [0,1,2]) (J1 true hr)
 replace hr:=cR hr h23
 obtain⟨q_8,h_24,hr⟩:=aD hr
 obtain⟨x17,h_25,hr⟩:=aD hr
 rcases aXm (!x17)with h26|h26
 ·replace hr:=cQ hr h26
  refine xr ?_
  refine zz ?_
  refine xp (lL h_22) ?_
  refine zz ?_
  refine xCg (v:=(eB x17)) (h':=[some ⟨135,p.map (eI .u64)⟩,some ⟨28,vm.map (eI .u8)⟩,some ⟨139,(dL (eI .u64) s_E (dL (eI .u64) s_S []))⟩]) rfl rfl h23 rfl (Vm.Fn.pure (lL h_25) zR rfl) ?_
  refine zz ?_
  exact hG1 _ _ _ _ (zG [0,1,2]) (J1 true hr)
 replace hr:=cR hr h26
 obtain⟨q_9,h_27,hr⟩:=aD hr
 obtain⟨bV,h_28,hr⟩:=aD hr
 refine xr ?_
 refine zz ?_
 refine xp (lL h_22) ?_
 refine zz ?_
 refine xCg (v:=(eB x17)) (h':=[some ⟨135,p.map (eI .u64)⟩,some ⟨28,vm.map (eI .u8)⟩,some ⟨139,(dL (eI .u64) s_E (dL (eI .u64) s_S []))⟩]) rfl rfl h23 rfl (Vm.Fn.pure (lL h_25) zR rfl) ?_
 refine zz ?_
 refine xCg (v:=(eB bV)) (h':=[some ⟨135,p.map (eI .u64)⟩,some ⟨28,vm.map (eI .u8)⟩,some ⟨139,(dL (eI .u64) s_E (dL (eI .u64) s_S []))⟩]) rfl rfl h26 rfl (Vm.Fn.pure (aGr h_28) zR rfl) ?_
 refine zz ?_
 exact hG1 _ _ _ _ (zG [0,1,2]) (J1 (!bV) hr)
theorem aEs {N:Nat}{aH:List Int}{aK aP:Int}{aN:List (List Int)}{aJ:List aO}{aY:Int}{key aDb:List Int}{r:Int}(hr:dM N aH aK aP aN aJ aY key aDb=some r):
  Vm.Fn Tryz.prog 122 [some ⟨88,(bG (eI .u8) aH [(eI .i64 aK),(eI .i64 aP),(.sl 1 0 aN.length 1 false),(.sl 2 0 aJ.length 2 true),(eI .i64 aY)])⟩,some ⟨31,aN.map (eL 1 (eI .u8))⟩,some ⟨113,aJ.flatMap aW⟩] [(.ptr 0 0),(.row none 1 (key.map (eI .u8))),(.row none 1 (aDb.map (eI .u8)))] (eI .i64 r) [some ⟨88,(bG (eI .u8) aH [(eI .i64 aK),(eI .i64 aP),(.sl 1 0 aN.length 1 false),(.sl 2 0 aJ.length 2 true),(eI .i64 aY)])⟩,some ⟨31,aN.map (eL 1 (eI .u8))⟩,some ⟨113,aJ.flatMap aW⟩]:=by
 refine zf Tryz.func122 Tryz.ntmps122 ?_
 unfold dM at hr
 refine zz ?_
 refine aXn ?_
 refine zz ?_
 refine zk hr rfl (fun h1 hr=> ?_) (fun h1 hr=> ?_)
 ·refine zz ?_
  obtain rfl:=sj hr
  exact bE Tryz.results122 [0,1,2]
 obtain⟨bQ,h_2,hr⟩:=aD hr
 obtain⟨x16,h_3,hr⟩:=aD hr
 obtain⟨q,h_4,hr⟩:=aD hr
 refine zz ?_
 refine xw (v:=(.eptr [.agg (bQ.map (eI .u8))] 0 0)) (aFX rfl (apR (E:=(eI .u8)) wJ (fun _=>rfl) zl h_2))<|xw (v:=(.agg (bQ.map (eI .u8)))) (cA rfl (aNj (E:=(eI .u8)) (l:=bQ) wJ rfl (cP h_2)))<|xp (t0 h_3) ?_
 refine zz ?_
 refine aXn ?_
 obtain⟨x18,h_5,hr⟩:=aD hr
 refine zz ?_
 refine xp (aGr h_5) ?_
 refine zz ?_
 refine zk hr rfl (fun h6 hr=> ?_) (fun h6 hr=> ?_)
 ·refine zz ?_
  obtain rfl:=sj hr
  exact bE Tryz.results122 [0,1,2]
 refine zz ?_
 refine aXn ?_
 refine zz ?_
 refine zk hr rfl (fun h7 hr=> ?_) (fun h7 hr=> ?_)
 ·refine zz ?_
  obtain rfl:=sj hr
  exact bE Tryz.results122 [0,1,2]
 obtain⟨x25,h_8,hr⟩:=aD hr
 refine zz ?_
 refine xp (aKs h_8) ?_
 refine zz ?_
 refine xw (v:=(.ptr 4 0)) (h':=[some ⟨88,(bG (eI .u8) aH [(eI .i64 aK),(eI .i64 aP),(.sl 1 0 aN.length 1 false),(.sl 2 0 aJ.length 2 true),(eI .i64 aY)])⟩,some ⟨31,aN.map (eL 1 (eI .u8))⟩,some ⟨113,aJ.flatMap aW⟩,some ⟨135,x16.map (eI .u64)⟩,some ⟨139,(dL (eI .u64) (aXk 4 0) (dL (eI .u64) (aXk 4 0) []))⟩]) (cY sB rfl rfl rfl) ?_
 refine zz ?_
 refine aXn ?_
 refine aXq fun K1 hK1 hG1=> ?_
 have J1: ∀(x40:Bool),g7 N aH aK aP aN aJ aY x40=some r→K1 (aI 41 [(40,(eB x40))]) [some ⟨88,(bG (eI .u8) aH [(eI .i64 aK),(eI .i64 aP),(.sl 1 0 aN.length 1 false),(.sl 2 0 aJ.length 2 true),(eI .i64 aY)])⟩,some ⟨31,aN.map (eL 1 (eI .u8))⟩,some ⟨113,aJ.flatMap aW⟩]:=by
  intro x40 hr
  unfold g7 at hr
  refine hK1 _ _ ?_
  refine zk hr rfl (fun h9 hr=> ?_) (fun h9 hr=> ?_)
  ·refine zz ?_
   obtain rfl:=sj hr
   exact bE Tryz.results122 [0,1,2]
  refine zz ?_
  obtain rfl:=sj hr
  exact bE Tryz.results122 [0,1,2]
 rcases aXm (x25.2.2 != 0)with h10|h10
 ·replace hr:=cQ hr h10
  refine aXA mixed [136] [] [[0,1,2,3,4,5,6,7,8,9,10,11,12]] ?_
  refine zz ?_
  exact hG1 _ _ _ _ (zG [0,1,2]) (J1 true hr)
 replace hr:=cR hr h10
 obtain⟨q_1,h_11,hr⟩:=aD hr
 obtain⟨x38,h_12,hr⟩:=aD hr
 refine aXA mixed [136] [] [[0,1,2,3,4,5,6,7,8,9,10,11,12]] ?_
 refine zz ?_
 refine xu (aKJ h_12) ?_
 refine zz ?_
 exact hG1 _ _ _ _ (zG [0,1,2]) (J1 (!x38) hr)
theorem yM {N:Nat}{aH:List Int}{aK aP:Int}{aN:List (List Int)}{aJ:List aO}{aY fO vn:Int}{r:Int×(List Int)×Int×Int×(List (List Int))×(List aO)×Int}(hr:jH N aH aK aP aN aJ aY fO vn=some r):
  Vm.Fn Tryz.prog 113 [some ⟨88,(bG (eI .u8) aH [(eI .i64 aK),(eI .i64 aP),(.sl 1 0 aN.length 1 false),(.sl 2 0 aJ.length 2 true),(eI .i64 aY)])⟩,some ⟨31,aN.map (eL 1 (eI .u8))⟩,some ⟨113,aJ.flatMap aW⟩] [(.ptr 0 0),(eI .i64 fO),(eI .i64 vn)] (eI .i64 r.1) [some ⟨88,(bG (eI .u8) r.2.1 [(eI .i64 r.2.2.1),(eI .i64 r.2.2.2.1),(.sl 3 0 r.2.2.2.2.1.length 1 false),(.sl 4 0 r.2.2.2.2.2.1.length 2 true),(eI .i64 r.2.2.2.2.2.2)])⟩,none,none,some ⟨31,r.2.2.2.2.1.map (eL 1 (eI .u8))⟩,some ⟨113,r.2.2.2.2.2.1.flatMap aW⟩]:=by
 refine zf Tryz.func113 Tryz.ntmps113 ?_
 unfold jH at hr
 refine zz ?_
 refine aXn ?_
 obtain⟨iD,h_1,hr⟩:=aD hr
 refine aXA mixed [] [] [[0,1,2,3,4,5,6,7,8,9,10,11,12]] ?_
 refine zz ?_
 refine xw (v:=(.sl 1 (aXv (aXj.wrap ((aN.length:Int)-vn))*1) iD.length 1 false)) (cW rfl rfl rfl (aUQ (l:=aN) rfl aB8 dB rfl rfl rfl h_1)) ?_
 refine zz ?_
 refine aXn ?_
 obtain⟨x43,h_2,hr⟩:=aD hr
 refine aXA mixed [] [] [[0,1,2,3,4,5,6,7,8,9,10,11,12,13,14,15,16,17,18,19,20]] ?_
 refine zz ?_
 refine xw (v:=(.sl 1 (aXv (aXj.wrap ((aN.length:Int)-(aXj.wrap (2*vn))))*1) x43.length 1 false)) (cW rfl rfl rfl (aUQ (l:=aN) rfl aB8 dB rfl rfl rfl h_2)) ?_
 refine zz ?_
 refine aXq fun K1 hK1 hG1=> ?_
 have J1: ∀(count:Int),lY N aH aK aP aN aJ aY fO vn count=some r→K1 (aI 78 [(0,(.ptr 0 0)),(1,(eI .i64 fO)),(2,(eI .i64 vn)),(9,(eI .i64 count))]) [some ⟨88,(bG (eI .u8) aH [(eI .i64 aK),(eI .i64 aP),(.sl 1 0 aN.length 1 false),(.sl 2 0 aJ.length 2 true),(eI .i64 aY)])⟩,some ⟨31,aN.map (eL 1 (eI .u8))⟩,some ⟨113,aJ.flatMap aW⟩]:=by
  intro count hr
  unfold lY at hr
  refine hK1 _ _ ?_
  obtain⟨x76,h_3,hr⟩:=aD hr
  obtain⟨x77,h_4,hr⟩:=aD hr
  refine zz ?_
  refine zc (aCk h_3) [] ?_
  refine aXI (zv 3) ?_
  refine zc (lR h_4) [0,1,2] ?_
  refine zz ?_
  obtain rfl:=sj hr
  exact bE Tryz.results113 [0,1,2,4,5]
 obtain⟨bL,hL2,hr⟩:=aD hr
 refine zz ?_
 refine aXp<|aXx (fun m s h=> ∃(count_1 x45:Int),dQ N aH aK aP aN aJ aY fO vn iD x43 m count_1 x45=some bL∧Ghost 3 s h (aI 78 [(0,(.ptr 0 0)),(1,(eI .i64 fO)),(2,(eI .i64 vn)),(7,(.sl 1 (aXv (aXj.wrap ((aN.length:Int)-vn))*1) iD.length 1 false)),(8,(.sl 1 (aXv (aXj.wrap ((aN.length:Int)-(aXj.wrap (2*vn))))*1) x43.length 1 false)),(9,(eI .i64 count_1)),(44,(eI .i64 vn)),(45,(eI .i64 x45))]) [some ⟨88,(bG (eI .u8) aH [(eI .i64 aK),(eI .i64 aP),(.sl 1 0 aN.length 1 false),(.sl 2 0 aJ.length 2 true),(eI .i64 aY)])⟩,some ⟨31,aN.map (eL 1 (eI .u8))⟩,some ⟨113,aJ.flatMap aW⟩]) (n:=N) ⟨0,0,hL2,(zG [0,1,2])⟩ (by rintro s h ⟨_,_,h0,_⟩;simp[dQ]at h0) ?_
 rintro m2 s h ⟨count_1,x45,hr2,hg⟩
 refine aXw hg ?_
 clear hg hL2
 rw[dQ]at hr2
 refine zz ?_
 refine aXn ?_
 refine zk hr2 rfl (fun h5 hr2=> ?_) (fun h5 hr2=> ?_)
 ·refine zz ?_
  refine aXq fun K3 hK3 hG3=> ?_
  have J3: ∀(aDZ:Int),jN N aH aK aP aN aJ aY fO vn iD x43 x45 (dQ N aH aK aP aN aJ aY fO vn iD x43 m2) aDZ=some bL→K3 (aI 78 [(0,(.ptr 0 0)),(1,(eI .i64 fO)),(2,(eI .i64 vn)),(7,(.sl 1 (aXv (aXj.wrap ((aN.length:Int)-vn))*1) iD.length 1 false)),(8,(.sl 1 (aXv (aXj.wrap ((aN.length:Int)-(aXj.wrap (2*vn))))*1) x43.length 1 false)),(9,(eI .i64 aDZ)),(44,(eI .i64 vn)),(45,(eI .i64 x45))]) [some ⟨88,(bG (eI .u8) aH [(eI .i64 aK),(eI .i64 aP),(.sl 1 0 aN.length 1 false),(.sl 2 0 aJ.length 2 true),(eI .i64 aY)])⟩,some ⟨31,aN.map (eL 1 (eI .u8))⟩,some ⟨113,aJ.flatMap aW⟩]:=by
   intro aDZ hr2
   unfold jN at hr2
   refine hK3 _ _ ?_
   refine zz ?_
   exact⟨aDZ,aXj.wrap (x45+1),hr2,(zG [0,1,2])⟩
  refine aXp ?_
  refine zz ?_
  refine aXn<|aXn ?_
  obtain⟨x51,h_6,hr2⟩:=aD hr2
  obtain⟨x55,h_7,hr2⟩:=aD hr2
  obtain⟨x57,h_8,hr2⟩:=aD hr2
  refine aXA mixed [] [122] [[0,1,2,3,4,5,6,7,8,9,10]] ?_
  refine zz ?_
  refine xw (v:=(.ptr 1 (aXv (aXj.wrap ((aN.length:Int)-vn))+aXv x45))) (aDs rfl rfl (iaY rfl aB8 dB rfl h_6))<|xw (v:=(.row none 1 (x51.map (eI .u8)))) (cA rfl (ldY (E:=(eL 1 (eI .u8))) (l:=aN) (y:=x51) dB rfl rfl h_1 h_6)) ?_
  refine zz ?_
  refine xw (v:=(.ptr 1 (aXv (aXj.wrap ((aN.length:Int)-(aXj.wrap (2*vn))))+aXv x45))) (aDs rfl rfl (iaY rfl aB8 dB rfl h_7))<|xw (v:=(.row none 1 (x55.map (eI .u8)))) (cA rfl (ldY (E:=(eL 1 (eI .u8))) (l:=aN) (y:=x55) dB rfl rfl h_2 h_7))<|zg (aEs h_8) [0,1,2] ?_
  refine zz ?_
  refine zk hr2 rfl (fun h10 hr2=> ?_) (fun h10 hr2=> ?_)
  ·refine zz ?_
   obtain rfl:=sj hr2
   obtain rfl:=sj hr
   exact bE Tryz.results113 [0,1,2,1,2]
  refine zz ?_
  refine xw (v:=(.ptr 1 (aXv (aXj.wrap ((aN.length:Int)-(aXj.wrap (2*vn))))+aXv x45))) (aDs rfl rfl (iaY rfl aB8 dB rfl h_7))<|xw (v:=(.row none 1 (x55.map (eI .u8)))) (cA rfl (ldY (E:=(eL 1 (eI .u8))) (l:=aN) (y:=x55) dB rfl rfl h_2 h_7)) ?_
  refine zz ?_
  refine zk hr2 rfl (fun h11 hr2=> ?_) (fun h11 hr2=> ?_)
  ·refine zz ?_
   exact hG3 _ _ _ _ (zG [0,1,2]) (J3 (aXj.wrap (count_1+1)) hr2)
  refine zz ?_
  exact hG3 _ _ _ _ (zG [0,1,2]) (J3 count_1 hr2)
 refine zz ?_
 obtain rfl:=sj hr2
 refine zz ?_
 exact hG1 _ _ _ _ (zG [0,1,2]) (J1 count_1 hr)
theorem aIa {N:Nat}{b:List Int}{r:Int×Int}(hr:k8 N b=some r):
  Vm.Fn Tryz.prog 123 [] [(.row none 1 (b.map (eI .u8)))] (.tup [(eI .u32 r.1),(eI .i64 r.2)]) []:=by
 refine zf Tryz.func123 Tryz.ntmps123 ?_
 unfold k8 at hr
 refine zz ?_
 refine aXn ?_
 refine aXq fun K1 hK1 hG1=> ?_
 have J1: ∀(iD:Bool),gG N b iD=some r→K1 (aI 40 [(0,(.row none 1 (b.map (eI .u8)))),(23,(eB iD))]) []:=by
  intro iD hr
  unfold gG at hr
  refine hK1 _ _ ?_
  refine zk hr rfl (fun h1 hr=> ?_) (fun h1 hr=> ?_)
  ·refine zz ?_
   obtain rfl:=sj hr
   exact kG Tryz.results123 []
  refine zz ?_
  refine aXq fun K2 hK2 hG2=> ?_
  have J2: ∀(vn:Int),vB N vn=some r→K2 (aI 40 [(4,(eI .u32 vn))]) []:=by
   intro vn hr
   unfold vB at hr
   refine hK2 _ _ ?_
   refine zz ?_
   obtain rfl:=sj hr
   exact kG Tryz.results123 []
  obtain⟨wL,hL3,hr⟩:=aD hr
  refine zz ?_
  refine aXp<|aXx (fun m s h=> ∃(eC x26:Int),iL N b m eC x26=some wL∧Ghost 0 s h (aI 40 [(4,(eI .u32 eC)),(24,(.row none 1 (b.map (eI .u8)))),(25,(eI .i64 (b.length:Int))),(26,(eI .i64 x26))]) []) (n:=N) ⟨0,0,hL3,(zG [])⟩ (by rintro s h ⟨_,_,h0,_⟩;simp[iL]at h0) ?_
  rintro m3 s h ⟨eC,x26,hr3,hg⟩
  refine aXw hg ?_
  clear hg hL3
  rw[iL]at hr3
  refine zz ?_
  refine aXn ?_
  refine zk hr3 rfl (fun h2 hr3=> ?_) (fun h2 hr3=> ?_)
  ·refine zz ?_
   refine aXn<|aXp ?_
   obtain⟨x29,h_3,hr3⟩:=aD hr3
   obtain⟨x36,h_4,hr3⟩:=aD hr3
   refine zz ?_
   exact⟨bits .or .u32 eC x36,aXj.wrap (x26+1),hr3,(zG [])⟩
  refine zz ?_
  obtain rfl:=sj hr3
  refine zz ?_
  exact hG2 _ _ _ _ (zG []) (J2 eC hr)
 rcases aXm (decide (4<(b.length:Int)))with h5|h5
 ·replace hr:=cQ hr h5
  refine xr ?_
  refine zz ?_
  exact hG1 _ _ _ _ (zG []) (J1 true hr)
 replace hr:=cR hr h5
 rcases aXm (decide (0<(b.length:Int)))with h6|h6
 ·replace hr:=cQ hr h6
  obtain⟨x19,h_7,hr⟩:=aD hr
  refine xr ?_
  refine zz ?_
  exact hG1 _ _ _ _ (zG []) (J1 (x19 == 0) hr)
 replace hr:=cR hr h6
 refine xr ?_
 refine zz ?_
 exact hG1 _ _ _ _ (zG []) (J1 false hr)
theorem aEe {N:Nat}{gM:List Int}{now r:Int}(hr:nG N gM now=some r):
  Vm.Fn Tryz.prog 114 [] [(.row none 1 (gM.map (eI .u8))),(eI .i64 now)] (eI .i64 r) []:=by
 refine zf Tryz.func114 Tryz.ntmps114 ?_
 unfold nG at hr
 obtain⟨x9,h_1,hr⟩:=aD hr
 refine zz ?_
 refine xp (aIa h_1) ?_
 refine zz ?_
 refine aXn ?_
 refine zz ?_
 refine zk hr rfl (fun h2 hr=> ?_) (fun h2 hr=> ?_)
 ·refine zz ?_
  obtain rfl:=sj hr
  exact bE Tryz.results114 []
 refine zz ?_
 refine aXn ?_
 refine zz ?_
 refine zk hr rfl (fun h3 hr=> ?_) (fun h3 hr=> ?_)
 ·refine zz ?_
  obtain rfl:=sj hr
  exact bE Tryz.results114 []
 refine zz ?_
 obtain rfl:=sj hr
 exact bE Tryz.results114 []
theorem aEF {N:Nat}{aH:List Int}{aK aP:Int}{aN:List (List Int)}{aJ:List aO}{aY bB:Int}{cC:List Int}{eU eJ:Int}{r:Int×(List Int)×Int×Int×(List (List Int))×(List aO)×Int}(hr:mU N aH aK aP aN aJ aY bB cC eU eJ=some r):
  Vm.Fn Tryz.prog 89 [some ⟨88,(bG (eI .u8) aH [(eI .i64 aK),(eI .i64 aP),(.sl 1 0 aN.length 1 false),(.sl 2 0 aJ.length 2 true),(eI .i64 aY)])⟩,some ⟨31,aN.map (eL 1 (eI .u8))⟩,some ⟨113,aJ.flatMap aW⟩] [(.ptr 0 0),(.agg [(eI .i64 bB),(.row none 1 (cC.map (eI .u8))),(eI .i64 eU),(eI .i64 eJ)])] (eI .i64 r.1) [some ⟨88,(bG (eI .u8) r.2.1 [(eI .i64 r.2.2.1),(eI .i64 r.2.2.2.1),(.sl 3 0 r.2.2.2.2.1.length 1 false),(.sl 4 0 r.2.2.2.2.2.1.length 2 true),(eI .i64 r.2.2.2.2.2.2)])⟩,none,none,some ⟨31,r.2.2.2.2.1.map (eL 1 (eI .u8))⟩,some ⟨113,r.2.2.2.2.2.1.flatMap aW⟩]:=by
 refine zf Tryz.func89 Tryz.ntmps89 ?_
 unfold mU at hr
 refine zz ?_
 refine aXq fun K1 hK1 hG1=> ?_
 have J1: ∀(c0:List Int)(yG yB wK:Int)(l3:List (List Int))(l4:List aO),dW N c0 yG yB wK l3 l4=some r→K1 (aI 150 []) [some ⟨88,(bG (eI .u8) c0 [(eI .i64 yG),(eI .i64 yB),(.sl 3 0 l3.length 1 false),(.sl 4 0 l4.length 2 true),(eI .i64 wK)])⟩,none,none,some ⟨31,l3.map (eL 1 (eI .u8))⟩,some ⟨113,l4.flatMap aW⟩]:=by
  intro c0 yG yB wK l3 l4 hr
  unfold dW at hr
  refine hK1 _ _ ?_
  refine zz ?_
  obtain rfl:=sj hr
  exact bE Tryz.results89 [0,1,2,3,4]
 refine zz ?_
 refine aXp ?_
 refine zz ?_
 refine zk hr rfl (fun h1 hr=> ?_) (fun h1 hr=> ?_)
 ·obtain⟨bQ,h_2,hr⟩:=aD hr
  refine zz ?_
  refine zc (tI h_2) [0,1,2] ?_
  refine zz ?_
  obtain rfl:=sj hr
  exact bE Tryz.results89 [0,1,2,4,5]
 refine zz ?_
 refine zk hr rfl (fun h3 hr=> ?_) (fun h3 hr=> ?_)
 ·obtain⟨x19,h_4,hr⟩:=aD hr
  obtain⟨bT,h_5,hr⟩:=aD hr
  refine zz ?_
  refine zc (eN h_4) [0,1,2] ?_
  refine zc (tI h_5) [0,1,2] ?_
  refine zz ?_
  obtain rfl:=sj hr
  exact bE Tryz.results89 [0,1,2,4,5]
 refine zz ?_
 refine zk hr rfl (fun h6 hr=> ?_) (fun h6 hr=> ?_)
 ·obtain⟨fG,h_7,hr⟩:=aD hr
  refine zz ?_
  refine zc (oO h_7) [0,1,2] ?_
  refine zz ?_
  exact hG1 _ _ _ _ (zG [0,1,2,4,5]) (J1 fG.1 fG.2.1 fG.2.2.1 fG.2.2.2.2.2 fG.2.2.2.1 fG.2.2.2.2.1 hr)
 refine zz ?_
 refine zk hr rfl (fun h8 hr=> ?_) (fun h8 hr=> ?_)
 ·obtain⟨x50,h_9,hr⟩:=aD hr
  obtain⟨x58,h_10,hr⟩:=aD hr
  obtain⟨x61,h_11,hr⟩:=aD hr
  refine zz ?_
  refine aXA mixed [] [] [[0,1,2,3,4,5,6,7,8,9,10,11,12,13,14,15,16,17,18,19,20,21,22,23,24,25,26,27,28,29,30,31]] ?_
  refine zz ?_
  exact hG1 _ _ _ _ (lU [0,1,2,1,2]) (J1 aH aK aP aY ((aN.set (aXv (aXj.wrap ((aN.length:Int)-1))) x50).set (aXv (aXj.wrap ((aN.length:Int)-2))) x58) aJ hr)
 refine zz ?_
 refine zk hr rfl (fun h12 hr=> ?_) (fun h12 hr=> ?_)
 ·obtain⟨x66,h_13,hr⟩:=aD hr
  obtain⟨x77,h_15,hr⟩:=aD hr
  obtain⟨x79,h_16,hr⟩:=aD hr
  obtain⟨x80,h_18,hr⟩:=aD hr
  obtain⟨x81,h_20,hr⟩:=aD hr
  refine aXA mixed [111] [87,110] [[0,1,2,3,4,5,6,7,8,9,10,11,12,13,14,15,16],[17]] ?_
  refine zz ?_
  refine zg (eN h_13) [0,1,2] ?_
  refine zz ?_
  refine xu (aJN h_16)<|zg (aCk h_18) [] ?_
  refine zz ?_
  refine⟨_,_,(zv 4), ?_⟩
  refine zg (lR h_20) [0,1,2] ?_
  refine zz ?_
  exact hG1 _ _ _ _ (zG [0,1,2,5,6]) (J1 x81.1 x81.2.1 x81.2.2.1 x81.2.2.2.2.2 x81.2.2.2.1 x81.2.2.2.2.1 hr)
 refine zz ?_
 refine zk hr rfl (fun h22 hr=> ?_) (fun h22 hr=> ?_)
 ·obtain⟨x86,h_23,hr⟩:=aD hr
  obtain⟨x87,h_24,hr⟩:=aD hr
  obtain⟨x89,h_25,hr⟩:=aD hr
  obtain⟨x90,h_26,hr⟩:=aD hr
  refine zz ?_
  refine zc (eN h_23) [0,1,2] ?_
  refine xp (xB h_24) ?_
  refine zz ?_
  refine zc (aCk h_25) [] ?_
  refine aXI (zv 4) ?_
  refine zc (lR h_26) [0,1,2] ?_
  refine zz ?_
  exact hG1 _ _ _ _ (zG [0,1,2,5,6]) (J1 x90.1 x90.2.1 x90.2.2.1 x90.2.2.2.2.2 x90.2.2.2.1 x90.2.2.2.2.1 hr)
 refine zz ?_
 refine zk hr rfl (fun h27 hr=> ?_) (fun h27 hr=> ?_)
 ·refine aXn ?_
  obtain⟨x94,h_28,hr⟩:=aD hr
  obtain⟨x95,h_29,hr⟩:=aD hr
  refine zz ?_
  refine zc (eN h_28) [0,1,2] ?_
  refine xp (xB h_29) ?_
  refine zz ?_
  refine zk hr rfl (fun h30 hr=> ?_) (fun h30 hr=> ?_)
  ·refine zz ?_
   obtain rfl:=sj hr
   exact bE Tryz.results89 [0,1,2,1,2]
  obtain⟨x98,h_31,hr⟩:=aD hr
  refine zz ?_
  refine zc (oO h_31) [0,1,2] ?_
  refine zz ?_
  exact hG1 _ _ _ _ (zG [0,1,2,4,5]) (J1 x98.1 x98.2.1 x98.2.2.1 x98.2.2.2.2.2 x98.2.2.2.1 x98.2.2.2.2.1 hr)
 refine zz ?_
 refine zk hr rfl (fun h32 hr=> ?_) (fun h32 hr=> ?_)
 ·obtain⟨aJ5,h_33,hr⟩:=aD hr
  obtain⟨aH4,h_34,hr⟩:=aD hr
  obtain⟨q,h_35,hr⟩:=aD hr
  refine zz ?_
  refine zc (eN h_33) [0,1,2] ?_
  refine xp (aDD h_34) ?_
  obtain⟨yY,h_36,hr⟩:=aD hr
  refine zz ?_
  refine aXI (zv 4) ?_
  refine zc (lR h_36) [0,1,2] ?_
  refine zz ?_
  exact hG1 _ _ _ _ (zG [0,1,2,5,6]) (J1 yY.1 yY.2.1 yY.2.2.1 yY.2.2.2.2.2 yY.2.2.2.1 yY.2.2.2.2.1 hr)
 refine zz ?_
 refine zk hr rfl (fun h37 hr=> ?_) (fun h37 hr=> ?_)
 ·obtain⟨aMW,h_38,hr⟩:=aD hr
  obtain⟨aKo,h_39,hr⟩:=aD hr
  obtain⟨aGP,h_40,hr⟩:=aD hr
  refine zz ?_
  refine zc (eN h_38) [0,1,2] ?_
  refine zz ?_
  refine zc (aCE h_39) [] ?_
  refine aXI (zv 4) ?_
  refine zc (tI h_40) [0,1,2] ?_
  refine zz ?_
  obtain rfl:=sj hr
  exact bE Tryz.results89 [0,1,2,5,6]
 refine zz ?_
 refine zk hr rfl (fun h41 hr=> ?_) (fun h41 hr=> ?_)
 ·obtain⟨aGZ,h_42,hr⟩:=aD hr
  refine zz ?_
  refine zc (yM h_42) [0,1,2] ?_
  refine zz ?_
  obtain rfl:=sj hr
  exact bE Tryz.results89 [0,1,2,4,5]
 refine zz ?_
 refine zk hr rfl (fun h43 hr=> ?_) (fun h43 hr=> ?_)
 ·obtain⟨aG3,h_44,hr⟩:=aD hr
  refine zz ?_
  refine zc (yM h_44) [0,1,2] ?_
  refine zz ?_
  obtain rfl:=sj hr
  exact bE Tryz.results89 [0,1,2,4,5]
 refine zz ?_
 refine zk hr rfl (fun h45 hr=> ?_) (fun h45 hr=> ?_)
 ·refine aXn ?_
  obtain⟨aUr,h_46,hr⟩:=aD hr
  obtain⟨aUy,h_48,hr⟩:=aD hr
  refine aXA mixed [114] [87] [[0,1,2,3,4,5,6,7,8]] ?_
  refine zz ?_
  refine zg (eN h_46) [0,1,2] ?_
  refine zz ?_
  refine xu (aEe h_48) ?_
  refine zz ?_
  obtain rfl:=sj hr
  exact bE Tryz.results89 [0,1,2,1,2]
 refine zz ?_
 refine zk hr rfl (fun h50 hr=> ?_) (fun h50 hr=> ?_)
 ·refine aXn ?_
  obtain⟨aUs,h_51,hr⟩:=aD hr
  obtain⟨aG5,h_53,hr⟩:=aD hr
  refine aXA mixed [114] [87] [[0,1,2,3,4,5,6,7,8]] ?_
  refine zz ?_
  refine zg (eN h_51) [0,1,2] ?_
  refine zz ?_
  refine xu (aEe h_53) ?_
  refine zz ?_
  obtain rfl:=sj hr
  exact bE Tryz.results89 [0,1,2,1,2]
 refine zz ?_
 refine zk hr rfl (fun h55 hr=> ?_) (fun h55 hr=> ?_)
 ·refine zz ?_
  obtain rfl:=sj hr
  exact bE Tryz.results89 [0,1,2,1,2]
 refine zz ?_
 exact hG1 _ _ _ _ (zG [0,1,2,1,2]) (J1 aH aK aP aY aN aJ hr)
theorem aE0 {N:Nat}{aH:List Int}{aK aP:Int}{aN:List (List Int)}{aJ:List aO}{aY bB:Int}{cC:List Int}{eU eJ:Int}{r:Int×(List Int)×Int×Int×(List (List Int))×(List aO)×Int}(hr:i0 N aH aK aP aN aJ aY bB cC eU eJ=some r):
  Vm.Fn Tryz.prog 59 [some ⟨88,(bG (eI .u8) aH [(eI .i64 aK),(eI .i64 aP),(.sl 1 0 aN.length 1 false),(.sl 2 0 aJ.length 2 true),(eI .i64 aY)])⟩,some ⟨31,aN.map (eL 1 (eI .u8))⟩,some ⟨113,aJ.flatMap aW⟩] [(.ptr 0 0),(.agg [(eI .i64 bB),(.row none 1 (cC.map (eI .u8))),(eI .i64 eU),(eI .i64 eJ)])] (eI .i64 r.1) [some ⟨88,(bG (eI .u8) r.2.1 [(eI .i64 r.2.2.1),(eI .i64 r.2.2.2.1),(.sl 3 0 r.2.2.2.2.1.length 1 false),(.sl 4 0 r.2.2.2.2.2.1.length 2 true),(eI .i64 r.2.2.2.2.2.2)])⟩,none,none,some ⟨31,r.2.2.2.2.1.map (eL 1 (eI .u8))⟩,some ⟨113,r.2.2.2.2.2.1.flatMap aW⟩]:=by
 refine zf Tryz.func59 Tryz.ntmps59 ?_
 unfold i0 at hr
 obtain⟨x8,h_1,hr⟩:=aD hr
 refine zz ?_
 refine zc (aEy h_1) [0,1,2] ?_
 refine zz ?_
 refine aXq fun K1 hK1 hG1=> ?_
 have J1: ∀(counted:Bool),iR N aH aK aP aN aJ aY bB cC eU eJ counted=some r→K1 (aI 116 [(0,(.ptr 0 0)),(3,(.ptr 3 0)),(5,(eB counted))]) [some ⟨88,(bG (eI .u8) aH [(eI .i64 aK),(eI .i64 aP),(.sl 1 0 aN.length 1 false),(.sl 2 0 aJ.length 2 true),(eI .i64 aY)])⟩,some ⟨31,aN.map (eL 1 (eI .u8))⟩,some ⟨113,aJ.flatMap aW⟩,some ⟨90,[(eI .i64 bB),(.row none 1 (cC.map (eI .u8))),(eI .i64 eU),(eI .i64 eJ)]⟩]:=by
  intro counted hr
  unfold iR at hr
  refine hK1 _ _ ?_
  refine aXq fun K2 hK2 hG2=> ?_
  have J2: ∀(c0:Int),iS N aH aK aP aN aJ bB cC eU eJ counted c0=some r→K2 (aI 116 [(0,(.ptr 0 0)),(3,(.ptr 3 0)),(5,(eB counted))]) [some ⟨88,(bG (eI .u8) aH [(eI .i64 aK),(eI .i64 aP),(.sl 1 0 aN.length 1 false),(.sl 2 0 aJ.length 2 true),(eI .i64 c0)])⟩,some ⟨31,aN.map (eL 1 (eI .u8))⟩,some ⟨113,aJ.flatMap aW⟩,some ⟨90,[(eI .i64 bB),(.row none 1 (cC.map (eI .u8))),(eI .i64 eU),(eI .i64 eJ)]⟩]:=by
   intro c0 hr
   unfold iS at hr
   refine hK2 _ _ ?_
   refine zz ?_
   refine aXq fun K3 hK3 hG3=> ?_
   have J3: ∀(yG:List Int)(yB wK aCo:Int)(l3:List (List Int))(l4:List aO),gH N yG yB wK aCo l3 l4=some r→K3 (aI 116 []) [some ⟨88,(bG (eI .u8) yG [(eI .i64 yB),(eI .i64 wK),(.sl 3 0 l3.length 1 false),(.sl 4 0 l4.length 2 true),(eI .i64 aCo)])⟩,none,none,some ⟨31,l3.map (eL 1 (eI .u8))⟩,some ⟨113,l4.flatMap aW⟩]:=by
    intro yG yB wK aCo l3 l4 hr
    unfold gH at hr
    refine hK3 _ _ ?_
    refine zz ?_
    obtain rfl:=sj hr
    exact bE Tryz.results59 [0,1,2,3,4]
   refine zz ?_
   refine aXp ?_
   refine zz ?_
   refine zk hr rfl (fun h2 hr=> ?_) (fun h2 hr=> ?_)
   ·refine aXq fun K4 hK4 hG4=> ?_
    have J4: ∀(e9:List aO),kS N aH aK aP aN counted c0 e9=some r→K4 (aI 116 [(0,(.ptr 0 0)),(5,(eB counted))]) [some ⟨88,(bG (eI .u8) aH [(eI .i64 aK),(eI .i64 aP),(.sl 1 0 aN.length 1 false),(.sl 3 0 e9.length 2 true),(eI .i64 c0)])⟩,some ⟨31,aN.map (eL 1 (eI .u8))⟩,none,some ⟨113,e9.flatMap aW⟩]:=by
     intro e9 hr
     unfold kS at hr
     refine hK4 _ _ ?_
     refine zz ?_
     refine zk hr rfl (fun h3 hr=> ?_) (fun h3 hr=> ?_)
     ·obtain⟨x86,h_4,hr⟩:=aD hr
      refine zz ?_
      refine zc (oO h_4) [0,1,3] ?_
      refine zz ?_
      exact hG3 _ _ _ _ (zG [0,1,2,4,5]) (J3 x86.1 x86.2.1 x86.2.2.1 x86.2.2.2.2.2 x86.2.2.2.1 x86.2.2.2.2.1 hr)
     refine zz ?_
     exact hG3 _ _ _ _ (zG [0,1,2,1,3]) (J3 aH aK aP c0 aN e9 hr)
    rcases aXm counted with h5|h5
    ·replace hr:=cQ hr h5
     obtain⟨x76,h_6,hr⟩:=aD hr
     obtain⟨x77,h_8,hr⟩:=aD hr
     obtain⟨x81,h_10,hr⟩:=aD hr
     refine aXA mixed [33] [87] [[0,1,2,3,4,5,6,7,8,9,10,11,12,13,14,15,16,17]] ?_
     refine zz ?_
     refine zg (eN h_6) [0,1,2] ?_
     refine xu (xB h_8) ?_
     refine zz ?_
     refine xw (v:=(.sl 4 0 1 2 true)) (h':=[some ⟨88,(bG (eI .u8) aH [(eI .i64 aK),(eI .i64 aP),(.sl 1 0 aN.length 1 false),(.sl 2 0 aJ.length 2 true),(eI .i64 c0)])⟩,some ⟨31,aN.map (eL 1 (eI .u8))⟩,some ⟨113,aJ.flatMap aW⟩,some ⟨90,[(eI .i64 bB),(.row none 1 (cC.map (eI .u8))),(eI .i64 eU),(eI .i64 eJ)]⟩,some ⟨113,[(aO.mk counted x77)].flatMap aW⟩]) (pT rfl (aDM (C:=aW) (xs:=[(aO.mk counted x77)]) (K:=2) (fun _=>rfl) (fun _=>rfl) aKa aDR ⟨zl,zl,zl⟩ rfl rfl rfl rfl rfl rfl)) ?_
     refine zz ?_
     exact hG4 _ _ _ _ (zG [0,1,2,5]) (J4 x81 hr)
    replace hr:=cR hr h5
    obtain⟨aOy,h_11,hr⟩:=aD hr
    refine aXA mixed [33] [87] [[0,1,2,3,4,5,6,7,8,9,10,11,12,13,14,15,16,17]] ?_
    refine zz ?_
    refine xw (v:=(.sl 4 0 1 2 true)) (h':=[some ⟨88,(bG (eI .u8) aH [(eI .i64 aK),(eI .i64 aP),(.sl 1 0 aN.length 1 false),(.sl 2 0 aJ.length 2 true),(eI .i64 c0)])⟩,some ⟨31,aN.map (eL 1 (eI .u8))⟩,some ⟨113,aJ.flatMap aW⟩,some ⟨90,[(eI .i64 bB),(.row none 1 (cC.map (eI .u8))),(eI .i64 eU),(eI .i64 eJ)]⟩,some ⟨113,[(aO.mk counted false)].flatMap aW⟩]) (pT rfl (aDM (C:=aW) (xs:=[(aO.mk counted false)]) (K:=2) (fun _=>rfl) (fun _=>rfl) aKa aDR ⟨zl,zl,zl⟩ rfl rfl rfl rfl rfl rfl)) ?_
    refine zz ?_
    exact hG4 _ _ _ _ (zG [0,1,2,5]) (J4 aOy hr)
   refine zz ?_
   refine zk hr rfl (fun h12 hr=> ?_) (fun h12 hr=> ?_)
   ·obtain⟨x99,h_13,hr⟩:=aD hr
    refine aXA mixed [] [] [[0,1,2,3,4,5,6,7,8,9,10,11,12,13,14,15,16]] ?_
    refine zz ?_
    refine xw (v:=(eB x99.taken)) (cA rfl (aM9 (C:=aW) (K:=2) (off:=1) (fun _=>rfl) rfl h_13 zl (qG ti4 rfl rfl))) ?_
    refine zz ?_
    refine xy (h':=[some ⟨88,(bG (eI .u8) aH [(eI .i64 aK),(eI .i64 aP),(.sl 1 0 aN.length 1 false),(.sl 2 0 aJ.length 2 true),(eI .i64 c0)])⟩,some ⟨31,aN.map (eL 1 (eI .u8))⟩,some ⟨113,(aJ.set (aXv (aXj.wrap ((aJ.length:Int)-1))) (aO.mk x99.outer (!x99.taken))).flatMap aW⟩,some ⟨90,[(eI .i64 bB),(.row none 1 (cC.map (eI .u8))),(eI .i64 eU),(eI .i64 eJ)]⟩]) (bO rfl rfl (aQY (C:=aW) (K:=2) (off:=1) (fun _=>rfl) ti4 rfl h_13 rfl rfl zl rfl rfl)) ?_
    refine zz ?_
    exact hG3 _ _ _ _ (lU [0,1,2,1,2]) (J3 aH aK aP c0 aN (aJ.set (aXv (aXj.wrap ((aJ.length:Int)-1))) (aO.mk x99.outer (!x99.taken))) hr)
   refine zz ?_
   refine zk hr rfl (fun h14 hr=> ?_) (fun h14 hr=> ?_)
   ·obtain⟨aHi,h_15,hr⟩:=aD hr
    refine zz ?_
    refine xw (v:=(.sl 2 0 aHi.length 2 true)) (cW rfl rfl rfl (aJo (l:=aJ) rfl aKa aDR rfl rfl rfl h_15)) ?_
    refine aXI (Ghost.cutF (t:=113) (C:=aW) (l:=aJ) (K:=2) (h':=[some ⟨88,(bG (eI .u8) aH [(eI .i64 aK),(eI .i64 aP),(.sl 1 0 aN.length 1 false),(.sl 2 0 aJ.length 2 true),(eI .i64 c0)])⟩,some ⟨31,aN.map (eL 1 (eI .u8))⟩,some ⟨113,aHi.flatMap aW⟩,some ⟨90,[(eI .i64 bB),(.row none 1 (cC.map (eI .u8))),(eI .i64 eU),(eI .i64 eJ)]⟩]) (fun _=>rfl) rfl rfl h_15 rfl) ?_
    refine zz ?_
    exact hG3 _ _ _ _ (zG [0,1,2,1,2]) (J3 aH aK aP c0 aN aHi hr)
   refine zz ?_
   refine zk hr rfl (fun h16 hr=> ?_) (fun h16 hr=> ?_)
   ·obtain⟨x64,h_17,hr⟩:=aD hr
    refine zz ?_
    refine zc (aEF h_17) [0,1,2] ?_
    refine zz ?_
    obtain rfl:=sj hr
    exact bE Tryz.results59 [0,1,2,4,5]
   refine zz ?_
   exact hG3 _ _ _ _ (zG [0,1,2,1,2]) (J3 aH aK aP c0 aN aJ hr)
  refine zz ?_
  refine zk hr rfl (fun h18 hr=> ?_) (fun h18 hr=> ?_)
  ·refine aXn ?_
   obtain⟨x36,h_19,hr⟩:=aD hr
   refine aXA mixed [85] [] [[0,1,2,3,4,5,6,7,8,9]] ?_
   refine zz ?_
   refine xu (aJt h_19) ?_
   refine zz ?_
   refine aXn ?_
   refine zz ?_
   refine zk hr rfl (fun h21 hr=> ?_) (fun h21 hr=> ?_)
   ·refine zz ?_
    obtain rfl:=sj hr
    exact bE Tryz.results59 [0,1,2,1,2]
   refine zz ?_
   refine aXn ?_
   obtain⟨x51,h_22,hr⟩:=aD hr
   refine aXA mixed [86] [] [[0,1,2,3,4,5,6,7]] ?_
   refine zz ?_
   refine xu (aIZ h_22) ?_
   refine zz ?_
   refine zk hr rfl (fun h24 hr=> ?_) (fun h24 hr=> ?_)
   ·refine zz ?_
    obtain rfl:=sj hr
    exact bE Tryz.results59 [0,1,2,1,2]
   refine zz ?_
   exact hG2 _ _ _ _ (zG [0,1,2,3]) (J2 (aXj.wrap (aY+x36)) hr)
  refine zz ?_
  exact hG2 _ _ _ _ (zG [0,1,2,3]) (J2 aY hr)
 refine aXq fun K5 hK5 hG5=> ?_
 have J5: ∀(x16:Bool),iU N aH aK aP aN aJ aY bB cC eU eJ x8 x16=some r→K5 (aI 116 [(0,(.ptr 0 0)),(3,(.ptr 3 0)),(5,(eB x8)),(16,(eB x16))]) [some ⟨88,(bG (eI .u8) aH [(eI .i64 aK),(eI .i64 aP),(.sl 1 0 aN.length 1 false),(.sl 2 0 aJ.length 2 true),(eI .i64 aY)])⟩,some ⟨31,aN.map (eL 1 (eI .u8))⟩,some ⟨113,aJ.flatMap aW⟩,some ⟨90,[(eI .i64 bB),(.row none 1 (cC.map (eI .u8))),(eI .i64 eU),(eI .i64 eJ)]⟩]:=by
  intro x16 hr
  unfold iU at hr
  refine hK5 _ _ ?_
  refine zk hr rfl (fun h25 hr=> ?_) (fun h25 hr=> ?_)
  ·obtain⟨x27,h_26,hr⟩:=aD hr
   refine aXA mixed [] [] [[0,1,2,3,4,5,6,7,8,9,10,11,12,13]] ?_
   refine zz ?_
   refine xw (v:=(eB x27.outer)) (cA rfl (aM9 (C:=aW) (K:=2) (off:=0) (fun _=>rfl) rfl h_26 zl (qG ti4 rfl rfl))) ?_
   refine zz ?_
   exact hG1 _ _ _ _ (zG [0,1,2,3]) (J1 x27.outer hr)
  refine zz ?_
  exact hG1 _ _ _ _ (zG [0,1,2,3]) (J1 x8 hr)
 rcases aXm (bB == 15)with h27|h27
 ·replace hr:=cQ hr h27
  refine xr ?_
  refine zz ?_
  exact hG5 _ _ _ _ (zG [0,1,2,3]) (J5 true hr)
 replace hr:=cR hr h27
 refine xr ?_
 refine zz ?_
 exact hG5 _ _ _ _ (zG [0,1,2,3]) (J5 (bB == 16) hr)
theorem aLw {N:Nat}{b:List Int}{stack:List (List Int)}{fC:List Int}{gJ oQ:Int}{r:(List (List Int))×Int×Int}(hr:aBJ N b stack fC gJ oQ=some r):
  Vm.Fn Tryz.prog 32 [] [(.row none 1 (b.map (eI .u8))),(.row none 1 (stack.map (eL 1 (eI .u8)))),(.agg (bG (eI .u8) fC [(eI .i64 gJ),(eI .i64 oQ)]))] (.tup [(.sl 0 0 r.1.length 1 false),(eI .i64 r.2.1),(eI .i64 r.2.2)]) [some ⟨31,r.1.map (eL 1 (eI .u8))⟩]:=by
 refine zf Tryz.func32 Tryz.ntmps32 ?_
 unfold aBJ at hr
 obtain⟨x17,h_1,hr⟩:=aD hr
 refine zz ?_
 refine zc (aJd h_1) [] ?_
 refine zz ?_
 refine aXn ?_
 refine zz ?_
 refine zk hr rfl (fun h2 hr=> ?_) (fun h2 hr=> ?_)
 ·refine zz ?_
  obtain rfl:=sj hr
  exact zF Tryz.results32 bJ bJ bJ (zW 31 [2])
 refine zz ?_
 refine aXn ?_
 obtain⟨fG,h_3,hr⟩:=aD hr
 refine zz ?_
 refine jI (aIw h_3) [] [1] ?_
 refine zz ?_
 refine zk hr rfl (fun h4 hr=> ?_) (fun h4 hr=> ?_)
 ·refine zz ?_
  obtain rfl:=sj hr
  exact zF Tryz.results32 bJ bJ bJ (zW 31 [2])
 refine zz ?_
 refine aXn ?_
 obtain⟨x27,h_5,hr⟩:=aD hr
 refine zz ?_
 refine xp (aHN h_5) ?_
 refine zz ?_
 refine zk hr rfl (fun h6 hr=> ?_) (fun h6 hr=> ?_)
 ·refine zz ?_
  obtain rfl:=sj hr
  exact zF Tryz.results32 bJ bJ bJ (zW 31 [2])
 refine zz ?_
 refine aXn ?_
 obtain⟨eG,h_7,hr⟩:=aD hr
 refine AB.rd (fQ []) (fQ [58]) mixed<|aXl (n:=5) (i:=0) (by decide +kernel) rfl (gS (v:=(.agg (bG (eI .u8) fC [(eI .i64 gJ),(eI .i64 oQ)]))) (sv (cA rfl (ldP rfl (aDI (ds:=(bG (eI .u8) fC [(eI .i64 gJ),(eI .i64 oQ)])) aCy rfl zl rfl)))))<|aXl (n:=4) (i:=1) (by decide +kernel) rfl (gS (v:=(.row none 1 (stack.map (eL 1 (eI .u8))))) (sv (mR rfl))) ?_
 refine aXN (m:=1) (L:=lst [0,1,2,3,4] 6) (s1:=aI 50 [(9,(.sl 0 0 x17.1.length 4 true)),(11,(.ptr 1 0)),(32,(.agg (bG (eI .u8) fC [(eI .i64 gJ),(eI .i64 oQ),(.sl 2 0 eG.length 1 false),(.row (some true) 1 []),(eI .i64 0)])))]) (h1:=[some ⟨90,x17.1.flatMap cO⟩,some ⟨88,(bG (eI .u8) (aXk 32 0) [(eI .i64 0),(eI .i64 0),(.row (some true) 1 []),(.row (some true) 1 []),(eI .i64 0)])⟩,some ⟨31,eG.map (eL 1 (eI .u8))⟩]) ?_ (fun J=> ?_)
 ·refine aXl (n:=0) (i:=5) (by decide +kernel) rfl (gN (h':=[some ⟨90,x17.1.flatMap cO⟩,some ⟨88,(bG (eI .u8) fC [(eI .i64 gJ),(eI .i64 oQ),(.sl 2 0 eG.length 1 false),(.row (some true) 1 []),(eI .i64 0)])⟩,some ⟨31,eG.map (eL 1 (eI .u8))⟩]) (sv (bO rfl rfl (jE aBX rfl rfl rfl zl rfl))))<|aXF (by decide +kernel) ?_
  refine zz ?_
  refine aXq fun K1 hK1 hG1=> ?_
  have J1: ∀(c0:List Int)(yG yB wK:Int)(l1:List (List Int))(l2:List aO),aAO N c0 yG yB wK l1 l2=some r→K1 (aI 50 [(11,(.ptr 0 0))]) [some ⟨88,(bG (eI .u8) c0 [(eI .i64 yG),(eI .i64 yB),(.sl 1 0 l1.length 1 false),(.sl 2 0 l2.length 2 true),(eI .i64 wK)])⟩,some ⟨31,l1.map (eL 1 (eI .u8))⟩,some ⟨113,l2.flatMap aW⟩]:=by
   intro c0 yG yB wK l1 l2 hr
   unfold aAO at hr
   refine hK1 _ _<|aXn<|aXw (aXP (fr':=[(11,(.ptr 0 0))]) (h':=[some ⟨88,(bG (eI .u8) c0 [(eI .i64 yG),(eI .i64 yB),(.row none 1 (l1.map (eL 1 (eI .u8)))),(.sl 2 0 l2.length 2 true),(eI .i64 wK)])⟩,none,some ⟨113,l2.flatMap aW⟩]) (aXu rfl (aXo (aQ rfl)) FCv.nil) (aXJ (aQC (fun _=>aXo (aQ rfl)) (aXr (aXo (aQ rfl)) (aXr (aXo (aQ rfl)) (aXr (aXL (aQ rfl) rfl rfl (gO (fun _=>rfl)) (by first|rfl|(simp only[aXB,b7,b6];done))) (aXr (aXo (aQ rfl)) (aXr (aXo (aQ rfl)) aXE)))))) rfl (HCv.dead (aXJ (aXH (aQ rfl)) (rL (fun _=>rfl) _) HCv.nil)))) ?_
   obtain⟨x47,h_9,hr⟩:=aD hr
   refine aXA mixed [] [58] [[0,1,2,3,4,5,6,7]] ?_
   refine zz ?_
   refine zg (aA8 h_9) [] ?_
   refine zz ?_
   obtain rfl:=sj hr
   exact zd3 Tryz.results32 [3]
  obtain⟨bL,hL2,hr⟩:=aD hr
  refine zz ?_
  refine aXp<|aXx (fun m s h=> ∃(x35:Int)(aCo:List Int)(c0_5 c0_6 c0_7:Int)(jD:List (List Int))(l3:List aO),nL N x17 m x35 aCo c0_5 c0_6 c0_7 jD l3=some bL∧Ghost 0 s h (aI 50 [(11,(.ptr 0 0)),(33,(.sl 1 0 x17.1.length 4 true)),(34,(eI .i64 (x17.1.length:Int))),(35,(eI .i64 x35))]) [some ⟨88,(bG (eI .u8) aCo [(eI .i64 c0_5),(eI .i64 c0_6),(.sl 2 0 jD.length 1 false),(.sl 3 0 l3.length 2 true),(eI .i64 c0_7)])⟩,some ⟨90,x17.1.flatMap cO⟩,some ⟨31,jD.map (eL 1 (eI .u8))⟩,some ⟨113,l3.flatMap aW⟩]) (n:=N) ⟨0,fC,gJ,oQ,0,eG,[],hL2,(aXK (aXM (fr':=[(11,(.ptr 1 0)),(33,(.sl 0 0 x17.1.length 4 true)),(34,(eI .i64 (x17.1.length:Int))),(35,(eI .i64 0))]) (h1:=[some ⟨90,x17.1.flatMap cO⟩,some ⟨88,(bG (eI .u8) fC [(eI .i64 gJ),(eI .i64 oQ),(.sl 2 0 eG.length 1 false),(.sl 3 0 0 2 true),(eI .i64 0)])⟩,some ⟨31,eG.map (eL 1 (eI .u8))⟩]) 113 (FLe.same rfl (FLe.same rfl (FLe.same rfl (FLe.same rfl FLe.nil)))) (HLv.live (V.les_refl _ _) (rL (fun _=>rfl) _) (HLv.live (aSj (V.les_cons (V.le_refl _ _) (V.les_cons (V.le_refl _ _) (V.les_cons (V.le_refl _ _) (V.les_cons (V.le_virt rfl) (V.les_cons (V.le_refl _ _) V.les_nil)))))) rfl (HLv.live (V.les_refl _ _) (all_map (fun _=>rfl) _) HLv.nil)))) (lU [1,0,2,3]))⟩ (by rintro s h ⟨_,_,_,_,_,_,_,h0,_⟩;simp[nL]at h0) ?_
  rintro m2 s h ⟨x35,aCo,c0_5,c0_6,c0_7,jD,l3,hr2,hg⟩
  refine aXw hg ?_
  clear hg hL2
  rw[nL]at hr2
  refine zz ?_
  refine aXn ?_
  refine zk hr2 rfl (fun h11 hr2=> ?_) (fun h11 hr2=> ?_)
  ·refine zz ?_
   refine aXn<|aXp ?_
   obtain⟨x37,h_12,hr2⟩:=aD hr2
   refine zz ?_
   refine xw (v:=(.agg [(eI .i64 x37.Code),(.row none 1 (x37.Data.map (eI .u8))),(eI .i64 x37.M),(eI .i64 x37.N)])) (cA rfl (aOB (C:=cO) (K:=4) (fun _=>rfl) rfl h_12 (aDI (ds:=[(eI .i64 x37.Code),(.row none 1 (x37.Data.map (eI .u8))),(eI .i64 x37.M),(eI .i64 x37.N)]) aCr rfl zl rfl))) ?_
   obtain⟨x40,h_13,hr2⟩:=aD hr2
   refine zz ?_
   refine zc (aE0 h_13) [0,2,3] ?_
   refine zz ?_
   refine zk hr2 rfl (fun h14 hr2=> ?_) (fun h14 hr2=> ?_)
   ·refine zz ?_
    obtain rfl:=sj hr2
    obtain rfl:=sj hr
    exact zF Tryz.results32 bJ bJ bJ (zW 31 [7])
   refine zz ?_
   exact⟨aXj.wrap (x35+1),x40.2.1,x40.2.2.1,x40.2.2.2.1,x40.2.2.2.2.2.2,x40.2.2.2.2.1,x40.2.2.2.2.2.1,hr2,(zG [0,1,5,6])⟩
  refine zz ?_
  obtain rfl:=sj hr2
  refine zz ?_
  exact hG1 _ _ _ _ (zG [0,2,3]) (J1 aCo c0_5 c0_6 c0_7 jD l3 hr)
 refine aXy (n:=3) [2,4] (by decide +kernel) (by decide) ?_
 refine(aXt rfl (gC (v:=(.sl 2 0 eG.length 1 false)) (h':=[some ⟨54,(bG (eI .u8) fC [(eI .i64 gJ),(eI .i64 oQ)])⟩,some ⟨90,x17.1.flatMap cO⟩,some ⟨31,eG.map (eL 1 (eI .u8))⟩]) (zB (aA8 h_7) []) rfl (fun _=>⟨_,rfl⟩) (sv (mA rfl pV))) ?_ (aXt rfl (gS (v:=(.ptr 2 0)) (h':=[some ⟨54,(bG (eI .u8) fC [(eI .i64 gJ),(eI .i64 oQ)])⟩,some ⟨90,x17.1.flatMap cO⟩,some ⟨88,(bG (eI .u8) (aXk 32 0) [(eI .i64 0),(eI .i64 0),(.row (some true) 1 []),(.row (some true) 1 []),(eI .i64 0)])⟩]) (sv (cY aBX rfl rfl rfl))) ?_ aXC))
 ·refine aXl (n:=2) (i:=3) (by decide +kernel) rfl (gS (v:=(.agg (bG (eI .u8) fC [(eI .i64 gJ),(eI .i64 oQ),(.sl 2 0 eG.length 1 false),(.row (some true) 1 []),(eI .i64 0)]))) (sv (cE rfl (tH aBX aRZ rfl))))<|aXl (n:=1) (i:=4) (by decide +kernel) rfl (gS (v:=(.ptr 3 0)) (h':=[some ⟨54,(bG (eI .u8) fC [(eI .i64 gJ),(eI .i64 oQ)])⟩,some ⟨90,x17.1.flatMap cO⟩,some ⟨31,eG.map (eL 1 (eI .u8))⟩,some ⟨88,(bG (eI .u8) (aXk 32 0) [(eI .i64 0),(eI .i64 0),(.row (some true) 1 []),(.row (some true) 1 []),(eI .i64 0)])⟩]) (sv (cY aBX rfl rfl rfl))) ?_
  exact aXz (by decide +kernel) (by decide +kernel) (zG [1,3,2]) J
 refine aXl (n:=2) (i:=2) (by decide +kernel) rfl (gC (v:=(.sl 3 0 eG.length 1 false)) (h':=[some ⟨54,(bG (eI .u8) fC [(eI .i64 gJ),(eI .i64 oQ)])⟩,some ⟨90,x17.1.flatMap cO⟩,some ⟨88,(bG (eI .u8) (aXk 32 0) [(eI .i64 0),(eI .i64 0),(.row (some true) 1 []),(.row (some true) 1 []),(eI .i64 0)])⟩,some ⟨31,eG.map (eL 1 (eI .u8))⟩]) (zB (aA8 h_7) []) rfl (fun _=>⟨_,rfl⟩) (sv (mA rfl pV)))<|aXl (n:=1) (i:=3) (by decide +kernel) rfl (gS (v:=(.agg (bG (eI .u8) fC [(eI .i64 gJ),(eI .i64 oQ),(.sl 3 0 eG.length 1 false),(.row (some true) 1 []),(eI .i64 0)]))) (sv (cE rfl (tH aBX aRZ rfl)))) ?_
 exact aXz (by decide +kernel) (by decide +kernel) (zG [1,2,3]) J
theorem aGt {N:Nat}{b:List Int}{bK:List (List Int)}{fC:List Int}{gJ oQ r:Int}(hr:n7 N b bK fC gJ oQ=some r):
  Vm.Fn Tryz.prog 15 [] [(.row none 1 (b.map (eI .u8))),(.row none 1 (bK.map (eL 1 (eI .u8)))),(.agg (bG (eI .u8) fC [(eI .i64 gJ),(eI .i64 oQ)]))] (eI .i64 r) []:=by
 refine zf Tryz.func15 Tryz.ntmps15 ?_
 unfold n7 at hr
 obtain⟨bQ,h_1,hr⟩:=aD hr
 refine zz ?_
 refine zc (aLw h_1) [] ?_
 refine zz ?_
 refine aXn<|aXp ?_
 refine zz ?_
 refine zk hr rfl (fun h2 hr=> ?_) (fun h2 hr=> ?_)
 ·refine zz ?_
  obtain rfl:=sj hr
  exact bE Tryz.results15 []
 refine zz ?_
 refine zk hr rfl (fun h3 hr=> ?_) (fun h3 hr=> ?_)
 ·refine zz ?_
  obtain rfl:=sj hr
  exact bE Tryz.results15 []
 obtain⟨x28,h_4,hr⟩:=aD hr
 obtain⟨jL,h_5,hr⟩:=aD hr
 refine zz ?_
 refine xp (xB h_5) ?_
 refine zz ?_
 refine zk hr rfl (fun h6 hr=> ?_) (fun h6 hr=> ?_)
 ·refine zz ?_
  obtain rfl:=sj hr
  exact bE Tryz.results15 []
 refine zz ?_
 obtain rfl:=sj hr
 exact bE Tryz.results15 []
theorem aJR {N:Nat}{aC:Int}{aA:List aG}{aB:List aF}{aE vi:Int}{eY:List Int}{dD cL:Int}{b9:List Int}{cX:Int}{eQ:Bool}{bS r:Int}(hr:aAk N aC aA aB aE vi eY dD cL b9 cX eQ bS=some r):
  Vm.Fn Tryz.prog 7 [] [(.agg [(eI .u32 aC),(.row none 35 (aA.map aL)),(.row none 2 (aB.map aM)),(eI .u32 aE)]),(eI .i64 vi),(.agg (bG (eI .u8) eY [(eI .u32 dD),(eI .i64 cL),(.row none 1 (b9.map (eI .u8))),(eI .i64 cX),(eB eQ)])),(eI .i64 bS)] (eI .i64 r) []:=by
 refine zf Tryz.func7 Tryz.ntmps7 ?_
 unfold aAk at hr
 obtain⟨x17,h_1,hr⟩:=aD hr
 obtain⟨q,h_2,hr⟩:=aD hr
 refine zz ?_
 refine xp (aIf h_1) ?_
 refine zz ?_
 refine aXn<|aXp ?_
 refine zz ?_
 refine zk hr rfl (fun h3 hr=> ?_) (fun h3 hr=> ?_)
 ·refine zz ?_
  obtain rfl:=sj hr
  exact bE Tryz.results7 []
 refine aXn ?_
 obtain⟨x28,h_4,hr⟩:=aD hr
 refine aXA mixed [] [] [[0,1,2,3,4,5,6,7,8,9]] ?_
 refine zz ?_
 refine xw (v:=(eB (!(lS x28.Prev.Tx eY ((x28.Prev.Index == dD)&&true))))) (tD rfl rfl (aFy (d:=9) pF rfl aG0 zl aH1 rfl rfl rfl rfl rfl)) ?_
 refine zz ?_
 refine zk hr rfl (fun h5 hr=> ?_) (fun h5 hr=> ?_)
 ·refine zz ?_
  obtain rfl:=sj hr
  exact bE Tryz.results7 []
 refine aXq fun K1 hK1 hG1=> ?_
 have J1: ∀(cU:Bool),qS N aC aA aB aE vi eY dD cL b9 cX eQ bS x17 cU=some r→K1 (aI 66 [(1,(eI .i64 vi)),(3,(eI .i64 bS)),(4,(.ptr 0 0)),(6,(.ptr 1 0)),(9,(.ptr 2 0)),(34,(eB cU))]) [some ⟨26,[(eI .u32 aC),(.row none 35 (aA.map aL)),(.row none 2 (aB.map aM)),(eI .u32 aE)]⟩,some ⟨35,(bG (eI .u8) eY [(eI .u32 dD),(eI .i64 cL),(.row none 1 (b9.map (eI .u8))),(eI .i64 cX),(eB eQ)])⟩,some ⟨28,x17.1.map (eI .u8)⟩]:=by
  intro cU hr
  unfold qS at hr
  refine hK1 _ _ ?_
  refine zk hr rfl (fun h6 hr=> ?_) (fun h6 hr=> ?_)
  ·refine zz ?_
   obtain rfl:=sj hr
   exact bE Tryz.results7 []
  refine zz ?_
  refine xw (v:=(.agg (bG (eI .u8) x17.1 [(eI .i64 bS),(eI .i64 (aXj.wrap (bS-cX)))]))) (cE rfl (aOU (ps':=[(0,(.agg (bG (eI .u8) x17.1 []))),(1,(eI .i64 bS)),(2,(eI .i64 (aXj.wrap (bS-cX))))]) (by simp only[u9 (l:=x17.1) (bH h_2)]) (tH aCy aRS rfl)))<|xw (v:=(.ptr 3 0)) (h':=[some ⟨26,[(eI .u32 aC),(.row none 35 (aA.map aL)),(.row none 2 (aB.map aM)),(eI .u32 aE)]⟩,some ⟨35,(bG (eI .u8) eY [(eI .u32 dD),(eI .i64 cL),(.row none 1 (b9.map (eI .u8))),(eI .i64 cX),(eB eQ)])⟩,some ⟨28,x17.1.map (eI .u8)⟩,some ⟨54,(bG (eI .u8) (aXk 32 0) [(eI .i64 0),(eI .i64 0)])⟩]) (cY aCy rfl rfl rfl) ?_
  refine zz ?_
  refine aXn ?_
  obtain⟨x61,h_7,hr⟩:=aD hr
  obtain⟨x65,h_8,hr⟩:=aD hr
  refine aXA mixed [15] [] [[0,1,2,3,4,5,6,7,8,9,10,11]] ?_
  refine zz ?_
  refine xu (aGt h_8) ?_
  refine zz ?_
  obtain rfl:=sj hr
  exact bE Tryz.results7 []
 rcases aXm (decide (cX<0))with h10|h10
 ·replace hr:=cQ hr h10
  refine xr ?_
  refine zz ?_
  refine xX rfl<|xX rfl ?_
  refine zz ?_
  exact hG1 _ _ _ _ (zG [0,1,2]) (J1 true hr)
 replace hr:=cR hr h10
 rcases aXm (decide (bS<cX))with h11|h11
 ·replace hr:=cQ hr h11
  refine xr ?_
  refine zz ?_
  exact hG1 _ _ _ _ (zG [0,1,2]) (J1 true hr)
 replace hr:=cR hr h11
 refine xr ?_
 refine zz ?_
 exact hG1 _ _ _ _ (zG [0,1,2]) (J1 (decide (16777216<bS)) hr)
theorem pK {N:Nat}{v vn:Int}{r:(List Int)}(hr:kY N v vn=some r):
  Vm.Fn Tryz.prog 62 [] [(eI .u64 v),(eI .i64 vn)] (.sl 0 0 r.length 1 false) [some ⟨5,r.map (eI .u8)⟩]:=by
 refine zf Tryz.func62 Tryz.ntmps62 ?_
 unfold kY at hr
 obtain⟨x8,h_1,hr⟩:=aD hr
 refine zz ?_
 refine xw (v:=(.sl 0 0 x8.length 1 false)) (h':=[some ⟨5,x8.map (eI .u8)⟩]) (aKf rfl rfl (mkS (E:=(eI .u8)) (y:=0) dB dO ⟨zl,rfl,rfl⟩ rfl rfl rfl h_1 rfl rfl)) ?_
 refine zz ?_
 refine aXq fun K1 hK1 hG1=> ?_
 have J1: ∀(l0:List Int),w9 N l0=some r→K1 (aI 24 [(5,(.sl 0 0 l0.length 1 false))]) [some ⟨5,l0.map (eI .u8)⟩]:=by
  intro l0 hr
  unfold w9 at hr
  refine hK1 _ _ ?_
  refine zz ?_
  obtain rfl:=sj hr
  exact bE Tryz.results62 [0]
 obtain⟨bL,hL2,hr⟩:=aD hr
 refine zz ?_
 refine aXp<|aXx (fun m s h=> ∃(b4:Int)(aS:List Int),kP N v x8 m b4 aS=some bL∧Ghost 0 s h (aI 24 [(0,(eI .u64 v)),(5,(.sl 0 0 aS.length 1 false)),(10,(eI .i64 (x8.length:Int))),(11,(eI .i64 b4))]) [some ⟨5,aS.map (eI .u8)⟩]) (n:=N) ⟨0,x8,hL2,(zG [0])⟩ (by rintro s h ⟨_,_,h0,_⟩;simp[kP]at h0) ?_
 rintro m2 s h ⟨b4,aS,hr2,hg⟩
 refine aXw hg ?_
 clear hg hL2
 rw[kP]at hr2
 refine zz ?_
 refine aXn ?_
 refine zk hr2 rfl (fun h2 hr2=> ?_) (fun h2 hr2=> ?_)
 ·refine zz ?_
  refine aXn<|aXp ?_
  obtain⟨x19,h_3,hr2⟩:=aD hr2
  obtain⟨d5,h_4,hr2⟩:=aD hr2
  refine zz ?_
  exact⟨aXj.wrap (b4+1),aS.set (aXv b4) (aXG.wrap x19),hr2,(lU [0])⟩
 refine zz ?_
 obtain rfl:=sj hr2
 refine zz ?_
 exact hG1 _ _ _ _ (zG [0]) (J1 aS hr)
theorem fH {N:Nat}{va b:List Int}{r:(List Int)}(hr:eF N va b=some r):
  Vm.Fn Tryz.prog 61 [] [(.row none 1 (va.map (eI .u8))),(.row none 1 (b.map (eI .u8)))] (.sl 0 0 r.length 1 false) [some ⟨5,r.map (eI .u8)⟩]:=by
 refine zf Tryz.func61 Tryz.ntmps61 ?_
 unfold eF at hr
 obtain⟨b4,h_1,hr⟩:=aD hr
 refine zz ?_
 refine xw (v:=(.sl 0 0 0 1 false)) (h':=[some ⟨5,b4.map (eI .u8)⟩]) (aKf rfl rfl (mkC (E:=(eI .u8)) (y:=0) dB dO ⟨zl,rfl,rfl⟩ rfl rfl rfl h_1 rfl rfl)) ?_
 obtain⟨bQ,h_2,hr⟩:=aD hr
 obtain⟨x16,h_3,hr⟩:=aD hr
 refine zz ?_
 refine xw (v:=(.sl 1 0 bQ.length 1 false)) (h':=[none,some ⟨5,bQ.map (eI .u8)⟩]) (yC rfl rfl (aUL (E:=(eI .u8)) (Nat.zero_le _) dB dO ⟨rfl,rfl,zl⟩ rfl (aEA (fun _=>rfl)) h_2 rfl rfl)) ?_
 refine zz ?_
 obtain rfl:=sj hr
 exact bE Tryz.results61 [2]
theorem fD {N:Nat}{b:List Int}{vn:Int}{r:(List Int)}(hr:fI N b vn=some r):
  Vm.Fn Tryz.prog 36 [] [(.row none 1 (b.map (eI .u8))),(eI .u32 vn)] (.sl 0 0 r.length 1 false) [some ⟨5,r.map (eI .u8)⟩]:=by
 refine zf Tryz.func36 Tryz.ntmps36 ?_
 unfold fI at hr
 obtain⟨x8,h_1,hr⟩:=aD hr
 obtain⟨x9,h_2,hr⟩:=aD hr
 refine zz ?_
 refine zc (pK h_1) [] ?_
 refine jI (fH h_2) [] [0] ?_
 refine zz ?_
 obtain rfl:=sj hr
 exact bE Tryz.results36 [1]
theorem rY {N:Nat}{b:List Int}{vn:Int}{r:(List Int)}(hr:jR N b vn=some r):
  Vm.Fn Tryz.prog 90 [] [(.row none 1 (b.map (eI .u8))),(eI .u64 vn)] (.sl 0 0 r.length 1 false) [some ⟨5,r.map (eI .u8)⟩]:=by
 refine zf Tryz.func90 Tryz.ntmps90 ?_
 unfold jR at hr
 refine zz ?_
 refine aXn<|aXp ?_
 refine zz ?_
 refine zk hr rfl (fun h1 hr=> ?_) (fun h1 hr=> ?_)
 ·obtain⟨cD,h_2,hr⟩:=aD hr
  obtain⟨b4,h_3,hr⟩:=aD hr
  refine zz ?_
  refine zc (pK h_2) [] ?_
  refine jI (fH h_3) [] [0] ?_
  refine zz ?_
  obtain rfl:=sj hr
  exact bE Tryz.results90 [1]
 refine zz ?_
 refine zk hr rfl (fun h4 hr=> ?_) (fun h4 hr=> ?_)
 ·obtain⟨x18,h_5,hr⟩:=aD hr
  obtain⟨x19,h_6,hr⟩:=aD hr
  obtain⟨bT,h_7,hr⟩:=aD hr
  refine zz ?_
  refine zc (pK h_5) [] ?_
  refine jI (fH h_6) [] [0,1] ?_
  refine jI (fH h_7) [] [2] ?_
  refine zz ?_
  obtain rfl:=sj hr
  exact bE Tryz.results90 [3]
 refine zz ?_
 refine zk hr rfl (fun h8 hr=> ?_) (fun h8 hr=> ?_)
 ·obtain⟨x27,h_9,hr⟩:=aD hr
  obtain⟨x28,h_10,hr⟩:=aD hr
  obtain⟨x29,h_11,hr⟩:=aD hr
  refine zz ?_
  refine zc (pK h_9) [] ?_
  refine jI (fH h_10) [] [0,1] ?_
  refine jI (fH h_11) [] [2] ?_
  refine zz ?_
  obtain rfl:=sj hr
  exact bE Tryz.results90 [3]
 obtain⟨iA,h_12,hr⟩:=aD hr
 obtain⟨cU,h_13,hr⟩:=aD hr
 obtain⟨x35,h_14,hr⟩:=aD hr
 refine zz ?_
 refine zc (pK h_12) [] ?_
 refine jI (fH h_13) [] [0,1] ?_
 refine jI (fH h_14) [] [2] ?_
 refine zz ?_
 obtain rfl:=sj hr
 exact bE Tryz.results90 [3]
theorem rZ {N:Nat}{b vh:List Int}{r:(List Int)}(hr:iK N b vh=some r):
  Vm.Fn Tryz.prog 38 [] [(.row none 1 (b.map (eI .u8))),(.agg (vh.map (eI .u8)))] (.sl 0 0 r.length 1 false) [some ⟨5,r.map (eI .u8)⟩]:=by
 refine zf Tryz.func38 Tryz.ntmps38 ?_
 unfold iK at hr
 obtain⟨q,h_1,hr⟩:=aD hr
 obtain⟨x7,h_2,hr⟩:=aD hr
 refine zz ?_
 refine jI (fH h_2) [] [0] ?_
 refine zz ?_
 obtain rfl:=sj hr
 exact bE Tryz.results38 [1]
theorem aFw {N:Nat}{tG:List Int}{j9:Int}{r:(List Int)}(hr:wD N tG j9=some r):
  Vm.Fn Tryz.prog 35 [] [(.agg (bG (eI .u8) tG [(eI .u32 j9)]))] (.sl 0 0 r.length 1 false) [some ⟨5,r.map (eI .u8)⟩]:=by
 refine zf Tryz.func35 Tryz.ntmps35 ?_
 unfold wD at hr
 refine zz ?_
 refine aXn ?_
 obtain⟨q,h_1,hr⟩:=aD hr
 obtain⟨x5,h_2,hr⟩:=aD hr
 obtain⟨x8,h_4,hr⟩:=aD hr
 refine aXA mixed [] [36,38] [[0,1,2,3,4,5,6]] ?_
 refine zz ?_
 refine zg (rZ h_2) [] ?_
 refine zz ?_
 refine zgL (fD h_4) [] [1] ?_
 refine zz ?_
 obtain rfl:=sj hr
 exact bE Tryz.results35 [2]
theorem aGN {N:Nat}{b:List Int}{vn:Int}{r:(List Int)}(hr:sX N b vn=some r):
  Vm.Fn Tryz.prog 64 [] [(.row none 1 (b.map (eI .u8))),(eI .u64 vn)] (.sl 0 0 r.length 1 false) [some ⟨5,r.map (eI .u8)⟩]:=by
 refine zf Tryz.func64 Tryz.ntmps64 ?_
 unfold sX at hr
 obtain⟨x7,h_1,hr⟩:=aD hr
 obtain⟨x8,h_2,hr⟩:=aD hr
 refine zz ?_
 refine zc (pK h_1) [] ?_
 refine jI (fH h_2) [] [0] ?_
 refine zz ?_
 obtain rfl:=sj hr
 exact bE Tryz.results64 [1]
theorem aB4 {N:Nat}{b vs:List Int}{r:(List Int)}(hr:nD N b vs=some r):
  Vm.Fn Tryz.prog 63 [] [(.row none 1 (b.map (eI .u8))),(.row none 1 (vs.map (eI .u8)))] (.sl 0 0 r.length 1 false) [some ⟨5,r.map (eI .u8)⟩]:=by
 refine zf Tryz.func63 Tryz.ntmps63 ?_
 unfold nD at hr
 obtain⟨x9,h_1,hr⟩:=aD hr
 obtain⟨b4,h_2,hr⟩:=aD hr
 refine zz ?_
 refine zc (rY h_1) [] ?_
 refine zz ?_
 refine jI (fH h_2) [] [0] ?_
 refine zz ?_
 obtain rfl:=sj hr
 exact bE Tryz.results63 [1]
theorem aD5 {N:Nat}{bI:Int}{aZ:List Int}{r:(List Int)}(hr:xQ N bI aZ=some r):
  Vm.Fn Tryz.prog 37 [] [(.agg [(eI .i64 bI),(.row none 1 (aZ.map (eI .u8)))])] (.sl 0 0 r.length 1 false) [some ⟨5,r.map (eI .u8)⟩]:=by
 refine zf Tryz.func37 Tryz.ntmps37 ?_
 unfold xQ at hr
 refine zz ?_
 refine aXn ?_
 obtain⟨x6,h_1,hr⟩:=aD hr
 obtain⟨x9,h_3,hr⟩:=aD hr
 refine aXA mixed [] [63,64] [[0,1,2,3,4,5,6,7]] ?_
 refine zz ?_
 refine zg (aGN h_1) [] ?_
 refine zz ?_
 refine zgL (aB4 h_3) [] [1] ?_
 refine zz ?_
 obtain rfl:=sj hr
 exact bE Tryz.results37 [2]
theorem aJL {N:Nat}{aC:Int}{aA:List aG}{aB:List aF}{aE:Int}{bK:Bool}{r:(List Int)}(hr:zI N aC aA aB aE bK=some r):
  Vm.Fn Tryz.prog 60 [] [(.agg [(eI .u32 aC),(.row none 35 (aA.map aL)),(.row none 2 (aB.map aM)),(eI .u32 aE)]),(eB bK)] (.sl 0 0 r.length 1 false) [some ⟨5,r.map (eI .u8)⟩]:=by
 refine zf Tryz.func60 Tryz.ntmps60 ?_
 unfold zI at hr
 obtain⟨x16,h_1,hr⟩:=aD hr
 refine zz ?_
 refine zc (fD h_1) [] ?_
 obtain⟨bV,h_2,hr⟩:=aD hr
 refine zz ?_
 refine jI (rY h_2) [] [1] ?_
 refine zz ?_
 refine aXq fun K1 hK1 hG1=> ?_
 have J1: ∀(l1:List Int),wU N aC aA aB aE bK l1=some r→K1 (aI 89 [(1,(eB bK)),(2,(.ptr 0 0)),(5,(.sl 1 0 l1.length 1 false))]) [some ⟨26,[(eI .u32 aC),(.row none 35 (aA.map aL)),(.row none 2 (aB.map aM)),(eI .u32 aE)]⟩,some ⟨5,l1.map (eI .u8)⟩]:=by
  intro l1 hr
  unfold wU at hr
  refine hK1 _ _ ?_
  obtain⟨x44,h_3,hr⟩:=aD hr
  refine zz ?_
  refine jI (rY h_3) [] [1] ?_
  refine zz ?_
  refine aXq fun K2 hK2 hG2=> ?_
  have J2: ∀(cS:List Int),xH N aC aA aB aE bK cS=some r→K2 (aI 89 [(1,(eB bK)),(2,(.ptr 0 0)),(5,(.sl 1 0 cS.length 1 false))]) [some ⟨26,[(eI .u32 aC),(.row none 35 (aA.map aL)),(.row none 2 (aB.map aM)),(eI .u32 aE)]⟩,some ⟨5,cS.map (eI .u8)⟩]:=by
   intro cS hr
   unfold xH at hr
   refine hK2 _ _ ?_
   obtain⟨x60,h_4,hr⟩:=aD hr
   refine zz ?_
   refine jI (fD h_4) [] [1] ?_
   refine zz ?_
   refine aXq fun K3 hK3 hG3=> ?_
   have J3: ∀(l0:List Int),aCj N l0=some r→K3 (aI 89 [(5,(.sl 0 0 l0.length 1 false))]) [some ⟨5,l0.map (eI .u8)⟩]:=by
    intro l0 hr
    unfold aCj at hr
    refine hK3 _ _ ?_
    refine zz ?_
    obtain rfl:=sj hr
    exact bE Tryz.results60 [0]
   obtain⟨res4,hL4,hr⟩:=aD hr
   refine zz ?_
   refine aXp<|aXx (fun m s h=> ∃(x64:Int)(aS:List Int),hH N aA bK m x64 aS=some res4∧Ghost 0 s h (aI 89 [(1,(eB bK)),(5,(.sl 0 0 aS.length 1 false)),(62,(.row none 35 (aA.map aL))),(63,(eI .i64 (aA.length:Int))),(64,(eI .i64 x64))]) [some ⟨5,aS.map (eI .u8)⟩]) (n:=N) ⟨0,x60,hL4,(zG [2])⟩ (by rintro s h ⟨_,_,h0,_⟩;simp[hH]at h0) ?_
   rintro m4 s h ⟨x64,aS,hr4,hg⟩
   refine aXw hg ?_
   clear hg hL4
   rw[hH]at hr4
   refine zz ?_
   refine aXn ?_
   refine zk hr4 rfl (fun h5 hr4=> ?_) (fun h5 hr4=> ?_)
   ·refine zz ?_
    refine aXq fun K5 hK5 hG5=> ?_
    have J5: ∀(fL:List Int),wW N aA bK x64 (hH N aA bK m4) fL=some res4→K5 (aI 89 [(1,(eB bK)),(5,(.sl 0 0 fL.length 1 false)),(62,(.row none 35 (aA.map aL))),(63,(eI .i64 (aA.length:Int))),(64,(eI .i64 x64))]) [some ⟨5,fL.map (eI .u8)⟩]:=by
     intro fL hr4
     unfold wW at hr4
     refine hK5 _ _ ?_
     refine zz ?_
     exact⟨aXj.wrap (x64+1),fL,hr4,(zG [0])⟩
    refine aXp ?_
    obtain⟨x66,h_6,hr4⟩:=aD hr4
    refine zz ?_
    refine xw (v:=(.ptr 1 0)) (h':=[some ⟨5,aS.map (eI .u8)⟩,some ⟨48,(bG (eI .u8) (aXk 32 0) [(eI .u32 0),(eI .u32 0),(.row (some true) 1 [])])⟩]) (cY rG rfl rfl rfl) ?_
    refine zz ?_
    refine aXn ?_
    refine zz ?_
    refine zk hr4 rfl (fun h7 hr4=> ?_) (fun h7 hr4=> ?_)
    ·refine zz ?_
     obtain rfl:=sj hr4
     refine zz ?_
     exact hG3 _ _ _ _ (zG [0]) (J3 aS hr)
    obtain⟨x75,h_8,hr4⟩:=aD hr4
    refine zz ?_
    refine jI (rY h_8) [] [0] ?_
    obtain⟨res6,hL6,hr4⟩:=aD hr4
    refine zz ?_
    refine aXp<|aXx (fun m s h=> ∃(x79:Int)(gE:List Int),jA N aA bK x64 x66 m x79 gE=some res6∧Ghost 0 s h (aI 89 [(1,(eB bK)),(5,(.sl 0 0 gE.length 1 false)),(62,(.row none 35 (aA.map aL))),(63,(eI .i64 (aA.length:Int))),(64,(eI .i64 x64)),(77,(.row none 1 (x66.Witness.map (eL 1 (eI .u8))))),(78,(eI .i64 (x66.Witness.length:Int))),(79,(eI .i64 x79))]) [some ⟨5,gE.map (eI .u8)⟩]) (n:=N) ⟨0,x75,hL6,(zG [2])⟩ (by rintro s h ⟨_,_,h0,_⟩;simp[jA]at h0) ?_
    rintro m6 s h ⟨x79,gE,hr6,hg⟩
    refine aXw hg ?_
    clear hg hL6
    rw[jA]at hr6
    refine zz ?_
    refine aXn ?_
    refine zk hr6 rfl (fun h9 hr6=> ?_) (fun h9 hr6=> ?_)
    ·refine zz ?_
     refine aXn<|aXp ?_
     obtain⟨x81,h_10,hr6⟩:=aD hr6
     obtain⟨x85,h_11,hr6⟩:=aD hr6
     refine zz ?_
     refine jI (aB4 h_11) [] [0] ?_
     refine zz ?_
     exact⟨aXj.wrap (x79+1),x85,hr6,(zG [1])⟩
    refine zz ?_
    obtain rfl:=sj hr6
    refine zz ?_
    exact hG5 _ _ _ _ (zG [0]) (J5 gE hr4)
   refine zz ?_
   obtain rfl:=sj hr4
   refine zz ?_
   exact hG3 _ _ _ _ (zG [0]) (J3 aS hr)
  obtain⟨res7,hL7,hr⟩:=aD hr
  refine zz ?_
  refine aXp<|aXx (fun m s h=> ∃(x48:Int)(l1_2:List Int),i6 N aC aA aB aE bK m x48 l1_2=some res7∧Ghost 0 s h (aI 89 [(1,(eB bK)),(2,(.ptr 0 0)),(5,(.sl 1 0 l1_2.length 1 false)),(46,(.row none 2 (aB.map aM))),(47,(eI .i64 (aB.length:Int))),(48,(eI .i64 x48))]) [some ⟨26,[(eI .u32 aC),(.row none 35 (aA.map aL)),(.row none 2 (aB.map aM)),(eI .u32 aE)]⟩,some ⟨5,l1_2.map (eI .u8)⟩]) (n:=N) ⟨0,x44,hL7,(zG [0,2])⟩ (by rintro s h ⟨_,_,h0,_⟩;simp[i6]at h0) ?_
  rintro m7 s h ⟨x48,l1_2,hr7,hg⟩
  refine aXw hg ?_
  clear hg hL7
  rw[i6]at hr7
  refine zz ?_
  refine aXn ?_
  refine zk hr7 rfl (fun h12 hr7=> ?_) (fun h12 hr7=> ?_)
  ·refine zz ?_
   refine aXn<|aXp ?_
   obtain⟨x50,h_13,hr7⟩:=aD hr7
   obtain⟨x54,h_14,hr7⟩:=aD hr7
   obtain⟨x55,h_15,hr7⟩:=aD hr7
   refine zz ?_
   refine zc (aD5 h_14) [] ?_
   refine zz ?_
   exact⟨aXj.wrap (x48+1),x55,hr7,(zG [0,4])⟩
  refine zz ?_
  obtain rfl:=sj hr7
  refine zz ?_
  exact hG2 _ _ _ _ (zG [0,1]) (J2 l1_2 hr)
 obtain⟨res8,hL8,hr⟩:=aD hr
 refine zz ?_
 refine aXp<|aXx (fun m s h=> ∃(x26:Int)(l1_3:List Int),hZ N aC aA aB aE bK m x26 l1_3=some res8∧Ghost 0 s h (aI 89 [(1,(eB bK)),(2,(.ptr 0 0)),(5,(.sl 1 0 l1_3.length 1 false)),(24,(.row none 35 (aA.map aL))),(25,(eI .i64 (aA.length:Int))),(26,(eI .i64 x26))]) [some ⟨26,[(eI .u32 aC),(.row none 35 (aA.map aL)),(.row none 2 (aB.map aM)),(eI .u32 aE)]⟩,some ⟨5,l1_3.map (eI .u8)⟩]) (n:=N) ⟨0,bV,hL8,(zG [0,2])⟩ (by rintro s h ⟨_,_,h0,_⟩;simp[hZ]at h0) ?_
 rintro m8 s h ⟨x26,l1_3,hr8,hg⟩
 refine aXw hg ?_
 clear hg hL8
 rw[hZ]at hr8
 refine zz ?_
 refine aXn ?_
 refine zk hr8 rfl (fun h16 hr8=> ?_) (fun h16 hr8=> ?_)
 ·refine zz ?_
  refine aXq fun K9 hK9 hG9=> ?_
  have J9: ∀(aIo:List Int),xA N aC aA aB aE bK x26 (hZ N aC aA aB aE bK m8) aIo=some res8→K9 (aI 89 [(1,(eB bK)),(2,(.ptr 0 0)),(5,(.sl 1 0 aIo.length 1 false)),(24,(.row none 35 (aA.map aL))),(25,(eI .i64 (aA.length:Int))),(26,(eI .i64 x26))]) [some ⟨26,[(eI .u32 aC),(.row none 35 (aA.map aL)),(.row none 2 (aB.map aM)),(eI .u32 aE)]⟩,some ⟨5,aIo.map (eI .u8)⟩]:=by
   intro aIo hr8
   unfold xA at hr8
   refine hK9 _ _ ?_
   refine zz ?_
   exact⟨aXj.wrap (x26+1),aIo,hr8,(zG [0,1])⟩
  refine aXp ?_
  obtain⟨x28,h_17,hr8⟩:=aD hr8
  refine zz ?_
  refine xw (v:=(.ptr 2 0)) (h':=[some ⟨26,[(eI .u32 aC),(.row none 35 (aA.map aL)),(.row none 2 (aB.map aM)),(eI .u32 aE)]⟩,some ⟨5,l1_3.map (eI .u8)⟩,some ⟨48,(bG (eI .u8) (aXk 32 0) [(eI .u32 0),(eI .u32 0),(.row (some true) 1 [])])⟩]) (cY rG rfl rfl rfl) ?_
  obtain⟨iA,h_18,hr8⟩:=aD hr8
  obtain⟨cU,h_20,hr8⟩:=aD hr8
  obtain⟨x37,h_21,hr8⟩:=aD hr8
  refine zz ?_
  refine AB.rd (fQ []) (fQ [35,36]) mixed<|aXl (n:=8) (i:=0) (by decide +kernel) rfl (gS (v:=(.sl 1 0 l1_3.length 1 false)) (sv (mR rfl)))<|aXl (n:=7) (i:=1) (by decide +kernel) rfl (gS (v:=(.ptr 2 0)) (sv (nZ rfl (aOv ..))))<|aXl (n:=6) (i:=2) (by decide +kernel) rfl (gS (v:=(aJ3 x28.Prev)) (sv (cA rfl (ldP rfl (aDI (ds:=(bG (eI .u8) x28.Prev.Tx [(eI .u32 x28.Prev.Index)])) pF rfl zl rfl)))))<|aXl (n:=5) (i:=3) (by decide +kernel) rfl (gC (v:=(.sl 3 0 iA.length 1 false)) (h':=[some ⟨26,[(eI .u32 aC),(.row none 35 (aA.map aL)),(.row none 2 (aB.map aM)),(eI .u32 aE)]⟩,some ⟨5,l1_3.map (eI .u8)⟩,some ⟨48,dJ x28⟩,some ⟨5,iA.map (eI .u8)⟩]) (zB (aFw h_18) []) rfl (fun _=>⟨_,rfl⟩) (sv (mA rfl pV))) ?_
  refine aXl (n:=4) (i:=5) (by decide +kernel) rfl (gS (v:=(.ptr 2 33)) (sv (nZ rfl (aOm ..)))) ?_
  refine aXN (m:=2) (L:=lst [0,1,2,3,4,5,6] 9) (s1:=aI 89 [(1,(eB bK)),(2,(.ptr 0 0)),(5,(.sl 1 0 l1_3.length 1 false)),(24,(.row none 35 (aA.map aL))),(25,(eI .i64 (aA.length:Int))),(26,(eI .i64 x26)),(34,(.sl 2 0 cU.length 1 false)),(36,(eI .u32 x28.Sequence))]) (h1:=[some ⟨26,[(eI .u32 aC),(.row none 35 (aA.map aL)),(.row none 2 (aB.map aM)),(eI .u32 aE)]⟩,none,some ⟨5,cU.map (eI .u8)⟩]) ?_ (fun J=> ?_)
  ·refine aXl (n:=1) (i:=7) (by decide +kernel) rfl (gC (v:=(.sl 3 0 x37.length 1 false)) (h':=[some ⟨26,[(eI .u32 aC),(.row none 35 (aA.map aL)),(.row none 2 (aB.map aM)),(eI .u32 aE)]⟩,none,some ⟨5,cU.map (eI .u8)⟩,some ⟨5,x37.map (eI .u8)⟩]) (zL (fD h_21) [] [2]) rfl (fun _=>⟨_,rfl⟩) (sv (mA rfl pV)))<|aXl (n:=0) (i:=8) (by decide +kernel) rfl (gS (v:=(.sl 3 0 x37.length 1 false)) (sv (pS rfl)))<|aXF (by decide +kernel) ?_
   refine zz ?_
   exact hG9 _ _ _ _ (zG [0,3]) (J9 x37 hr8)
  refine aXy (n:=3) [4,6] (by decide +kernel) (by decide) ?_
  refine(aXt rfl (gS (v:=(.sl 4 0 cU.length 1 false)) (h':=[some ⟨26,[(eI .u32 aC),(.row none 35 (aA.map aL)),(.row none 2 (aB.map aM)),(eI .u32 aE)]⟩,none,some ⟨48,dJ x28⟩,some ⟨5,iA.map (eI .u8)⟩,some ⟨5,cU.map (eI .u8)⟩]) (sv (yC rfl rfl (aR9 (E:=(eI .u8)) rfl dB dO ⟨rfl,rfl,zl⟩ rfl (aRc rfl rfl) h_20 rfl rfl)))) ?_ (aXt rfl (gS (v:=(eI .u32 x28.Sequence)) (sv (cA rfl (ldP rfl (qG wM rfl rfl))))) ?_ aXC))
  ·refine aXl (n:=2) (i:=6) (by decide +kernel) rfl (gS (v:=(eI .u32 x28.Sequence)) (sv (cA rfl (ldP rfl (qG wM rfl rfl)))))<|aXl (n:=1) (i:=7) (by decide +kernel) rfl (gC (v:=(.sl 5 0 x37.length 1 false)) (h':=[some ⟨26,[(eI .u32 aC),(.row none 35 (aA.map aL)),(.row none 2 (aB.map aM)),(eI .u32 aE)]⟩,none,some ⟨48,dJ x28⟩,some ⟨5,iA.map (eI .u8)⟩,some ⟨5,cU.map (eI .u8)⟩,some ⟨5,x37.map (eI .u8)⟩]) (zL (fD h_21) [] [4]) rfl (fun _=>⟨_,rfl⟩) (sv (mA rfl pV)))<|aXl (n:=0) (i:=8) (by decide +kernel) rfl (gS (v:=(.sl 5 0 x37.length 1 false)) (sv (pS rfl))) ?_
   refine aXF (by decide +kernel) ?_
   refine zz ?_
   exact hG9 _ _ _ _ (zG [0,5]) (J9 x37 hr8)
  refine aXl (n:=2) (i:=4) (by decide +kernel) rfl (gS (v:=(.sl 4 0 cU.length 1 false)) (h':=[some ⟨26,[(eI .u32 aC),(.row none 35 (aA.map aL)),(.row none 2 (aB.map aM)),(eI .u32 aE)]⟩,none,some ⟨48,dJ x28⟩,some ⟨5,iA.map (eI .u8)⟩,some ⟨5,cU.map (eI .u8)⟩]) (sv (yC rfl rfl (aR9 (E:=(eI .u8)) rfl dB dO ⟨rfl,rfl,zl⟩ rfl (aRc rfl rfl) h_20 rfl rfl))))<|aXl (n:=1) (i:=7) (by decide +kernel) rfl (gC (v:=(.sl 5 0 x37.length 1 false)) (h':=[some ⟨26,[(eI .u32 aC),(.row none 35 (aA.map aL)),(.row none 2 (aB.map aM)),(eI .u32 aE)]⟩,none,some ⟨48,dJ x28⟩,some ⟨5,iA.map (eI .u8)⟩,some ⟨5,cU.map (eI .u8)⟩,some ⟨5,x37.map (eI .u8)⟩]) (zL (fD h_21) [] [4]) rfl (fun _=>⟨_,rfl⟩) (sv (mA rfl pV))) ?_
  refine aXl (n:=0) (i:=8) (by decide +kernel) rfl (gS (v:=(.sl 5 0 x37.length 1 false)) (sv (pS rfl)))<|aXF (by decide +kernel) ?_
  refine zz ?_
  exact hG9 _ _ _ _ (zG [0,5]) (J9 x37 hr8)
 refine zz ?_
 obtain rfl:=sj hr8
 refine zz ?_
 exact hG1 _ _ _ _ (zG [0,1]) (J1 l1_3 hr)
theorem aAY {N:Nat}{aC:Int}{aA:List aG}{aB:List aF}{aE:Int}{r:Bool}(hr:aAc N aC aA aB aE=some r):
  Vm.Fn Tryz.prog 34 [] [(.agg [(eI .u32 aC),(.row none 35 (aA.map aL)),(.row none 2 (aB.map aM)),(eI .u32 aE)])] (eB r) []:=by
 refine zf Tryz.func34 Tryz.ntmps34 ?_
 unfold aAc at hr
 refine zz ?_
 refine aXn ?_
 refine aXq fun K1 hK1 hG1=> ?_
 have J1: ∀(x18:Bool),vZ N aC aA aB aE x18=some r→K1 (aI 63 [(1,(.ptr 0 0)),(18,(eB x18))]) [some ⟨26,[(eI .u32 aC),(.row none 35 (aA.map aL)),(.row none 2 (aB.map aM)),(eI .u32 aE)]⟩]:=by
  intro x18 hr
  unfold vZ at hr
  refine hK1 _ _ ?_
  refine zk hr rfl (fun h1 hr=> ?_) (fun h1 hr=> ?_)
  ·refine zz ?_
   obtain rfl:=sj hr
   exact bE Tryz.results34 []
  refine zz ?_
  refine aXq fun K2 hK2 hG2=> ?_
  have J2:aAT N aC aA aB aE=some r→K2 (aI 63 [(1,(.ptr 0 0))]) [some ⟨26,[(eI .u32 aC),(.row none 35 (aA.map aL)),(.row none 2 (aB.map aM)),(eI .u32 aE)]⟩]:=by
   intro hr
   unfold aAT at hr
   refine hK2 _ _ ?_
   refine aXq fun K3 hK3 hG3=> ?_
   have J3:aAP N aC aA aB aE=some r→K3 (aI 63 [(1,(.ptr 0 0))]) [some ⟨26,[(eI .u32 aC),(.row none 35 (aA.map aL)),(.row none 2 (aB.map aM)),(eI .u32 aE)]⟩]:=by
    intro hr
    unfold aAP at hr
    refine hK3 _ _ ?_
    obtain⟨x60,h_2,hr⟩:=aD hr
    refine zz ?_
    refine zc (aJL h_2) [] ?_
    refine zz ?_
    obtain rfl:=sj hr
    exact bE Tryz.results34 []
   obtain⟨res4,hL4,hr⟩:=aD hr
   refine zz ?_
   refine aXp<|aXx (fun m s h=> ∃(x39:Int),k9 N aC aA aB aE m x39=some res4∧Ghost 0 s h (aI 63 [(1,(.ptr 0 0)),(37,(.row none 35 (aA.map aL))),(38,(eI .i64 (aA.length:Int))),(39,(eI .i64 x39))]) [some ⟨26,[(eI .u32 aC),(.row none 35 (aA.map aL)),(.row none 2 (aB.map aM)),(eI .u32 aE)]⟩]) (n:=N) ⟨0,hL4,(zG [0])⟩ (by rintro s h ⟨_,h0,_⟩;simp[k9]at h0) ?_
   rintro m4 s h ⟨x39,hr4,hg⟩
   refine aXw hg ?_
   clear hg hL4
   rw[k9]at hr4
   refine zz ?_
   refine aXn ?_
   refine zk hr4 rfl (fun h3 hr4=> ?_) (fun h3 hr4=> ?_)
   ·refine zz ?_
    refine aXq fun K5 hK5 hG5=> ?_
    have J5:aAU N aC aA aB aE x39 (k9 N aC aA aB aE m4)=some res4→K5 (aI 63 [(1,(.ptr 0 0)),(37,(.row none 35 (aA.map aL))),(38,(eI .i64 (aA.length:Int))),(39,(eI .i64 x39))]) [some ⟨26,[(eI .u32 aC),(.row none 35 (aA.map aL)),(.row none 2 (aB.map aM)),(eI .u32 aE)]⟩]:=by
     intro hr4
     unfold aAU at hr4
     refine hK5 _ _ ?_
     refine zz ?_
     exact⟨aXj.wrap (x39+1),hr4,(zG [0])⟩
    refine aXp ?_
    obtain⟨x41,h_4,hr4⟩:=aD hr4
    refine zz ?_
    refine xw (v:=(.ptr 1 0)) (h':=[some ⟨26,[(eI .u32 aC),(.row none 35 (aA.map aL)),(.row none 2 (aB.map aM)),(eI .u32 aE)]⟩,some ⟨48,(bG (eI .u8) (aXk 32 0) [(eI .u32 0),(eI .u32 0),(.row (some true) 1 [])])⟩]) (cY rG rfl rfl rfl) ?_
    refine zz ?_
    refine aXn ?_
    refine zz ?_
    refine zk hr4 rfl (fun h5 hr4=> ?_) (fun h5 hr4=> ?_)
    ·refine zz ?_
     obtain rfl:=sj hr4
     obtain rfl:=sj hr
     exact bE Tryz.results34 []
    obtain⟨res6,hL6,hr4⟩:=aD hr4
    refine zz ?_
    refine aXp<|aXx (fun m s h=> ∃(x50:Int),k7 N aC aA aB aE x39 x41 m x50=some res6∧Ghost 0 s h (aI 63 [(1,(.ptr 0 0)),(37,(.row none 35 (aA.map aL))),(38,(eI .i64 (aA.length:Int))),(39,(eI .i64 x39)),(48,(.row none 1 (x41.Witness.map (eL 1 (eI .u8))))),(49,(eI .i64 (x41.Witness.length:Int))),(50,(eI .i64 x50))]) [some ⟨26,[(eI .u32 aC),(.row none 35 (aA.map aL)),(.row none 2 (aB.map aM)),(eI .u32 aE)]⟩]) (n:=N) ⟨0,hL6,(zG [0])⟩ (by rintro s h ⟨_,h0,_⟩;simp[k7]at h0) ?_
    rintro m6 s h ⟨x50,hr6,hg⟩
    refine aXw hg ?_
    clear hg hL6
    rw[k7]at hr6
    refine zz ?_
    refine aXn ?_
    refine zk hr6 rfl (fun h6 hr6=> ?_) (fun h6 hr6=> ?_)
    ·refine zz ?_
     refine aXn<|aXp ?_
     obtain⟨x52,h_7,hr6⟩:=aD hr6
     refine zz ?_
     refine zk hr6 rfl (fun h8 hr6=> ?_) (fun h8 hr6=> ?_)
     ·refine zz ?_
      obtain rfl:=sj hr6
      obtain rfl:=sj hr4
      obtain rfl:=sj hr
      exact bE Tryz.results34 []
     refine zz ?_
     exact⟨aXj.wrap (x50+1),hr6,(zG [0])⟩
    refine zz ?_
    obtain rfl:=sj hr6
    refine zz ?_
    exact hG5 _ _ _ _ (zG [0]) (J5 hr4)
   refine zz ?_
   obtain rfl:=sj hr4
   refine zz ?_
   exact hG3 _ _ _ _ (zG [0]) (J3 hr)
  obtain⟨res7,hL7,hr⟩:=aD hr
  refine zz ?_
  refine aXp<|aXx (fun m s h=> ∃(bV:Int),j6 N aC aA aB aE m bV=some res7∧Ghost 0 s h (aI 63 [(1,(.ptr 0 0)),(20,(.row none 2 (aB.map aM))),(21,(eI .i64 (aB.length:Int))),(22,(eI .i64 bV))]) [some ⟨26,[(eI .u32 aC),(.row none 35 (aA.map aL)),(.row none 2 (aB.map aM)),(eI .u32 aE)]⟩]) (n:=N) ⟨0,hL7,(zG [0])⟩ (by rintro s h ⟨_,h0,_⟩;simp[j6]at h0) ?_
  rintro m7 s h ⟨bV,hr7,hg⟩
  refine aXw hg ?_
  clear hg hL7
  rw[j6]at hr7
  refine zz ?_
  refine aXn ?_
  refine zk hr7 rfl (fun h9 hr7=> ?_) (fun h9 hr7=> ?_)
  ·refine zz ?_
   refine aXn<|aXp ?_
   obtain⟨fG,h_10,hr7⟩:=aD hr7
   refine zz ?_
   refine aXq fun K8 hK8 hG8=> ?_
   have J8: ∀(cU:Bool),vY N aC aA aB aE bV (j6 N aC aA aB aE m7) cU=some res7→K8 (aI 63 [(1,(.ptr 0 0)),(20,(.row none 2 (aB.map aM))),(21,(eI .i64 (aB.length:Int))),(22,(eI .i64 bV)),(34,(eB cU))]) [some ⟨26,[(eI .u32 aC),(.row none 35 (aA.map aL)),(.row none 2 (aB.map aM)),(eI .u32 aE)]⟩]:=by
    intro cU hr7
    unfold vY at hr7
    refine hK8 _ _ ?_
    refine zk hr7 rfl (fun h11 hr7=> ?_) (fun h11 hr7=> ?_)
    ·refine zz ?_
     obtain rfl:=sj hr7
     obtain rfl:=sj hr
     exact bE Tryz.results34 []
    refine zz ?_
    exact⟨aXj.wrap (bV+1),hr7,(zG [0])⟩
   rcases aXm (decide (fG.Value<0))with h12|h12
   ·replace hr7:=cQ hr7 h12
    refine xr ?_
    refine zz ?_
    exact hG8 _ _ _ _ (zG [0]) (J8 true hr7)
   replace hr7:=cR hr7 h12
   refine xr ?_
   refine zz ?_
   exact hG8 _ _ _ _ (zG [0]) (J8 (decide (520<(fG.Script.length:Int))) hr7)
  refine zz ?_
  obtain rfl:=sj hr7
  refine zz ?_
  exact hG2 _ _ _ _ (zG [0]) (J2 hr)
 rcases aXm (decide (64<(aA.length:Int)))with h13|h13
 ·replace hr:=cQ hr h13
  refine xr ?_
  refine zz ?_
  exact hG1 _ _ _ _ (zG [0]) (J1 true hr)
 replace hr:=cR hr h13
 refine xr ?_
 refine zz ?_
 exact hG1 _ _ _ _ (zG [0]) (J1 (decide (64<(aB.length:Int))) hr)
theorem aNe {N:Nat}{vn:Int}{r:(List Int)}(hr:aDe N vn=some r):
  Vm.Fn Tryz.prog 65 [] [(eI .u64 vn)] (.sl 0 0 r.length 1 false) [some ⟨5,r.map (eI .u8)⟩]:=by
 refine zf Tryz.func65 Tryz.ntmps65 ?_
 unfold aDe at hr
 refine zz ?_
 refine aXq fun K1 hK1 hG1=> ?_
 have J1: ∀(l0:List Int),aBm N vn l0=some r→K1 (aI 31 [(0,(eI .u64 vn)),(3,(.sl 0 0 l0.length 1 false))]) [some ⟨5,l0.map (eI .u8)⟩]:=by
  intro l0 hr
  unfold aBm at hr
  refine hK1 _ _ ?_
  refine aXq fun K2 hK2 hG2=> ?_
  have J2: ∀(aS:List Int),aEd N aS=some r→K2 (aI 31 [(3,(.sl 0 0 aS.length 1 false))]) [some ⟨5,aS.map (eI .u8)⟩]:=by
   intro aS hr
   unfold aEd at hr
   refine hK2 _ _ ?_
   refine zz ?_
   obtain rfl:=sj hr
   exact bE Tryz.results65 [0]
  obtain⟨wL,hL3,hr⟩:=aD hr
  refine zz ?_
  refine aXp<|aXx (fun m s h=> ∃(vi:Int)(fL:List Int),pE N vn m vi fL=some wL∧Ghost 0 s h (aI 31 [(0,(eI .u64 vn)),(3,(.sl 0 0 fL.length 1 false)),(4,(eI .i64 vi))]) [some ⟨5,fL.map (eI .u8)⟩]) (n:=N) ⟨7,l0,hL3,(zG [0])⟩ (by rintro s h ⟨_,_,h0,_⟩;simp[pE]at h0) ?_
  rintro m3 s h ⟨vi,fL,hr3,hg⟩
  refine aXw hg ?_
  clear hg hL3
  rw[pE]at hr3
  refine aXn ?_
  refine zz ?_
  refine zk hr3 rfl (fun h1 hr3=> ?_) (fun h1 hr3=> ?_)
  ·refine zz ?_
   refine aXn<|aXp ?_
   obtain⟨x26,h_2,hr3⟩:=aD hr3
   obtain⟨x29,h_3,hr3⟩:=aD hr3
   refine zz ?_
   exact⟨aXj.wrap (vi-1),x29,hr3,(zG [2])⟩
  refine zz ?_
  obtain rfl:=sj hr3
  refine zz ?_
  exact hG2 _ _ _ _ (zG [0]) (J2 fL hr)
 obtain⟨res4,hL4,hr⟩:=aD hr
 refine aXp<|aXx (fun m s h=> ∃(gE:List Int),q6 N vn m gE=some res4∧Ghost 0 s h (aI 31 [(0,(eI .u64 vn)),(3,(.sl 0 0 gE.length 1 false))]) [some ⟨5,gE.map (eI .u8)⟩]) (n:=N) ⟨[128],hL4,(lU [0])⟩ (by rintro s h ⟨_,h0,_⟩;simp[q6]at h0) ?_
 rintro m4 s h ⟨gE,hr4,hg⟩
 refine aXw hg ?_
 clear hg hL4
 rw[q6]at hr4
 refine aXn ?_
 refine zz ?_
 refine zk hr4 rfl (fun h4 hr4=> ?_) (fun h4 hr4=> ?_)
 ·refine zz ?_
  refine aXp ?_
  obtain⟨x16,h_5,hr4⟩:=aD hr4
  refine zz ?_
  exact⟨x16,hr4,(zG [2])⟩
 refine zz ?_
 obtain rfl:=sj hr4
 refine zz ?_
 exact hG1 _ _ _ _ (zG [0]) (J1 gE hr)
theorem aIx {N:Nat}{r:(List Int)}(hr:aAL N=some r):
  Vm.Fn Tryz.prog 66 [] [] (.agg (r.map (eI .u32))) []:=by
 refine zf Tryz.func66 Tryz.ntmps66 ?_
 unfold aAL at hr
 refine zz ?_
 refine xw (v:=(.agg ([1779033703,3144134277,1013904242,2773480762,1359893119,2600822924,528734635,1541459225].map (eI .u32)))) (cE rfl (nR aJ6 wM rfl)) ?_
 refine zz ?_
 obtain rfl:=sj hr
 exact iE Tryz.results66 bJ (zG [])
theorem j5 {N:Nat}{x vn r:Int}(hr:kA N x vn=some r):
  Vm.Fn Tryz.prog 93 [] [(eI .u32 x),(eI .i64 vn)] (eI .u32 r) []:=by
 refine zf Tryz.func93 Tryz.ntmps93 ?_
 unfold kA at hr
 obtain⟨x8,h_1,hr⟩:=aD hr
 refine zz ?_
 refine xw (aMG rfl (aPX ..))<|xp (wR h_1) ?_
 refine zz ?_
 obtain rfl:=sj hr
 exact bE Tryz.results93 []
theorem aHL {N:Nat}{block:List Int}{r:(List Int)}(hr:uH N block=some r):
  Vm.Fn Tryz.prog 91 [] [(.agg (block.map (eI .u8)))] (.agg (r.map (eI .u32))) []:=by
 refine zf Tryz.func91 Tryz.ntmps91 ?_
 unfold uH at hr
 refine zz ?_
 refine aXq fun K1 hK1 hG1=> ?_
 have J1: ∀(l1:List Int),t4 N l1=some r→K1 (aI 97 [(2,(.ptr 0 0)),(3,(.ptr 1 0))]) [some ⟨116,(aXk 64 0).map (eI .u32)⟩,some ⟨116,l1.map (eI .u32)⟩]:=by
  intro l1 hr
  unfold t4 at hr
  refine hK1 _ _ ?_
  refine aXq fun K2 hK2 hG2=> ?_
  have J2: ∀(cS:List Int),tZ N cS=some r→K2 (aI 97 [(2,(.ptr 0 0)),(3,(.ptr 1 0))]) [some ⟨116,(aXk 64 0).map (eI .u32)⟩,some ⟨116,cS.map (eI .u32)⟩]:=by
   intro cS hr
   unfold tZ at hr
   refine hK2 _ _ ?_
   obtain⟨q,h_1,hr⟩:=aD hr
   refine zz ?_
   obtain rfl:=sj hr
   exact iE Tryz.results91 bJ (zG [])
  obtain⟨wL,hL3,hr⟩:=aD hr
  refine zz ?_
  refine aXp<|aXx (fun m s h=> ∃(vi:Int)(l1_2:List Int),kJ N m vi l1_2=some wL∧Ghost 0 s h (aI 97 [(2,(.ptr 0 0)),(3,(.ptr 1 0)),(5,(eI .i64 vi))]) [some ⟨116,(aXk 64 0).map (eI .u32)⟩,some ⟨116,l1_2.map (eI .u32)⟩]) (n:=N) ⟨16,l1,hL3,(zG [0,1])⟩ (by rintro s h ⟨_,_,h0,_⟩;simp[kJ]at h0) ?_
  rintro m3 s h ⟨vi,l1_2,hr3,hg⟩
  refine aXw hg ?_
  clear hg hL3
  rw[kJ]at hr3
  refine aXn ?_
  refine zz ?_
  refine zk hr3 rfl (fun h2 hr3=> ?_) (fun h2 hr3=> ?_)
  ·refine zz ?_
   refine aXn<|aXp<|aXn ?_
   obtain⟨x49,h_3,hr3⟩:=aD hr3
   obtain⟨x51,h_4,hr3⟩:=aD hr3
   obtain⟨x56,h_6,hr3⟩:=aD hr3
   obtain⟨x62,h_8,hr3⟩:=aD hr3
   refine aXA mixed [93] [] [[0,1,2,3,4,5,6,7,8,9,10,11,12,13,14,15,16,17]] ?_
   refine zz ?_
   refine xu (j5 h_4) ?_
   refine zz ?_
   refine xu (j5 h_6) ?_
   refine zz ?_
   refine aXn ?_
   obtain⟨x66,h_9,hr3⟩:=aD hr3
   obtain⟨x68,h_10,hr3⟩:=aD hr3
   obtain⟨x73,h_12,hr3⟩:=aD hr3
   obtain⟨x79,h_14,hr3⟩:=aD hr3
   refine aXA mixed [93] [] [[0,1,2,3,4,5,6,7,8,9,10,11,12,13,14,15,16,17]] ?_
   refine zz ?_
   refine xu (j5 h_10) ?_
   refine zz ?_
   refine xu (j5 h_12) ?_
   obtain⟨x84,h_15,hr3⟩:=aD hr3
   obtain⟨x90,h_16,hr3⟩:=aD hr3
   obtain⟨x95,h_17,hr3⟩:=aD hr3
   refine zz ?_
   refine aXA mixed [] [] [[0,1,2,3,4,5,6,7,8,9,10,11,12,13,14,15]] ?_
   refine zz ?_
   exact⟨aXj.wrap (vi+1),l1_2.set (aXv vi) (aXs.wrap ((aXs.wrap ((aXs.wrap (x84+(bits .xor .u32 (bits .xor .u32 x51 x56) x62)))+x90))+(bits .xor .u32 (bits .xor .u32 x68 x73) x79))),hr3,(zG [0,1])⟩
  refine zz ?_
  obtain rfl:=sj hr3
  refine zz ?_
  exact hG2 _ _ _ _ (zG [0,1]) (J2 l1_2 hr)
 obtain⟨res4,hL4,hr⟩:=aD hr
 refine zz ?_
 refine aXp<|aXx (fun m s h=> ∃(vi_1:Int)(l2:List Int),gR N block m vi_1 l2=some res4∧Ghost 0 s h (aI 97 [(1,(.ptr 0 0)),(2,(.ptr 1 0)),(3,(.ptr 2 0)),(4,(eI .i64 vi_1))]) [some ⟨97,block.map (eI .u8)⟩,some ⟨116,(aXk 64 0).map (eI .u32)⟩,some ⟨116,l2.map (eI .u32)⟩]) (n:=N) ⟨0,aXk 64 0,hL4,(zG [0,1,2])⟩ (by rintro s h ⟨_,_,h0,_⟩;simp[gR]at h0) ?_
 rintro m4 s h ⟨vi_1,l2,hr4,hg⟩
 refine aXw hg ?_
 clear hg hL4
 rw[gR]at hr4
 refine aXn ?_
 refine zz ?_
 refine zk hr4 rfl (fun h18 hr4=> ?_) (fun h18 hr4=> ?_)
 ·refine zz ?_
  refine aXn<|aXp ?_
  obtain⟨x15,h_19,hr4⟩:=aD hr4
  obtain⟨x18,h_20,hr4⟩:=aD hr4
  obtain⟨bV,h_21,hr4⟩:=aD hr4
  obtain⟨x25,h_22,hr4⟩:=aD hr4
  obtain⟨jL,h_23,hr4⟩:=aD hr4
  obtain⟨iA,h_24,hr4⟩:=aD hr4
  obtain⟨x38,h_25,hr4⟩:=aD hr4
  obtain⟨x42,h_26,hr4⟩:=aD hr4
  refine aXA mixed [] [] [[0,1,2,3,4,5,6,7,8,9,10,11,12,13,14,15,16,17,18,19,20,21,22,23,24,25,26,27,28,29,30,31]] ?_
  refine zz ?_
  exact⟨aXj.wrap (vi_1+1),l2.set (aXv vi_1) (bits .or .u32 (bits .or .u32 (bits .or .u32 x18 x25) iA) (aXs.wrap x38)),hr4,(zG [0,1,2])⟩
 refine zz ?_
 obtain rfl:=sj hr4
 refine zz ?_
 exact hG1 _ _ _ _ (zG [1,2]) (J1 l2 hr)
theorem aGB {N:Nat}{r:(List Int)}(hr:wX N=some r):
  Vm.Fn Tryz.prog 92 [] [] (.agg (r.map (eI .u32))) []:=by
 refine zf Tryz.func92 Tryz.ntmps92 ?_
 unfold wX at hr
 refine zz ?_
 refine xw (v:=(.agg ([1116352408,1899447441,3049323471,3921009573,961987163,1508970993,2453635748,2870763221,3624381080,310598401,607225278,1426881987,1925078388,2162078206,2614888103,3248222580,3835390401,4022224774,264347078,604807628,770255983,1249150122,1555081692,1996064986,2554220882,2821834349,2952996808,3210313671,3336571891,3584528711,113926993,338241895,666307205,773529912,1294757372,1396182291,1695183700,1986661051,2177026350,2456956037,2730485921,2820302411,3259730800,3345764771,3516065817,3600352804,4094571909,275423344,430227734,506948616,659060556,883997877,958139571,1322822218,1537002063,1747873779,1955562222,2024104815,2227730452,2361852424,2428436474,2756734187,3204031479,3329325298].map (eI .u32)))) (cE rfl (nR aPf wM rfl)) ?_
 refine zz ?_
 obtain rfl:=sj hr
 exact iE Tryz.results92 bJ (zG [])
theorem aHP {N:Nat}{cT block:List Int}{r:(List Int)}(hr:qY N cT block=some r):
  Vm.Fn Tryz.prog 67 [] [(.agg (cT.map (eI .u32))),(.agg (block.map (eI .u8)))] (.agg (r.map (eI .u32))) []:=by
 refine zf Tryz.func67 Tryz.ntmps67 ?_
 unfold qY at hr
 obtain⟨q,h_1,hr⟩:=aD hr
 obtain⟨x19,h_2,hr⟩:=aD hr
 obtain⟨bT,h_3,hr⟩:=aD hr
 obtain⟨q_1,h_4,hr⟩:=aD hr
 obtain⟨q_2,h_5,hr⟩:=aD hr
 refine zz ?_
 refine xp (aHL h_2)<|xp (aGB h_3) ?_
 refine zz ?_
 refine aXn ?_
 obtain⟨d5,h_6,hr⟩:=aD hr
 obtain⟨iD,h_7,hr⟩:=aD hr
 obtain⟨x25,h_8,hr⟩:=aD hr
 obtain⟨x27,h_9,hr⟩:=aD hr
 obtain⟨x29,h_10,hr⟩:=aD hr
 obtain⟨eG,h_11,hr⟩:=aD hr
 obtain⟨iA,h_12,hr⟩:=aD hr
 obtain⟨x35,h_13,hr⟩:=aD hr
 refine aXA mixed [] [] [[0,1,2,3,4,5,6,7,8,9,10,11,12,13,14,15,16,17,18,19,20,21,22,23]] ?_
 refine zz ?_
 refine aXq fun K1 hK1 hG1=> ?_
 have J1: ∀(va b c d ve f g vh:Int),tY N cT va b c d ve f g vh=some r→K1 (aI 133 [(2,(.ptr 0 0)),(4,(.ptr 1 0)),(7,(eI .u32 va)),(8,(eI .u32 b)),(9,(eI .u32 c)),(10,(eI .u32 d)),(11,(eI .u32 ve)),(12,(eI .u32 f)),(13,(eI .u32 g)),(14,(eI .u32 vh))]) [some ⟨95,cT.map (eI .u32)⟩,some ⟨95,(aXk 8 0).map (eI .u32)⟩]:=by
  intro va b c d ve f g vh hr
  unfold tY at hr
  refine hK1 _ _ ?_
  obtain⟨aIC,h_14,hr⟩:=aD hr
  obtain⟨aDo,h_15,hr⟩:=aD hr
  obtain⟨aRx,h_16,hr⟩:=aD hr
  obtain⟨aQJ,h_17,hr⟩:=aD hr
  obtain⟨aSc,h_18,hr⟩:=aD hr
  obtain⟨aQ4,h_19,hr⟩:=aD hr
  obtain⟨aKG,h_20,hr⟩:=aD hr
  obtain⟨aRF,h_21,hr⟩:=aD hr
  refine zz ?_
  refine xw (v:=(.agg ([aXs.wrap (aIC+va),aXs.wrap (aDo+b),aXs.wrap (aRx+c),aXs.wrap (aQJ+d),aXs.wrap (aSc+ve),aXs.wrap (aQ4+f),aXs.wrap (aKG+g),aXs.wrap (aRF+vh)].map (eI .u32)))) (cE rfl (nR aJ6 wM rfl)) ?_
  refine zz ?_
  obtain rfl:=sj hr
  exact iE Tryz.results67 bJ (zG [])
 obtain⟨bL,hL2,hr⟩:=aD hr
 refine zz ?_
 refine aXp<|aXx (fun m s h=> ∃(va_1 b_1 c_1 d_1 ve_1 f_1 g_1 vh_1 vi:Int),kL N cT x19 bT m va_1 b_1 c_1 d_1 ve_1 f_1 g_1 vh_1 vi=some bL∧Ghost 0 s h (aI 133 [(2,(.ptr 0 0)),(4,(.ptr 1 0)),(5,(.ptr 2 0)),(6,(.ptr 3 0)),(7,(eI .u32 va_1)),(8,(eI .u32 b_1)),(9,(eI .u32 c_1)),(10,(eI .u32 d_1)),(11,(eI .u32 ve_1)),(12,(eI .u32 f_1)),(13,(eI .u32 g_1)),(14,(eI .u32 vh_1)),(15,(eI .i64 vi))]) [some ⟨95,cT.map (eI .u32)⟩,some ⟨95,(aXk 8 0).map (eI .u32)⟩,some ⟨116,x19.map (eI .u32)⟩,some ⟨116,bT.map (eI .u32)⟩]) (n:=N) ⟨d5,iD,x25,x27,x29,eG,iA,x35,0,hL2,(zG [0,2,3,4])⟩ (by rintro s h ⟨_,_,_,_,_,_,_,_,_,h0,_⟩;simp[kL]at h0) ?_
 rintro m2 s h ⟨va_1,b_1,c_1,d_1,ve_1,f_1,g_1,vh_1,vi,hr2,hg⟩
 refine aXw hg ?_
 clear hg hL2
 rw[kL]at hr2
 refine aXn ?_
 refine zz ?_
 refine zk hr2 rfl (fun h22 hr2=> ?_) (fun h22 hr2=> ?_)
 ·refine zz ?_
  refine aXn<|aXp<|aXn ?_
  obtain⟨x43,h_23,hr2⟩:=aD hr2
  obtain⟨x45,h_25,hr2⟩:=aD hr2
  obtain⟨x48,h_27,hr2⟩:=aD hr2
  obtain⟨x61,h_29,hr2⟩:=aD hr2
  obtain⟨x65,h_30,hr2⟩:=aD hr2
  refine aXA mixed [93] [] [[0,1,2,3,4,5,6,7,8,9,10,11,12,13,14,15,16,17,18,19,20,21,22,23,24,25,26,27]] ?_
  refine zz ?_
  refine xu (j5 h_23) ?_
  refine zz ?_
  refine xu (j5 h_25) ?_
  refine zz ?_
  refine xu (j5 h_27) ?_
  refine zz ?_
  refine xw (v:=(eI .u32 (bits .xor .u32 (aXO .u32) ve_1))) (aMG rfl (aN4 rfl _)) ?_
  obtain⟨x69,h_31,hr2⟩:=aD hr2
  obtain⟨x71,h_32,hr2⟩:=aD hr2
  obtain⟨x74,h_33,hr2⟩:=aD hr2
  refine zz ?_
  refine xp (j5 h_31) ?_
  refine zz ?_
  refine xp (j5 h_32) ?_
  refine zz ?_
  refine xp (j5 h_33) ?_
  refine zz ?_
  exact⟨aXs.wrap ((aXs.wrap ((aXs.wrap ((aXs.wrap ((aXs.wrap (vh_1+(bits .xor .u32 (bits .xor .u32 x43 x45) x48)))+(bits .xor .u32 (bits .and .u32 ve_1 f_1) (bits .and .u32 (bits .xor .u32 (aXO .u32) ve_1) g_1))))+x61))+x65))+(aXs.wrap ((bits .xor .u32 (bits .xor .u32 x69 x71) x74)+(bits .xor .u32 (bits .xor .u32 (bits .and .u32 va_1 b_1) (bits .and .u32 va_1 c_1)) (bits .and .u32 b_1 c_1))))),va_1,b_1,c_1,aXs.wrap (d_1+(aXs.wrap ((aXs.wrap ((aXs.wrap ((aXs.wrap (vh_1+(bits .xor .u32 (bits .xor .u32 x43 x45) x48)))+(bits .xor .u32 (bits .and .u32 ve_1 f_1) (bits .and .u32 (bits .xor .u32 (aXO .u32) ve_1) g_1))))+x61))+x65))),ve_1,f_1,g_1,aXj.wrap (vi+1),hr2,(zG [0,1,2,3])⟩
 refine zz ?_
 obtain rfl:=sj hr2
 refine zz ?_
 exact hG1 _ _ _ _ (zG [0,1]) (J1 va_1 b_1 c_1 d_1 ve_1 f_1 g_1 vh_1 hr)
theorem uW {N:Nat}{b:List Int}{r:(List Int)}(hr:qQ N b=some r):
  Vm.Fn Tryz.prog 39 [] [(.row none 1 (b.map (eI .u8)))] (.agg (r.map (eI .u8))) []:=by
 refine zf Tryz.func39 Tryz.ntmps39 ?_
 unfold qQ at hr
 obtain⟨b4,h_1,hr⟩:=aD hr
 obtain⟨x15,h_2,hr⟩:=aD hr
 obtain⟨x16,h_3,hr⟩:=aD hr
 refine zz ?_
 refine zc (aNe h_2) [] ?_
 obtain⟨x17,h_4,hr⟩:=aD hr
 obtain⟨q,h_5,hr⟩:=aD hr
 refine zz ?_
 refine xp (aIx h_4) ?_
 refine zz ?_
 refine aXq fun K1 hK1 hG1=> ?_
 have J1: ∀(l1:List Int),aBz N l1=some r→K1 (aI 66 [(2,(.ptr 0 0)),(4,(.ptr 1 0))]) [some ⟨28,(aXk 32 0).map (eI .u8)⟩,some ⟨95,l1.map (eI .u32)⟩]:=by
  intro l1 hr
  unfold aBz at hr
  refine hK1 _ _ ?_
  refine zz ?_
  refine aXq fun K2 hK2 hG2=> ?_
  have J2: ∀(cS:List Int),aBY N cS=some r→K2 (aI 66 [(2,(.ptr 0 0)),(7,(.ptr 1 0))]) [some ⟨28,(aXk 32 0).map (eI .u8)⟩,some ⟨28,cS.map (eI .u8)⟩]:=by
   intro cS hr
   unfold aBY at hr
   refine hK2 _ _ ?_
   obtain⟨q_1,h_6,hr⟩:=aD hr
   refine zz ?_
   obtain rfl:=sj hr
   exact iE Tryz.results39 bJ (zG [])
  obtain⟨q_2,h_7,hr⟩:=aD hr
  obtain⟨wL,hL3,hr⟩:=aD hr
  refine zz ?_
  refine aXp<|aXx (fun m s h=> ∃(cU:Int)(l1_2:List Int),rB N l1 m cU l1_2=some wL∧Ghost 0 s h (aI 66 [(2,(.ptr 0 0)),(7,(.ptr 1 0)),(33,(.agg (l1.map (eI .u32)))),(34,(eI .i64 cU))]) [some ⟨28,(aXk 32 0).map (eI .u8)⟩,some ⟨28,l1_2.map (eI .u8)⟩]) (n:=N) ⟨0,aXk 32 0,hL3,(zG [0,2])⟩ (by rintro s h ⟨_,_,h0,_⟩;simp[rB]at h0) ?_
  rintro m3 s h ⟨cU,l1_2,hr3,hg⟩
  refine aXw hg ?_
  clear hg hL3
  rw[rB]at hr3
  refine zz ?_
  refine aXn ?_
  refine zk hr3 rfl (fun h8 hr3=> ?_) (fun h8 hr3=> ?_)
  ·refine zz ?_
   refine aXn<|aXp ?_
   obtain⟨x37,h_9,hr3⟩:=aD hr3
   refine zz ?_
   refine xw (v:=(eI .u32 x37)) (aRt rfl rfl (ixA (E:=(eI .u32)) aJ6 wM rfl rfl h_9)) ?_
   obtain⟨x50,h_10,hr3⟩:=aD hr3
   obtain⟨x53,h_11,hr3⟩:=aD hr3
   obtain⟨x56,h_12,hr3⟩:=aD hr3
   obtain⟨x60,h_13,hr3⟩:=aD hr3
   obtain⟨x61,h_14,hr3⟩:=aD hr3
   obtain⟨x62,h_15,hr3⟩:=aD hr3
   obtain⟨x63,h_16,hr3⟩:=aD hr3
   refine zz ?_
   exact⟨aXj.wrap (cU+1),(((l1_2.set (aXv (aXj.wrap (4*cU))) (aXG.wrap x50)).set (aXv (aXj.wrap ((aXj.wrap (4*cU))+1))) (aXG.wrap x53)).set (aXv (aXj.wrap ((aXj.wrap (4*cU))+2))) (aXG.wrap x56)).set (aXv (aXj.wrap ((aXj.wrap (4*cU))+3))) (aXG.wrap x37),hr3,(zG [0,1])⟩
  refine zz ?_
  obtain rfl:=sj hr3
  refine zz ?_
  exact hG2 _ _ _ _ (zG [0,1]) (J2 l1_2 hr)
 refine zz ?_
 refine aXw (zv 4) ?_
 obtain⟨res4,hL4,hr⟩:=aD hr
 refine aXp<|aXx (fun m s h=> ∃(vi:Int)(l1_3:List Int),rQ N x16 m vi l1_3=some res4∧Ghost 0 s h (aI 66 [(2,(.ptr 0 0)),(3,(.row none 1 (x16.map (eI .u8)))),(4,(.ptr 1 0)),(5,(eI .i64 vi))]) [some ⟨28,(aXk 32 0).map (eI .u8)⟩,some ⟨95,l1_3.map (eI .u32)⟩]) (n:=N) ⟨0,x17,hL4,(zG [0,5])⟩ (by rintro s h ⟨_,_,h0,_⟩;simp[rQ]at h0) ?_
 rintro m4 s h ⟨vi,l1_3,hr4,hg⟩
 refine aXw hg ?_
 clear hg hL4
 rw[rQ]at hr4
 refine aXn ?_
 refine zz ?_
 refine zk hr4 rfl (fun h17 hr4=> ?_) (fun h17 hr4=> ?_)
 ·refine zz ?_
  refine aXn<|aXp ?_
  refine zz ?_
  refine aXn ?_
  obtain⟨x28,h_18,hr4⟩:=aD hr4
  refine aXA mixed [] [] [[0,1,2,3,4]] ?_
  refine zz ?_
  refine xw (v:=(eI .i64 ((min x28.length (aXk 64 0).length:Nat):Int))) (h':=[some ⟨28,(aXk 32 0).map (eI .u8)⟩,some ⟨95,l1_3.map (eI .u32)⟩,some ⟨97,(nT (aXk 64 0) x28).map (eI .u8)⟩]) (aFf rfl rfl (aJZ (E:=(eI .u8)) (l:=aXk 64 0) rfl dB dO rfl rfl (aEA (fun _=>rfl)) rfl)) ?_
  obtain⟨q_3,h_19,hr4⟩:=aD hr4
  obtain⟨q_4,h_20,hr4⟩:=aD hr4
  obtain⟨lB,h_21,hr4⟩:=aD hr4
  obtain⟨q_5,h_22,hr4⟩:=aD hr4
  refine zz ?_
  refine xp (aHP h_21) ?_
  refine zz ?_
  exact⟨aXj.wrap (vi+64),lB,hr4,(zG [0,1])⟩
 refine zz ?_
 obtain rfl:=sj hr4
 refine zz ?_
 exact hG1 _ _ _ _ (zG [0,1]) (J1 l1_3 hr)
theorem aEV {N:Nat}{tag:ByteArray}{b:List Int}{r:(List Int)}(hr:uM N tag b=some r):
  Vm.Fn Tryz.prog 40 [] [(eS tag),(.row none 1 (b.map (eI .u8)))] (.agg (r.map (eI .u8))) []:=by
 refine zf Tryz.func40 Tryz.ntmps40 ?_
 unfold uM at hr
 obtain⟨x7,h_1,hr⟩:=aD hr
 obtain⟨x8,h_2,hr⟩:=aD hr
 obtain⟨q,h_3,hr⟩:=aD hr
 refine zz ?_
 refine aUW (h':=[some ⟨28,(aXk 32 0).map (eI .u8)⟩,some ⟨5,x7.map (eI .u8)⟩]) rfl ti9 dB dO h_1 rfl rfl<|jI (uW h_2) [] [1] ?_
 refine zz ?_
 refine aXn ?_
 obtain⟨cD,h_4,hr⟩:=aD hr
 obtain⟨fR,h_5,hr⟩:=aD hr
 obtain⟨bQ,h_6,hr⟩:=aD hr
 obtain⟨x15,h_7,hr⟩:=aD hr
 obtain⟨q_1,h_9,hr⟩:=aD hr
 refine aXA mixed [] [39] [[0,1,2,3,4,5,6,7]] ?_
 refine zz ?_
 refine zgL (uW h_7) [] [6] ?_
 refine zz ?_
 obtain rfl:=sj hr
 exact iE Tryz.results40 bJ (zG [])
theorem aIb {N:Nat}{aC:Int}{aA:List aG}{aB:List aF}{aE vi bI:Int}{aZ:List Int}{r:(List Int)×Int}(hr:v4 N aC aA aB aE vi bI aZ=some r):
  Vm.Fn Tryz.prog 16 [] [(.agg [(eI .u32 aC),(.row none 35 (aA.map aL)),(.row none 2 (aB.map aM)),(eI .u32 aE)]),(eI .i64 vi),(.agg [(eI .i64 bI),(.row none 1 (aZ.map (eI .u8)))])] (.tup [(.agg (r.1.map (eI .u8))),(eI .i64 r.2)]) []:=by
 refine zf Tryz.func16 Tryz.ntmps16 ?_
 unfold v4 at hr
 refine zz ?_
 refine aXn ?_
 refine aXq fun K1 hK1 hG1=> ?_
 have J1: ∀(x29:Bool),nV N aC aA aB aE vi bI aZ x29=some r→K1 (aI 98 [(1,(eI .i64 vi)),(3,(.ptr 0 0)),(5,(.ptr 1 0)),(6,(.ptr 2 0)),(29,(eB x29))]) [some ⟨26,[(eI .u32 aC),(.row none 35 (aA.map aL)),(.row none 2 (aB.map aM)),(eI .u32 aE)]⟩,some ⟨33,[(eI .i64 bI),(.row none 1 (aZ.map (eI .u8)))]⟩,some ⟨28,(aXk 32 0).map (eI .u8)⟩]:=by
  intro x29 hr
  unfold nV at hr
  refine hK1 _ _ ?_
  refine zk hr rfl (fun h1 hr=> ?_) (fun h1 hr=> ?_)
  ·refine zz ?_
   refine xw (v:=(.agg ([0,0,0,0,0,0,0,0,0,0,0,0,0,0,0,0,0,0,0,0,0,0,0,0,0,0,0,0,0,0,0,0].map (eI .u8)))) (cE rfl (nR wJ dO rfl)) ?_
   refine zz ?_
   obtain rfl:=sj hr
   exact oL Tryz.results16 bJ bJ (lU [])
  refine zz ?_
  refine aXn ?_
  refine aXq fun K2 hK2 hG2=> ?_
  have J2: ∀(x39:Bool),oF N aC aA aB aE vi bI aZ x39=some r→K2 (aI 98 [(1,(eI .i64 vi)),(3,(.ptr 0 0)),(5,(.ptr 1 0)),(6,(.ptr 2 0)),(39,(eB x39))]) [some ⟨26,[(eI .u32 aC),(.row none 35 (aA.map aL)),(.row none 2 (aB.map aM)),(eI .u32 aE)]⟩,some ⟨33,[(eI .i64 bI),(.row none 1 (aZ.map (eI .u8)))]⟩,some ⟨28,(aXk 32 0).map (eI .u8)⟩]:=by
   intro x39 hr
   unfold oF at hr
   refine hK2 _ _ ?_
   refine zk hr rfl (fun h2 hr=> ?_) (fun h2 hr=> ?_)
   ·refine zz ?_
    refine xw (v:=(.agg ([0,0,0,0,0,0,0,0,0,0,0,0,0,0,0,0,0,0,0,0,0,0,0,0,0,0,0,0,0,0,0,0].map (eI .u8)))) (cE rfl (nR wJ dO rfl)) ?_
    refine zz ?_
    obtain rfl:=sj hr
    exact oL Tryz.results16 bJ bJ (lU [])
   refine zz ?_
   refine aXq fun K3 hK3 hG3=> ?_
   have J3: ∀(l3 l4:List Int),vR N aC aA aB aE vi bI aZ l3 l4=some r→K3 (aI 98 [(1,(eI .i64 vi)),(3,(.ptr 0 0)),(5,(.ptr 1 0)),(6,(.ptr 2 0)),(8,(.sl 3 0 l3.length 1 false)),(9,(.sl 4 0 l4.length 1 false)),(10,(.row (some true) 1 []))]) [some ⟨26,[(eI .u32 aC),(.row none 35 (aA.map aL)),(.row none 2 (aB.map aM)),(eI .u32 aE)]⟩,some ⟨33,[(eI .i64 bI),(.row none 1 (aZ.map (eI .u8)))]⟩,some ⟨28,(aXk 32 0).map (eI .u8)⟩,some ⟨5,l3.map (eI .u8)⟩,some ⟨5,l4.map (eI .u8)⟩]:=by
    intro l3 l4 hr
    unfold vR at hr
    refine hK3 _ _ ?_
    refine aXq fun K4 hK4 hG4=> ?_
    have J4: ∀(l5:List Int),vS N aC aA aB aE vi bI aZ l3 l4 l5=some r→K4 (aI 98 [(1,(eI .i64 vi)),(3,(.ptr 0 0)),(5,(.ptr 1 0)),(6,(.ptr 2 0)),(8,(.sl 3 0 l3.length 1 false)),(9,(.sl 4 0 l4.length 1 false)),(10,(.sl 5 0 l5.length 1 false))]) [some ⟨26,[(eI .u32 aC),(.row none 35 (aA.map aL)),(.row none 2 (aB.map aM)),(eI .u32 aE)]⟩,some ⟨33,[(eI .i64 bI),(.row none 1 (aZ.map (eI .u8)))]⟩,some ⟨28,(aXk 32 0).map (eI .u8)⟩,some ⟨5,l3.map (eI .u8)⟩,some ⟨5,l4.map (eI .u8)⟩,some ⟨5,l5.map (eI .u8)⟩]:=by
     intro l5 hr
     unfold vS at hr
     refine hK4 _ _ ?_
     obtain⟨x72,h_3,hr⟩:=aD hr
     refine zz ?_
     refine zc (fD h_3) [] ?_
     obtain⟨x75,h_4,hr⟩:=aD hr
     obtain⟨x76,h_5,hr⟩:=aD hr
     refine zz ?_
     refine jI (uW h_4) [] [3] ?_
     refine jI (rZ h_5) [] [6] ?_
     obtain⟨x79,h_6,hr⟩:=aD hr
     obtain⟨x80,h_7,hr⟩:=aD hr
     refine zz ?_
     refine jI (uW h_6) [] [4] ?_
     refine jI (rZ h_7) [] [7] ?_
     obtain⟨x83,h_8,hr⟩:=aD hr
     obtain⟨x84,h_9,hr⟩:=aD hr
     refine zz ?_
     refine jI (uW h_8) [] [5] ?_
     refine jI (rZ h_9) [] [8] ?_
     obtain⟨x88,h_10,hr⟩:=aD hr
     refine zz ?_
     refine jI (fD h_10) [] [9] ?_
     obtain⟨x92,h_11,hr⟩:=aD hr
     refine zz ?_
     refine jI (fD h_11) [] [10] ?_
     obtain⟨x95,h_12,hr⟩:=aD hr
     obtain⟨x96,h_13,hr⟩:=aD hr
     obtain⟨x97,h_14,hr⟩:=aD hr
     obtain⟨q,h_15,hr⟩:=aD hr
     refine zz ?_
     refine zc (aD5 h_12) [] ?_
     refine zz ?_
     refine jI (aEV h_14) [] [13] ?_
     refine zz ?_
     obtain rfl:=sj hr
     exact oL Tryz.results16 bJ bJ (lU [])
    obtain⟨res5,hL5,hr⟩:=aD hr
    refine zz ?_
    refine aXp<|aXx (fun m s h=> ∃(x61:Int)(l5_1:List Int),iH N aC aA aB aE vi bI aZ l3 l4 m x61 l5_1=some res5∧Ghost 0 s h (aI 98 [(1,(eI .i64 vi)),(3,(.ptr 0 0)),(5,(.ptr 1 0)),(6,(.ptr 2 0)),(8,(.sl 3 0 l3.length 1 false)),(9,(.sl 4 0 l4.length 1 false)),(10,(.sl 5 0 l5_1.length 1 false)),(59,(.row none 2 (aB.map aM))),(60,(eI .i64 (aB.length:Int))),(61,(eI .i64 x61))]) [some ⟨26,[(eI .u32 aC),(.row none 35 (aA.map aL)),(.row none 2 (aB.map aM)),(eI .u32 aE)]⟩,some ⟨33,[(eI .i64 bI),(.row none 1 (aZ.map (eI .u8)))]⟩,some ⟨28,(aXk 32 0).map (eI .u8)⟩,some ⟨5,l3.map (eI .u8)⟩,some ⟨5,l4.map (eI .u8)⟩,some ⟨5,l5_1.map (eI .u8)⟩]) (n:=N) ⟨0,[],hL5,(zW 5 [0,1,2,3,4,5])⟩ (by rintro s h ⟨_,_,h0,_⟩;simp[iH]at h0) ?_
    rintro m5 s h ⟨x61,l5_1,hr5,hg⟩
    refine aXw hg ?_
    clear hg hL5
    rw[iH]at hr5
    refine zz ?_
    refine aXn ?_
    refine zk hr5 rfl (fun h16 hr5=> ?_) (fun h16 hr5=> ?_)
    ·refine zz ?_
     refine aXn<|aXp ?_
     obtain⟨x63,h_17,hr5⟩:=aD hr5
     obtain⟨x67,h_18,hr5⟩:=aD hr5
     obtain⟨x68,h_19,hr5⟩:=aD hr5
     refine zz ?_
     refine zc (aD5 h_18) [] ?_
     refine zz ?_
     exact⟨aXj.wrap (x61+1),x68,hr5,(zG [0,1,2,3,4,8])⟩
    refine zz ?_
    obtain rfl:=sj hr5
    refine zz ?_
    exact hG4 _ _ _ _ (zG [0,1,2,3,4,5]) (J4 l5_1 hr)
   obtain⟨res6,hL6,hr⟩:=aD hr
   refine zz ?_
   refine aXp<|aXx (fun m s h=> ∃(x44:Int)(e9 iB:List Int),lC N aC aA aB aE vi bI aZ m x44 e9 iB=some res6∧Ghost 0 s h (aI 98 [(1,(eI .i64 vi)),(3,(.ptr 0 0)),(5,(.ptr 1 0)),(6,(.ptr 2 0)),(8,(.sl 3 0 e9.length 1 false)),(9,(.sl 4 0 iB.length 1 false)),(10,(.row (some true) 1 [])),(42,(.row none 35 (aA.map aL))),(43,(eI .i64 (aA.length:Int))),(44,(eI .i64 x44))]) [some ⟨26,[(eI .u32 aC),(.row none 35 (aA.map aL)),(.row none 2 (aB.map aM)),(eI .u32 aE)]⟩,some ⟨33,[(eI .i64 bI),(.row none 1 (aZ.map (eI .u8)))]⟩,some ⟨28,(aXk 32 0).map (eI .u8)⟩,some ⟨5,e9.map (eI .u8)⟩,some ⟨5,iB.map (eI .u8)⟩]) (n:=N) ⟨0,[],[],hL6,(aXK (aXM (fr':=[(1,(eI .i64 vi)),(3,(.ptr 0 0)),(5,(.ptr 1 0)),(6,(.ptr 2 0)),(8,(.sl 3 0 0 1 false)),(9,(.row (some true) 1 [])),(10,(.row (some true) 1 [])),(42,(.row none 35 (aA.map aL))),(43,(eI .i64 (aA.length:Int))),(44,(eI .i64 0))]) (h1:=[some ⟨26,[(eI .u32 aC),(.row none 35 (aA.map aL)),(.row none 2 (aB.map aM)),(eI .u32 aE)]⟩,some ⟨33,[(eI .i64 bI),(.row none 1 (aZ.map (eI .u8)))]⟩,some ⟨28,(aXk 32 0).map (eI .u8)⟩]) 5 (FLe.same rfl (FLe.same rfl (FLe.same rfl (FLe.same rfl (FLe.le rfl (V.le_virt rfl) (FLe.same rfl (FLe.same rfl (FLe.same rfl (FLe.same rfl (FLe.same rfl FLe.nil)))))))))) (HLv.live (V.les_refl _ _) rfl (HLv.live (V.les_refl _ _) rfl (HLv.live (V.les_refl _ _) (all_map (fun _=>rfl) _) HLv.nil)))) (zW 5 [0,1,2,3,4]))⟩ (by rintro s h ⟨_,_,_,h0,_⟩;simp[lC]at h0) ?_
   rintro m6 s h ⟨x44,e9,iB,hr6,hg⟩
   refine aXw hg ?_
   clear hg hL6
   rw[lC]at hr6
   refine zz ?_
   refine aXn ?_
   refine zk hr6 rfl (fun h20 hr6=> ?_) (fun h20 hr6=> ?_)
   ·refine zz ?_
    refine aXn<|aXp ?_
    obtain⟨x46,h_21,hr6⟩:=aD hr6
    refine zz ?_
    refine xw (v:=(.ptr 5 0)) (h':=[some ⟨26,[(eI .u32 aC),(.row none 35 (aA.map aL)),(.row none 2 (aB.map aM)),(eI .u32 aE)]⟩,some ⟨33,[(eI .i64 bI),(.row none 1 (aZ.map (eI .u8)))]⟩,some ⟨28,(aXk 32 0).map (eI .u8)⟩,some ⟨5,e9.map (eI .u8)⟩,some ⟨5,iB.map (eI .u8)⟩,some ⟨48,(bG (eI .u8) (aXk 32 0) [(eI .u32 0),(eI .u32 0),(.row (some true) 1 [])])⟩]) (cY rG rfl rfl rfl) ?_
    obtain⟨x51,h_22,hr6⟩:=aD hr6
    obtain⟨x52,h_23,hr6⟩:=aD hr6
    refine zz ?_
    refine zc (aFw h_22) [] ?_
    obtain⟨x56,h_24,hr6⟩:=aD hr6
    refine zz ?_
    refine jI (fD h_24) [] [4] ?_
    refine zz ?_
    exact⟨aXj.wrap (x44+1),x52,x56,hr6,(zG [0,1,2,7,8])⟩
   refine zz ?_
   obtain rfl:=sj hr6
   refine zz ?_
   exact hG3 _ _ _ _ (zG [0,1,2,3,4]) (J3 e9 iB hr)
  rcases aXm (decide (vi<0))with h25|h25
  ·replace hr:=cQ hr h25
   refine xr ?_
   refine zz ?_
   exact hG2 _ _ _ _ (zG [0,1,2]) (J2 true hr)
  replace hr:=cR hr h25
  refine xr ?_
  refine zz ?_
  exact hG2 _ _ _ _ (zG [0,1,2]) (J2 (decide ((aA.length:Int)≤vi)) hr)
 obtain⟨x17,h_26,hr⟩:=aD hr
 rcases aXm (!x17)with h27|h27
 ·replace hr:=cQ hr h27
  refine xr ?_
  refine zz ?_
  refine xp (aAY h_26) ?_
  refine zz ?_
  refine xX rfl<|xX rfl<|xX rfl<|xX rfl ?_
  refine zz ?_
  exact hG1 _ _ _ _ (zG [0,1,2]) (J1 true hr)
 replace hr:=cR hr h27
 rcases aXm (decide (bI<0))with h28|h28
 ·replace hr:=cQ hr h28
  refine xr ?_
  refine zz ?_
  refine xp (aAY h_26) ?_
  refine zz ?_
  exact hG1 _ _ _ _ (zG [0,1,2]) (J1 true hr)
 replace hr:=cR hr h28
 refine xr ?_
 refine zz ?_
 refine xp (aAY h_26) ?_
 refine zz ?_
 exact hG1 _ _ _ _ (zG [0,1,2]) (J1 (decide (520<(aZ.length:Int))) hr)
theorem aAR {N:Nat}{l:List (List Int)}{r:(List Int)}(hr:qF N l=some r):
  Vm.Fn Tryz.prog 95 [] [(.row none 1 (l.map (eL 1 (eI .u8))))] (.sl 0 0 r.length 1 false) [some ⟨5,r.map (eI .u8)⟩]:=by
 refine zf Tryz.func95 Tryz.ntmps95 ?_
 unfold qF at hr
 refine zz ?_
 refine aXq fun K1 hK1 hG1=> ?_
 have J1: ∀(l0:List Int),aDt N l0=some r→K1 (aI 17 [(3,(.sl 0 0 l0.length 1 false))]) [some ⟨5,l0.map (eI .u8)⟩]:=by
  intro l0 hr
  unfold aDt at hr
  refine hK1 _ _ ?_
  refine zz ?_
  obtain rfl:=sj hr
  exact bE Tryz.results95 [0]
 obtain⟨bL,hL2,hr⟩:=aD hr
 refine zz ?_
 refine aXp<|aXx (fun m s h=> ∃(x8:Int)(aS:List Int),nN N l m x8 aS=some bL∧Ghost 0 s h (aI 17 [(3,(.sl 0 0 aS.length 1 false)),(6,(.row none 1 (l.map (eL 1 (eI .u8))))),(7,(eI .i64 (l.length:Int))),(8,(eI .i64 x8))]) [some ⟨5,aS.map (eI .u8)⟩]) (n:=N) ⟨0,[],hL2,(zW 5 [0])⟩ (by rintro s h ⟨_,_,h0,_⟩;simp[nN]at h0) ?_
 rintro m2 s h ⟨x8,aS,hr2,hg⟩
 refine aXw hg ?_
 clear hg hL2
 rw[nN]at hr2
 refine zz ?_
 refine aXn ?_
 refine zk hr2 rfl (fun h1 hr2=> ?_) (fun h1 hr2=> ?_)
 ·refine zz ?_
  refine aXn<|aXp ?_
  obtain⟨cD,h_2,hr2⟩:=aD hr2
  obtain⟨bQ,h_3,hr2⟩:=aD hr2
  refine zz ?_
  refine jI (fH h_3) [] [0] ?_
  refine zz ?_
  exact⟨aXj.wrap (x8+1),bQ,hr2,(zG [1])⟩
 refine zz ?_
 obtain rfl:=sj hr2
 refine zz ?_
 exact hG1 _ _ _ _ (zG [0]) (J1 aS hr)
theorem aJT {N:Nat}{aT:Int}{bP:List Int}{o_M o_N r:Int}(hr:oX N aT bP o_M o_N=some r):
  Vm.Fn Tryz.prog 116 [] [(.agg [(eI .i64 aT),(.row none 1 (bP.map (eI .u8))),(eI .i64 o_M),(eI .i64 o_N)])] (eI .i64 r) []:=by
 refine zf Tryz.func116 Tryz.ntmps116 ?_
 unfold oX at hr
 refine zz ?_
 refine aXn<|aXp ?_
 refine aXq fun K1 hK1 hG1=> ?_
 have J1: ∀(x3:Bool),n6 N aT bP o_M o_N x3=some r→K1 (aI 66 [(1,(.ptr 0 0)),(3,(eB x3))]) [some ⟨90,[(eI .i64 aT),(.row none 1 (bP.map (eI .u8))),(eI .i64 o_M),(eI .i64 o_N)]⟩]:=by
  intro x3 hr
  unfold n6 at hr
  refine hK1 _ _ ?_
  refine zk hr rfl (fun h1 hr=> ?_) (fun h1 hr=> ?_)
  ·refine zz ?_
   obtain rfl:=sj hr
   exact bE Tryz.results116 []
  refine aXq fun K2 hK2 hG2=> ?_
  have J2: ∀(fR:Bool),iO N aT bP o_M o_N fR=some r→K2 (aI 66 [(1,(.ptr 0 0)),(12,(eB fR))]) [some ⟨90,[(eI .i64 aT),(.row none 1 (bP.map (eI .u8))),(eI .i64 o_M),(eI .i64 o_N)]⟩]:=by
   intro fR hr
   unfold iO at hr
   refine hK2 _ _ ?_
   refine zk hr rfl (fun h2 hr=> ?_) (fun h2 hr=> ?_)
   ·refine zz ?_
    obtain rfl:=sj hr
    exact bE Tryz.results116 []
   refine zz ?_
   refine zk hr rfl (fun h3 hr=> ?_) (fun h3 hr=> ?_)
   ·refine zz ?_
    obtain rfl:=sj hr
    exact bE Tryz.results116 []
   refine aXq fun K3 hK3 hG3=> ?_
   have J3: ∀(x40:Bool),iT N x40=some r→K3 (aI 66 [(40,(eB x40))]) []:=by
    intro x40 hr
    unfold iT at hr
    refine hK3 _ _ ?_
    refine zk hr rfl (fun h4 hr=> ?_) (fun h4 hr=> ?_)
    ·refine zz ?_
     obtain rfl:=sj hr
     exact bE Tryz.results116 []
    refine zz ?_
    obtain rfl:=sj hr
    exact bE Tryz.results116 []
   rcases aXm (aT == 11)with h5|h5
   ·replace hr:=cQ hr h5
    rcases aXm (decide (o_N<1))with h6|h6
    ·replace hr:=cQ hr h6
     refine xr ?_
     refine zz ?_
     refine xX rfl<|xX rfl<|xX rfl ?_
     refine zz ?_
     refine xX rfl<|xX rfl<|xX rfl<|xX rfl<|xX rfl ?_
     refine zz ?_
     exact hG3 _ _ _ _ (zG []) (J3 true hr)
    replace hr:=cR hr h6
    rcases aXm (decide (15<o_N))with h7|h7
    ·replace hr:=cQ hr h7
     refine xr ?_
     refine zz ?_
     refine xX rfl<|xX rfl<|xX rfl<|xX rfl<|xX rfl ?_
     refine zz ?_
     exact hG3 _ _ _ _ (zG []) (J3 true hr)
    replace hr:=cR hr h7
    rcases aXm (decide (o_M<1))with h8|h8
    ·replace hr:=cQ hr h8
     refine xr ?_
     refine zz ?_
     exact hG3 _ _ _ _ (zG []) (J3 true hr)
    replace hr:=cR hr h8
    refine xr ?_
    refine zz ?_
    exact hG3 _ _ _ _ (zG []) (J3 (decide (o_N<o_M)) hr)
   replace hr:=cR hr h5
   refine xr ?_
   refine zz ?_
   exact hG3 _ _ _ _ (zG []) (J3 false hr)
  refine aXq fun K4 hK4 hG4=> ?_
  have J4: ∀(aFV:Bool),oG N aT bP o_M o_N aFV=some r→K4 (aI 66 [(1,(.ptr 0 0)),(12,(eB aFV))]) [some ⟨90,[(eI .i64 aT),(.row none 1 (bP.map (eI .u8))),(eI .i64 o_M),(eI .i64 o_N)]⟩]:=by
   intro aFV hr
   unfold oG at hr
   refine hK4 _ _ ?_
   refine zk hr rfl (fun h9 hr=> ?_) (fun h9 hr=> ?_)
   ·refine zz ?_
    exact hG2 _ _ _ _ (zG [0]) (J2 aFV hr)
   rcases aXm (o_M != 0)with h10|h10
   ·replace hr:=cQ hr h10
    refine xr ?_
    refine zz ?_
    refine xSg (v:=(.ptr 0 0)) rfl rfl rfl (nZ rfl (aN7 ..)) ?_
    refine xSg (v:=(eI .i64 aT)) rfl rfl rfl (cA rfl (ldP rfl (qG dS rfl rfl))) ?_
    refine xSg (v:=(eB (aT != 11))) rfl rfl rfl (tD rfl rfl (aN3 ..)) ?_
    refine zz ?_
    exact hG2 _ _ _ _ (zG [0]) (J2 (aT != 11) hr)
   replace hr:=cR hr h10
   rcases aXm (o_N != 0)with h11|h11
   ·replace hr:=cQ hr h11
    refine xr ?_
    refine zz ?_
    exact hG2 _ _ _ _ (zG [0]) (J2 (aT != 11) hr)
   replace hr:=cR hr h11
   refine xr ?_
   refine zz ?_
   exact hG2 _ _ _ _ (zG [0]) (J2 false hr)
  rcases aXm (decide (0<(bP.length:Int)))with h12|h12
  ·replace hr:=cQ hr h12
   refine xr ?_
   refine zz ?_
   exact hG4 _ _ _ _ (zG [0]) (J4 (aT != 1) hr)
  replace hr:=cR hr h12
  refine xr ?_
  refine zz ?_
  exact hG4 _ _ _ _ (zG [0]) (J4 false hr)
 rcases aXm (decide (aT<1))with h13|h13
 ·replace hr:=cQ hr h13
  refine xr ?_
  refine zz ?_
  exact hG1 _ _ _ _ (zG [0]) (J1 true hr)
 replace hr:=cR hr h13
 refine xr ?_
 refine zz ?_
 exact hG1 _ _ _ _ (zG [0]) (J1 (decide (17<aT)) hr)
theorem aMq {N:Nat}{b:List Int}{r:Int×(List Int)×Int×Int×(List Int)×Int}(hr:aC2 N b=some r):
  Vm.Fn Tryz.prog 94 [] [(.row none 1 (b.map (eI .u8)))] (.tup [(.agg [(eI .i64 r.1),(.sl 0 0 r.2.1.length 1 false),(eI .i64 r.2.2.1),(eI .i64 r.2.2.2.1)]),(.row none 1 (r.2.2.2.2.1.map (eI .u8))),(eI .i64 r.2.2.2.2.2)]) [some ⟨5,r.2.1.map (eI .u8)⟩]:=by
 refine zf Tryz.func94 Tryz.ntmps94 ?_
 unfold aC2 at hr
 obtain⟨x8,h_1,hr⟩:=aD hr
 refine zz ?_
 refine aXn ?_
 refine aXq fun K1 hK1 hG1=> ?_
 have J1: ∀(x19:Bool),xW N b x8 x19=some r→K1 (aI 77 [(0,(.row none 1 (b.map (eI .u8)))),(2,(.ptr 0 0)),(5,(.ptr 1 0)),(19,(eB x19))]) [some ⟨90,[(eI .i64 0),(.row (some true) 1 []),(eI .i64 0),(eI .i64 0)]⟩,some ⟨90,[(eI .i64 (aXj.wrap x8)),(.row (some true) 1 []),(eI .i64 0),(eI .i64 0)]⟩]:=by
  intro x19 hr
  unfold xW at hr
  refine hK1 _ _ ?_
  refine zk hr rfl (fun h2 hr=> ?_) (fun h2 hr=> ?_)
  ·refine zz ?_
   obtain rfl:=sj hr
   exact zF Tryz.results94 bJ bJ bJ (zW 5 [2])
  obtain⟨bV,h_3,hr⟩:=aD hr
  refine zz ?_
  refine aXq fun K2 hK2 hG2=> ?_
  have J2: ∀(b_1:List Int)(c1 aCq:Int)(l2:List Int),o5 N x8 b_1 c1 aCq l2=some r→K2 (aI 77 [(0,(.row none 1 (b_1.map (eI .u8)))),(2,(.ptr 0 0)),(5,(.ptr 1 0))]) [some ⟨90,[(eI .i64 0),(.row (some true) 1 []),(eI .i64 0),(eI .i64 0)]⟩,some ⟨90,[(eI .i64 (aXj.wrap x8)),(.sl 2 0 l2.length 1 false),(eI .i64 c1),(eI .i64 aCq)]⟩,some ⟨5,l2.map (eI .u8)⟩]:=by
   intro b_1 c1 aCq l2 hr
   unfold o5 at hr
   refine hK2 _ _<|aXn ?_
   obtain⟨x76,h_4,hr⟩:=aD hr
   refine aXA mixed [] [116] [[0,1,2,3,4,5,6]] ?_
   refine zz ?_
   refine xG (v:=(eI .i64 x76)) (h':=[some ⟨90,[(eI .i64 0),(.row (some true) 1 []),(eI .i64 0),(eI .i64 0)]⟩,some ⟨90,[(eI .i64 (aXj.wrap x8)),(.sl 2 0 l2.length 1 false),(eI .i64 c1),(eI .i64 aCq)]⟩,some ⟨5,l2.map (eI .u8)⟩]) rfl (Vm.Fn.lendR (aJT h_4) [] [2] (by decide) rfl (by decide) Lend.nil (Brw.row (aJ9 (pU rfl (pU (aPS (d:=3) rfl rfl (fun _=>rfl)) (pU rfl (pU rfl aJS))))) Brw.nil) rfl rfB.nil rfl zH) ?_
   refine zz ?_
   obtain rfl:=sj hr
   exact zF Tryz.results94 bJ bJ bJ (zG [2])
  refine zz ?_
  refine aXp ?_
  refine zz ?_
  refine zk hr rfl (fun h6 hr=> ?_) (fun h6 hr=> ?_)
  ·refine aXn ?_
   refine aXq fun K3 hK3 hG3=> ?_
   have J3: ∀(x39:Bool),yQ N x8 bV x39=some r→K3 (aI 77 [(0,(.row none 1 (bV.map (eI .u8)))),(2,(.ptr 0 0)),(5,(.ptr 1 0)),(39,(eB x39))]) [some ⟨90,[(eI .i64 0),(.row (some true) 1 []),(eI .i64 0),(eI .i64 0)]⟩,some ⟨90,[(eI .i64 (aXj.wrap x8)),(.row (some true) 1 []),(eI .i64 0),(eI .i64 0)]⟩]:=by
    intro x39 hr
    unfold yQ at hr
    refine hK3 _ _ ?_
    refine zk hr rfl (fun h7 hr=> ?_) (fun h7 hr=> ?_)
    ·refine zz ?_
     obtain rfl:=sj hr
     exact zF Tryz.results94 bJ bJ bJ (zW 5 [2])
    obtain⟨x42,h_8,hr⟩:=aD hr
    obtain⟨x48,h_9,hr⟩:=aD hr
    obtain⟨x50,h_10,hr⟩:=aD hr
    obtain⟨x53,h_12,hr⟩:=aD hr
    refine zz ?_
    refine AB.rd (fQ []) (fQ [95]) mixed<|aXl (n:=10) (i:=0) (by decide +kernel) rfl (gS (v:=(.row none 1 (bV.map (eI .u8)))) (sv (mR rfl)))<|aXl (n:=9) (i:=1) (by decide +kernel) rfl (gS (v:=(eI .i64 (aXj.wrap (1+(aXj.wrap x42))))) (sv (mR rfl)))<|aXl (n:=8) (i:=2) (by decide +kernel) rfl (gS (v:=(.row none 1 (x48.map (eI .u8)))) (sv (cW rfl rfl rfl (vX dB dO rfl rfl h_9))))<|aXl (n:=7) (i:=3) (by decide +kernel) rfl (gS (v:=(.sl 2 0 1 1 false)) (h':=[some ⟨90,[(eI .i64 0),(.row (some true) 1 []),(eI .i64 0),(eI .i64 0)]⟩,some ⟨90,[(eI .i64 (aXj.wrap x8)),(.row (some true) 1 []),(eI .i64 0),(eI .i64 0)]⟩,some ⟨31,[x48].map (eL 1 (eI .u8))⟩]) (sv (pT rfl (aPb (xs:=[x48].map (eL 1 (eI .u8))) aB8 dB zl zl rfl rfl rfl rfl rfl rfl rfl)))) ?_
    refine aXl (n:=6) (i:=4) (by decide +kernel) rfl (gC (v:=(.sl 3 0 x50.length 1 false)) (h':=[some ⟨90,[(eI .i64 0),(.row (some true) 1 []),(eI .i64 0),(eI .i64 0)]⟩,some ⟨90,[(eI .i64 (aXj.wrap x8)),(.row (some true) 1 []),(eI .i64 0),(eI .i64 0)]⟩,some ⟨31,[x48].map (eL 1 (eI .u8))⟩,some ⟨5,x50.map (eI .u8)⟩]) (zL (aAR h_10) [] [2]) rfl (fun _=>⟨_,rfl⟩) (sv (mA rfl pV)))<|aXl (n:=5) (i:=5) (by decide +kernel) rfl (gS (v:=(.row none 1 (bV.map (eI .u8)))) (sv (mR rfl)))<|aXl (n:=4) (i:=6) (by decide +kernel) rfl (gS (v:=(eI .i64 (aXj.wrap (1+(aXj.wrap x42))))) (sv (mR rfl))) ?_
    refine aXl (n:=3) (i:=8) (by decide +kernel) rfl (gS (v:=(.ptr 1 1)) (sv (nZ rfl (aJU ..)))) ?_
    refine aXN (m:=1) (L:=lst [0,1,2,3,4,5,6,7,8,9] 11) (s1:=aI 77 [(0,(.row none 1 (bV.map (eI .u8)))),(2,(.ptr 0 0)),(5,(.ptr 1 0)),(53,(.row none 1 (x53.map (eI .u8))))]) (h1:=[some ⟨90,[(eI .i64 0),(.row (some true) 1 []),(eI .i64 0),(eI .i64 0)]⟩,some ⟨90,[(eI .i64 (aXj.wrap x8)),(.sl 2 0 x50.length 1 false),(eI .i64 0),(eI .i64 0)]⟩,some ⟨5,x50.map (eI .u8)⟩]) ?_ (fun J=> ?_)
    ·refine aXl (n:=0) (i:=10) (by decide +kernel) rfl (gS (v:=(.row none 1 (x53.map (eI .u8)))) (sv (pS rfl)))<|aXF (by decide +kernel) ?_
     refine zz ?_
     exact hG2 _ _ _ _ (zG [0,1,2]) (J2 x53 0 0 x50 hr)
    refine aXy (n:=2) [7,9] (by decide +kernel) (by decide) ?_
    refine(aXt rfl (gS (v:=(.row none 1 (x53.map (eI .u8)))) (sv (cW rfl rfl rfl (vX dB dO rfl rfl h_12)))) ?_ (aXt rfl (gN (h':=[some ⟨90,[(eI .i64 0),(.row (some true) 1 []),(eI .i64 0),(eI .i64 0)]⟩,some ⟨90,[(eI .i64 (aXj.wrap x8)),(.sl 3 0 x50.length 1 false),(eI .i64 0),(eI .i64 0)]⟩,some ⟨31,[x48].map (eL 1 (eI .u8))⟩,some ⟨5,x50.map (eI .u8)⟩]) (sv (bO rfl rfl (jE dB rfl rfl rfl zl rfl)))) ?_ aXC))
    ·refine aXl (n:=1) (i:=9) (by decide +kernel) rfl (gN (h':=[some ⟨90,[(eI .i64 0),(.row (some true) 1 []),(eI .i64 0),(eI .i64 0)]⟩,some ⟨90,[(eI .i64 (aXj.wrap x8)),(.sl 3 0 x50.length 1 false),(eI .i64 0),(eI .i64 0)]⟩,some ⟨31,[x48].map (eL 1 (eI .u8))⟩,some ⟨5,x50.map (eI .u8)⟩]) (sv (bO rfl rfl (jE dB rfl rfl rfl zl rfl)))) ?_
     exact aXz (by decide +kernel) (by decide +kernel) (zG [0,1,3]) J
    refine aXl (n:=1) (i:=7) (by decide +kernel) rfl (gS (v:=(.row none 1 (x53.map (eI .u8)))) (sv (cW rfl rfl rfl (vX dB dO rfl rfl h_12)))) ?_
    exact aXz (by decide +kernel) (by decide +kernel) (zG [0,1,3]) J
   rcases aXm ((bV.length:Int) == 0)with h13|h13
   ·replace hr:=cQ hr h13
    refine xr ?_
    refine zz ?_
    exact hG3 _ _ _ _ (zG [0,1]) (J3 true hr)
   replace hr:=cR hr h13
   obtain⟨x35,h_14,hr⟩:=aD hr
   refine xr ?_
   refine zz ?_
   exact hG3 _ _ _ _ (zG [0,1]) (J3 (decide ((aXj.wrap ((bV.length:Int)-1))<(aXj.wrap x35))) hr)
  refine zz ?_
  refine zk hr rfl (fun h15 hr=> ?_) (fun h15 hr=> ?_)
  ·refine aXn ?_
   refine zz ?_
   refine zk hr rfl (fun h16 hr=> ?_) (fun h16 hr=> ?_)
   ·refine zz ?_
    obtain rfl:=sj hr
    exact zF Tryz.results94 bJ bJ bJ (zW 5 [2])
   obtain⟨x62,h_17,hr⟩:=aD hr
   obtain⟨x66,h_18,hr⟩:=aD hr
   obtain⟨x70,h_19,hr⟩:=aD hr
   refine zz ?_
   refine AB.rd (fQ []) (fQ []) mixed<|aXl (n:=14) (i:=0) (by decide +kernel) rfl (gS (v:=(.row none 1 (bV.map (eI .u8)))) (sv (mR rfl)))<|aXl (n:=13) (i:=1) (by decide +kernel) rfl (gS (sv (aDs rfl rfl (iaR dB dO h_17))))<|aXl (n:=12) (i:=2) (by decide +kernel) rfl (gS (v:=(eI .u8 x62)) (sv (cA rfl (ldR h_17 (qG dO rfl rfl)))))<|aXl (n:=11) (i:=3) (by decide +kernel) rfl (gS (v:=(eI .i64 (aXj.wrap x62))) (sv (jX rfl (iI _ ⟨_,dO⟩ dS rfl))))<|aXl (n:=10) (i:=4) (by decide +kernel) rfl (gS (v:=(.row none 1 (bV.map (eI .u8)))) (sv (mR rfl))) ?_
   refine aXl (n:=9) (i:=5) (by decide +kernel) rfl (gS (sv (aDs rfl rfl (iaR dB dO h_18))))<|aXl (n:=8) (i:=8) (by decide +kernel) rfl (gS (v:=(.row none 1 (bV.map (eI .u8)))) (sv (mR rfl)))<|aXl (n:=7) (i:=10) (by decide +kernel) rfl (gS (v:=(.ptr 1 2)) (sv (nZ rfl (aJ0 ..)))) ?_
   refine aXN (m:=1) (L:=lst [0,1,2,3,4,5,6,7,8,9,10,11,12,13] 15) (s1:=aI 77 [(0,(.row none 1 (bV.map (eI .u8)))),(2,(.ptr 0 0)),(5,(.ptr 1 0)),(70,(.row none 1 (x70.map (eI .u8))))]) (h1:=[some ⟨90,[(eI .i64 0),(.row (some true) 1 []),(eI .i64 0),(eI .i64 0)]⟩,some ⟨90,[(eI .i64 (aXj.wrap x8)),(.row (some true) 1 []),(eI .i64 (aXj.wrap x62)),(eI .i64 (aXj.wrap x66))]⟩]) ?_ (fun J=> ?_)
   ·refine aXl (n:=0) (i:=14) (by decide +kernel) rfl (gS (v:=(.row none 1 (x70.map (eI .u8)))) (sv (pS rfl)))<|aXF (by decide +kernel) ?_
    refine zz ?_
    exact hG2 _ _ _ _ (aXK (aXM (fr':=[(0,(.row none 1 (x70.map (eI .u8)))),(2,(.ptr 0 0)),(5,(.ptr 1 0))]) (h1:=[some ⟨90,[(eI .i64 0),(.row (some true) 1 []),(eI .i64 0),(eI .i64 0)]⟩,some ⟨90,[(eI .i64 (aXj.wrap x8)),(.sl 2 0 0 1 false),(eI .i64 (aXj.wrap x62)),(eI .i64 (aXj.wrap x66))]⟩]) 5 (FLe.same rfl (FLe.same rfl (FLe.same rfl FLe.nil))) (HLv.live (V.les_refl _ _) rfl (HLv.live (V.les_cons (V.le_refl _ _) (V.les_cons (V.le_virt rfl) (V.les_cons (V.le_refl _ _) (V.les_cons (V.le_refl _ _) V.les_nil)))) rfl HLv.nil))) (lU [0,1,2])) (J2 x70 (aXj.wrap x62) (aXj.wrap x66) [] hr)
   refine aXy (n:=6) [6,9,11] (by decide +kernel) (by decide) ?_
   refine(aXt rfl (gS (v:=(eI .u8 x66)) (sv (cA rfl (ldR h_18 (qG dO rfl rfl))))) ?_ (aXt rfl (gS (v:=(.row none 1 (x70.map (eI .u8)))) (sv (cW rfl rfl rfl (vX dB dO rfl rfl h_19)))) ?_ (aXt rfl (gN (h':=[some ⟨90,[(eI .i64 0),(.row (some true) 1 []),(eI .i64 0),(eI .i64 0)]⟩,some ⟨90,[(eI .i64 (aXj.wrap x8)),(.row (some true) 1 []),(eI .i64 (aXj.wrap x62)),(eI .i64 0)]⟩]) (sv (bO rfl rfl (jE dS rfl rfl rfl zl rfl)))) ?_ aXC)))
   ·refine aXy (n:=5) [7,9,11] (by decide +kernel) (by decide) ?_
    refine(aXt rfl (gS (v:=(eI .i64 (aXj.wrap x66))) (sv (jX rfl (iI _ ⟨_,dO⟩ dS rfl)))) ?_ (aXt rfl (gS (v:=(.row none 1 (x70.map (eI .u8)))) (sv (cW rfl rfl rfl (vX dB dO rfl rfl h_19)))) ?_ (aXt rfl (gN (h':=[some ⟨90,[(eI .i64 0),(.row (some true) 1 []),(eI .i64 0),(eI .i64 0)]⟩,some ⟨90,[(eI .i64 (aXj.wrap x8)),(.row (some true) 1 []),(eI .i64 (aXj.wrap x62)),(eI .i64 0)]⟩]) (sv (bO rfl rfl (jE dS rfl rfl rfl zl rfl)))) ?_ aXC)))
    ·refine aXy (n:=4) [9,11] (by decide +kernel) (by decide) ?_
     refine(aXt rfl (gS (v:=(.row none 1 (x70.map (eI .u8)))) (sv (cW rfl rfl rfl (vX dB dO rfl rfl h_19)))) ?_ (aXt rfl (gN (h':=[some ⟨90,[(eI .i64 0),(.row (some true) 1 []),(eI .i64 0),(eI .i64 0)]⟩,some ⟨90,[(eI .i64 (aXj.wrap x8)),(.row (some true) 1 []),(eI .i64 (aXj.wrap x62)),(eI .i64 0)]⟩]) (sv (bO rfl rfl (jE dS rfl rfl rfl zl rfl)))) ?_ aXC))
     ·refine aXl (n:=3) (i:=11) (by decide +kernel) rfl (gN (h':=[some ⟨90,[(eI .i64 0),(.row (some true) 1 []),(eI .i64 0),(eI .i64 0)]⟩,some ⟨90,[(eI .i64 (aXj.wrap x8)),(.row (some true) 1 []),(eI .i64 (aXj.wrap x62)),(eI .i64 0)]⟩]) (sv (bO rfl rfl (jE dS rfl rfl rfl zl rfl))))<|aXl (n:=2) (i:=12) (by decide +kernel) rfl (gS (v:=(.ptr 1 3)) (sv (nZ rfl (j8 ..))))<|aXl (n:=1) (i:=13) (by decide +kernel) rfl (gN (h':=[some ⟨90,[(eI .i64 0),(.row (some true) 1 []),(eI .i64 0),(eI .i64 0)]⟩,some ⟨90,[(eI .i64 (aXj.wrap x8)),(.row (some true) 1 []),(eI .i64 (aXj.wrap x62)),(eI .i64 (aXj.wrap x66))]⟩]) (sv (bO rfl rfl (jE dS rfl rfl rfl zl rfl)))) ?_
      exact aXz (by decide +kernel) (by decide +kernel) (zG [0,1]) J
     refine aXl (n:=3) (i:=12) (by decide +kernel) rfl (gS (v:=(.ptr 1 3)) (sv (nZ rfl (j8 ..))))<|aXy (n:=2) [9,13] (by decide +kernel) (by decide) ?_
     refine(aXt rfl (gS (v:=(.row none 1 (x70.map (eI .u8)))) (sv (cW rfl rfl rfl (vX dB dO rfl rfl h_19)))) ?_ (aXt rfl (gN (h':=[some ⟨90,[(eI .i64 0),(.row (some true) 1 []),(eI .i64 0),(eI .i64 0)]⟩,some ⟨90,[(eI .i64 (aXj.wrap x8)),(.row (some true) 1 []),(eI .i64 (aXj.wrap x62)),(eI .i64 (aXj.wrap x66))]⟩]) (sv (bO rfl rfl (jE dS rfl rfl rfl zl rfl)))) ?_ aXC))
     ·refine aXl (n:=1) (i:=13) (by decide +kernel) rfl (gN (h':=[some ⟨90,[(eI .i64 0),(.row (some true) 1 []),(eI .i64 0),(eI .i64 0)]⟩,some ⟨90,[(eI .i64 (aXj.wrap x8)),(.row (some true) 1 []),(eI .i64 (aXj.wrap x62)),(eI .i64 (aXj.wrap x66))]⟩]) (sv (bO rfl rfl (jE dS rfl rfl rfl zl rfl)))) ?_
      exact aXz (by decide +kernel) (by decide +kernel) (zG [0,1]) J
     refine aXl (n:=1) (i:=9) (by decide +kernel) rfl (gS (v:=(.row none 1 (x70.map (eI .u8)))) (sv (cW rfl rfl rfl (vX dB dO rfl rfl h_19)))) ?_
     exact aXz (by decide +kernel) (by decide +kernel) (zG [0,1]) J
    ·refine aXy (n:=4) [7,11] (by decide +kernel) (by decide) ?_
     refine(aXt rfl (gS (v:=(eI .i64 (aXj.wrap x66))) (sv (jX rfl (iI _ ⟨_,dO⟩ dS rfl)))) ?_ (aXt rfl (gN (h':=[some ⟨90,[(eI .i64 0),(.row (some true) 1 []),(eI .i64 0),(eI .i64 0)]⟩,some ⟨90,[(eI .i64 (aXj.wrap x8)),(.row (some true) 1 []),(eI .i64 (aXj.wrap x62)),(eI .i64 0)]⟩]) (sv (bO rfl rfl (jE dS rfl rfl rfl zl rfl)))) ?_ aXC))
     ·refine aXl (n:=3) (i:=11) (by decide +kernel) rfl (gN (h':=[some ⟨90,[(eI .i64 0),(.row (some true) 1 []),(eI .i64 0),(eI .i64 0)]⟩,some ⟨90,[(eI .i64 (aXj.wrap x8)),(.row (some true) 1 []),(eI .i64 (aXj.wrap x62)),(eI .i64 0)]⟩]) (sv (bO rfl rfl (jE dS rfl rfl rfl zl rfl))))<|aXl (n:=2) (i:=12) (by decide +kernel) rfl (gS (v:=(.ptr 1 3)) (sv (nZ rfl (j8 ..))))<|aXl (n:=1) (i:=13) (by decide +kernel) rfl (gN (h':=[some ⟨90,[(eI .i64 0),(.row (some true) 1 []),(eI .i64 0),(eI .i64 0)]⟩,some ⟨90,[(eI .i64 (aXj.wrap x8)),(.row (some true) 1 []),(eI .i64 (aXj.wrap x62)),(eI .i64 (aXj.wrap x66))]⟩]) (sv (bO rfl rfl (jE dS rfl rfl rfl zl rfl)))) ?_
      exact aXz (by decide +kernel) (by decide +kernel) (zG [0,1]) J
     refine aXl (n:=3) (i:=7) (by decide +kernel) rfl (gS (v:=(eI .i64 (aXj.wrap x66))) (sv (jX rfl (iI _ ⟨_,dO⟩ dS rfl))))<|aXl (n:=2) (i:=12) (by decide +kernel) rfl (gS (v:=(.ptr 1 3)) (sv (nZ rfl (j8 ..))))<|aXl (n:=1) (i:=13) (by decide +kernel) rfl (gN (h':=[some ⟨90,[(eI .i64 0),(.row (some true) 1 []),(eI .i64 0),(eI .i64 0)]⟩,some ⟨90,[(eI .i64 (aXj.wrap x8)),(.row (some true) 1 []),(eI .i64 (aXj.wrap x62)),(eI .i64 (aXj.wrap x66))]⟩]) (sv (bO rfl rfl (jE dS rfl rfl rfl zl rfl)))) ?_
     exact aXz (by decide +kernel) (by decide +kernel) (zG [0,1]) J
    refine aXl (n:=4) (i:=7) (by decide +kernel) rfl (gS (v:=(eI .i64 (aXj.wrap x66))) (sv (jX rfl (iI _ ⟨_,dO⟩ dS rfl))))<|aXl (n:=3) (i:=12) (by decide +kernel) rfl (gS (v:=(.ptr 1 3)) (sv (nZ rfl (j8 ..))))<|aXy (n:=2) [9,13] (by decide +kernel) (by decide) ?_
    refine(aXt rfl (gS (v:=(.row none 1 (x70.map (eI .u8)))) (sv (cW rfl rfl rfl (vX dB dO rfl rfl h_19)))) ?_ (aXt rfl (gN (h':=[some ⟨90,[(eI .i64 0),(.row (some true) 1 []),(eI .i64 0),(eI .i64 0)]⟩,some ⟨90,[(eI .i64 (aXj.wrap x8)),(.row (some true) 1 []),(eI .i64 (aXj.wrap x62)),(eI .i64 (aXj.wrap x66))]⟩]) (sv (bO rfl rfl (jE dS rfl rfl rfl zl rfl)))) ?_ aXC))
    ·refine aXl (n:=1) (i:=13) (by decide +kernel) rfl (gN (h':=[some ⟨90,[(eI .i64 0),(.row (some true) 1 []),(eI .i64 0),(eI .i64 0)]⟩,some ⟨90,[(eI .i64 (aXj.wrap x8)),(.row (some true) 1 []),(eI .i64 (aXj.wrap x62)),(eI .i64 (aXj.wrap x66))]⟩]) (sv (bO rfl rfl (jE dS rfl rfl rfl zl rfl)))) ?_
     exact aXz (by decide +kernel) (by decide +kernel) (zG [0,1]) J
    refine aXl (n:=1) (i:=9) (by decide +kernel) rfl (gS (v:=(.row none 1 (x70.map (eI .u8)))) (sv (cW rfl rfl rfl (vX dB dO rfl rfl h_19)))) ?_
    exact aXz (by decide +kernel) (by decide +kernel) (zG [0,1]) J
   ·refine aXy (n:=5) [6,11] (by decide +kernel) (by decide) ?_
    refine(aXt rfl (gS (v:=(eI .u8 x66)) (sv (cA rfl (ldR h_18 (qG dO rfl rfl))))) ?_ (aXt rfl (gN (h':=[some ⟨90,[(eI .i64 0),(.row (some true) 1 []),(eI .i64 0),(eI .i64 0)]⟩,some ⟨90,[(eI .i64 (aXj.wrap x8)),(.row (some true) 1 []),(eI .i64 (aXj.wrap x62)),(eI .i64 0)]⟩]) (sv (bO rfl rfl (jE dS rfl rfl rfl zl rfl)))) ?_ aXC))
    ·refine aXy (n:=4) [7,11] (by decide +kernel) (by decide) ?_
     refine(aXt rfl (gS (v:=(eI .i64 (aXj.wrap x66))) (sv (jX rfl (iI _ ⟨_,dO⟩ dS rfl)))) ?_ (aXt rfl (gN (h':=[some ⟨90,[(eI .i64 0),(.row (some true) 1 []),(eI .i64 0),(eI .i64 0)]⟩,some ⟨90,[(eI .i64 (aXj.wrap x8)),(.row (some true) 1 []),(eI .i64 (aXj.wrap x62)),(eI .i64 0)]⟩]) (sv (bO rfl rfl (jE dS rfl rfl rfl zl rfl)))) ?_ aXC))
     ·refine aXl (n:=3) (i:=11) (by decide +kernel) rfl (gN (h':=[some ⟨90,[(eI .i64 0),(.row (some true) 1 []),(eI .i64 0),(eI .i64 0)]⟩,some ⟨90,[(eI .i64 (aXj.wrap x8)),(.row (some true) 1 []),(eI .i64 (aXj.wrap x62)),(eI .i64 0)]⟩]) (sv (bO rfl rfl (jE dS rfl rfl rfl zl rfl))))<|aXl (n:=2) (i:=12) (by decide +kernel) rfl (gS (v:=(.ptr 1 3)) (sv (nZ rfl (j8 ..))))<|aXl (n:=1) (i:=13) (by decide +kernel) rfl (gN (h':=[some ⟨90,[(eI .i64 0),(.row (some true) 1 []),(eI .i64 0),(eI .i64 0)]⟩,some ⟨90,[(eI .i64 (aXj.wrap x8)),(.row (some true) 1 []),(eI .i64 (aXj.wrap x62)),(eI .i64 (aXj.wrap x66))]⟩]) (sv (bO rfl rfl (jE dS rfl rfl rfl zl rfl)))) ?_
      exact aXz (by decide +kernel) (by decide +kernel) (zG [0,1]) J
     refine aXl (n:=3) (i:=7) (by decide +kernel) rfl (gS (v:=(eI .i64 (aXj.wrap x66))) (sv (jX rfl (iI _ ⟨_,dO⟩ dS rfl))))<|aXl (n:=2) (i:=12) (by decide +kernel) rfl (gS (v:=(.ptr 1 3)) (sv (nZ rfl (j8 ..))))<|aXl (n:=1) (i:=13) (by decide +kernel) rfl (gN (h':=[some ⟨90,[(eI .i64 0),(.row (some true) 1 []),(eI .i64 0),(eI .i64 0)]⟩,some ⟨90,[(eI .i64 (aXj.wrap x8)),(.row (some true) 1 []),(eI .i64 (aXj.wrap x62)),(eI .i64 (aXj.wrap x66))]⟩]) (sv (bO rfl rfl (jE dS rfl rfl rfl zl rfl)))) ?_
     exact aXz (by decide +kernel) (by decide +kernel) (zG [0,1]) J
    refine aXl (n:=4) (i:=6) (by decide +kernel) rfl (gS (v:=(eI .u8 x66)) (sv (cA rfl (ldR h_18 (qG dO rfl rfl)))))<|aXl (n:=3) (i:=7) (by decide +kernel) rfl (gS (v:=(eI .i64 (aXj.wrap x66))) (sv (jX rfl (iI _ ⟨_,dO⟩ dS rfl))))<|aXl (n:=2) (i:=12) (by decide +kernel) rfl (gS (v:=(.ptr 1 3)) (sv (nZ rfl (j8 ..))))<|aXl (n:=1) (i:=13) (by decide +kernel) rfl (gN (h':=[some ⟨90,[(eI .i64 0),(.row (some true) 1 []),(eI .i64 0),(eI .i64 0)]⟩,some ⟨90,[(eI .i64 (aXj.wrap x8)),(.row (some true) 1 []),(eI .i64 (aXj.wrap x62)),(eI .i64 (aXj.wrap x66))]⟩]) (sv (bO rfl rfl (jE dS rfl rfl rfl zl rfl)))) ?_
    exact aXz (by decide +kernel) (by decide +kernel) (zG [0,1]) J
   refine aXl (n:=5) (i:=6) (by decide +kernel) rfl (gS (v:=(eI .u8 x66)) (sv (cA rfl (ldR h_18 (qG dO rfl rfl)))))<|aXl (n:=4) (i:=7) (by decide +kernel) rfl (gS (v:=(eI .i64 (aXj.wrap x66))) (sv (jX rfl (iI _ ⟨_,dO⟩ dS rfl))))<|aXl (n:=3) (i:=12) (by decide +kernel) rfl (gS (v:=(.ptr 1 3)) (sv (nZ rfl (j8 ..))))<|aXy (n:=2) [9,13] (by decide +kernel) (by decide) ?_
   refine(aXt rfl (gS (v:=(.row none 1 (x70.map (eI .u8)))) (sv (cW rfl rfl rfl (vX dB dO rfl rfl h_19)))) ?_ (aXt rfl (gN (h':=[some ⟨90,[(eI .i64 0),(.row (some true) 1 []),(eI .i64 0),(eI .i64 0)]⟩,some ⟨90,[(eI .i64 (aXj.wrap x8)),(.row (some true) 1 []),(eI .i64 (aXj.wrap x62)),(eI .i64 (aXj.wrap x66))]⟩]) (sv (bO rfl rfl (jE dS rfl rfl rfl zl rfl)))) ?_ aXC))
   ·refine aXl (n:=1) (i:=13) (by decide +kernel) rfl (gN (h':=[some ⟨90,[(eI .i64 0),(.row (some true) 1 []),(eI .i64 0),(eI .i64 0)]⟩,some ⟨90,[(eI .i64 (aXj.wrap x8)),(.row (some true) 1 []),(eI .i64 (aXj.wrap x62)),(eI .i64 (aXj.wrap x66))]⟩]) (sv (bO rfl rfl (jE dS rfl rfl rfl zl rfl)))) ?_
    exact aXz (by decide +kernel) (by decide +kernel) (zG [0,1]) J
   refine aXl (n:=1) (i:=9) (by decide +kernel) rfl (gS (v:=(.row none 1 (x70.map (eI .u8)))) (sv (cW rfl rfl rfl (vX dB dO rfl rfl h_19)))) ?_
   exact aXz (by decide +kernel) (by decide +kernel) (zG [0,1]) J
  refine zz ?_
  exact hG2 _ _ _ _ (aXK (aXM (fr':=[(0,(.row none 1 (bV.map (eI .u8)))),(2,(.ptr 0 0)),(5,(.ptr 1 0))]) (h1:=[some ⟨90,[(eI .i64 0),(.row (some true) 1 []),(eI .i64 0),(eI .i64 0)]⟩,some ⟨90,[(eI .i64 (aXj.wrap x8)),(.sl 2 0 0 1 false),(eI .i64 0),(eI .i64 0)]⟩]) 5 (FLe.same rfl (FLe.same rfl (FLe.same rfl FLe.nil))) (HLv.live (V.les_refl _ _) rfl (HLv.live (V.les_cons (V.le_refl _ _) (V.les_cons (V.le_virt rfl) (V.les_cons (V.le_refl _ _) (V.les_cons (V.le_refl _ _) V.les_nil)))) rfl HLv.nil))) (lU [0,1,2])) (J2 bV 0 0 [] hr)
 rcases aXm (decide ((aXj.wrap x8)<1))with h20|h20
 ·replace hr:=cQ hr h20
  refine xr ?_
  refine zz ?_
  exact hG1 _ _ _ _ (zG [0,1]) (J1 true hr)
 replace hr:=cR hr h20
 refine xr ?_
 refine zz ?_
 exact hG1 _ _ _ _ (zG [0,1]) (J1 (decide (17<(aXj.wrap x8))) hr)
theorem aJ7 {N:Nat}{b:List Int}{r:(List aX)×Int}(hr:aAy N b=some r):
  Vm.Fn Tryz.prog 68 [] [(.row none 1 (b.map (eI .u8)))] (.tup [(.sl 0 0 r.1.length 4 true),(eI .i64 r.2)]) [some ⟨90,r.1.flatMap cO⟩]:=by
 refine zf Tryz.func68 Tryz.ntmps68 ?_
 unfold aAy at hr
 refine zz ?_
 refine aXn ?_
 refine zz ?_
 refine zk hr rfl (fun h1 hr=> ?_) (fun h1 hr=> ?_)
 ·refine zz ?_
  obtain rfl:=sj hr
  exact oL Tryz.results68 bJ bJ (zW 90 [0])
 refine zz ?_
 refine aXq fun K1 hK1 hG1=> ?_
 have J1: ∀(l0:List aX),aCu N l0=some r→K1 (aI 29 [(4,(.sl 0 0 l0.length 4 true))]) [some ⟨90,l0.flatMap cO⟩]:=by
  intro l0 hr
  unfold aCu at hr
  refine hK1 _ _ ?_
  refine zz ?_
  obtain rfl:=sj hr
  exact kG Tryz.results68 [0]
 obtain⟨bL,hL2,hr⟩:=aD hr
 refine aXp<|aXx (fun m s h=> ∃(b_1:List Int)(aS:List aX),oD N m b_1 aS=some bL∧Ghost 0 s h (aI 29 [(0,(.row none 1 (b_1.map (eI .u8)))),(4,(.sl 0 0 aS.length 4 true))]) [some ⟨90,aS.flatMap cO⟩]) (n:=N) ⟨b,[],hL2,(zW 90 [0])⟩ (by rintro s h ⟨_,_,h0,_⟩;simp[oD]at h0) ?_
 rintro m2 s h ⟨b_1,aS,hr2,hg⟩
 refine aXw hg ?_
 clear hg hL2
 rw[oD]at hr2
 refine aXn ?_
 refine zz ?_
 refine zk hr2 rfl (fun h2 hr2=> ?_) (fun h2 hr2=> ?_)
 ·refine zz ?_
  refine aXp ?_
  obtain⟨x16,h_3,hr2⟩:=aD hr2
  refine zz ?_
  refine zc (aMq h_3) [] ?_
  refine zz ?_
  refine aXn ?_
  refine zz ?_
  refine zk hr2 rfl (fun h4 hr2=> ?_) (fun h4 hr2=> ?_)
  ·refine zz ?_
   obtain rfl:=sj hr2
   obtain rfl:=sj hr
   exact oL Tryz.results68 bJ bJ (zW 90 [3])
  obtain⟨x26,h_5,hr2⟩:=aD hr2
  refine zz ?_
  refine aXI (aXP (fr':=[(0,(.row none 1 (b_1.map (eI .u8)))),(4,(.sl 0 0 aS.length 4 true)),(5,(.ptr 2 0)),(6,(.row none 1 (x16.2.2.2.2.1.map (eI .u8)))),(7,(eI .i64 x16.2.2.2.2.2)),(11,(.row none 1 (b_1.map (eI .u8)))),(12,(eI .i64 (b_1.length:Int))),(13,(eB (decide (0<(b_1.length:Int))))),(14,(.tup [(.agg [(eI .i64 x16.1),(.row none 1 (x16.2.1.map (eI .u8))),(eI .i64 x16.2.2.1),(eI .i64 x16.2.2.2.1)]),(.row none 1 (x16.2.2.2.2.1.map (eI .u8))),(eI .i64 x16.2.2.2.2.2)])),(15,(.row none 1 (b_1.map (eI .u8)))),(16,(.tup [(.agg [(eI .i64 x16.1),(.row none 1 (x16.2.1.map (eI .u8))),(eI .i64 x16.2.2.1),(eI .i64 x16.2.2.2.1)]),(.row none 1 (x16.2.2.2.2.1.map (eI .u8))),(eI .i64 x16.2.2.2.2.2)])),(17,(.agg [(eI .i64 x16.1),(.row none 1 (x16.2.1.map (eI .u8))),(eI .i64 x16.2.2.1),(eI .i64 x16.2.2.2.1)])),(18,(.row none 1 (x16.2.2.2.2.1.map (eI .u8)))),(19,(eI .i64 x16.2.2.2.2.2)),(20,(eI .i64 x16.2.2.2.2.2)),(21,(eB (x16.2.2.2.2.2 != 0))),(23,(.sl 0 0 aS.length 4 true)),(24,(.agg [(eI .i64 x16.1),(.row none 1 (x16.2.1.map (eI .u8))),(eI .i64 x16.2.2.1),(eI .i64 x16.2.2.2.1)]))]) (h':=[some ⟨90,aS.flatMap cO⟩,none,some ⟨90,[(eI .i64 x16.1),(.row none 1 (x16.2.1.map (eI .u8))),(eI .i64 x16.2.2.1),(eI .i64 x16.2.2.2.1)]⟩]) (aXu rfl (aXo (aQ rfl)) (aXu rfl (aXo (aQ rfl)) (aXu rfl (aXo (aQ rfl)) (aXu rfl (aXo (aQ rfl)) (aXu rfl (aXo (aQ rfl)) (aXu rfl (aXo (aQ rfl)) (aXu rfl (aXo (aQ rfl)) (aXu rfl (aXo (aQ rfl)) (aXu rfl (Conv.tup (aXr (aXQ (aXr (aXo (aQ rfl)) (aXr (aXL (aQ rfl) rfl rfl (gO (fun _=>rfl)) (by first|rfl|(simp only[aXB,b7,b6];done))) (aXr (aXo (aQ rfl)) (aXr (aXo (aQ rfl)) aXE))))) (aXr (aXo (aQ rfl)) (aXr (aXo (aQ rfl)) aXE)))) (aXu rfl (aXo (aQ rfl)) (aXu rfl (Conv.tup (aXr (aXQ (aXr (aXo (aQ rfl)) (aXr (aXL (aQ rfl) rfl rfl (gO (fun _=>rfl)) (by first|rfl|(simp only[aXB,b7,b6];done))) (aXr (aXo (aQ rfl)) (aXr (aXo (aQ rfl)) aXE))))) (aXr (aXo (aQ rfl)) (aXr (aXo (aQ rfl)) aXE)))) (aXu rfl (aXQ (aXr (aXo (aQ rfl)) (aXr (aXL (aQ rfl) rfl rfl (gO (fun _=>rfl)) (by first|rfl|(simp only[aXB,b7,b6];done))) (aXr (aXo (aQ rfl)) (aXr (aXo (aQ rfl)) aXE))))) (aXu rfl (aXo (aQ rfl)) (aXu rfl (aXo (aQ rfl)) (aXu rfl (aXo (aQ rfl)) (aXu rfl (aXo (aQ rfl)) (aXu rfl (aXo (aQ rfl)) (aXu rfl (aXQ (aXr (aXo (aQ rfl)) (aXr (aXL (aQ rfl) rfl rfl (gO (fun _=>rfl)) (by first|rfl|(simp only[aXB,b7,b6];done))) (aXr (aXo (aQ rfl)) (aXr (aXo (aQ rfl)) aXE))))) FCv.nil)))))))))))))))))) (aXJ (aXH (aQ rfl)) (rL (fun _=>rfl) _) (HCv.dead (aXJ (aXr (aXo (aQ rfl)) (aXr (aXL (aQ rfl) rfl rfl (gO (fun _=>rfl)) (by first|rfl|(simp only[aXB,b7,b6];done))) (aXr (aXo (aQ rfl)) (aXr (aXo (aQ rfl)) aXE)))) rfl HCv.nil)))) ?_
  refine xw (v:=(.sl 3 0 1 4 true)) (h':=[some ⟨90,aS.flatMap cO⟩,none,some ⟨90,[(eI .i64 x16.1),(.row none 1 (x16.2.1.map (eI .u8))),(eI .i64 x16.2.2.1),(eI .i64 x16.2.2.2.1)]⟩,some ⟨90,[(aX.mk x16.1 x16.2.1 x16.2.2.1 x16.2.2.2.1)].flatMap cO⟩]) (pT rfl (aDM (C:=cO) (xs:=[(aX.mk x16.1 x16.2.1 x16.2.2.1 x16.2.2.2.1)]) (K:=4) (fun _=>rfl) (fun _=>rfl) aQ7 aCr ⟨zl,zl,zl⟩ rfl rfl rfl rfl rfl rfl)) ?_
  refine zz ?_
  exact⟨x16.2.2.2.2.1,x26,hr2,(zG [4])⟩
 refine zz ?_
 obtain rfl:=sj hr2
 refine zz ?_
 exact hG1 _ _ _ _ (zG [0]) (J1 aS hr)
end Go.Proofs.YtbjiaghljpoliaaGreatDoor
