/- Texts of ours, joined: Wk1. -/
import Derived.Test.YtjnkndlfncbclaaGreatDoorQScriptParses3
open Go.IntKind renaming i64 → aCh
open Go.Vm.DrawG renaming pick → aCi,jg → aCp,fork → aCq,nil → aCA,jn → aCD
open Bool renaming eq_false_or_eq_true → aCj
open List renaming replicate → aCk,length_map → aCu
open Go.Vm.Conv renaming same → aCl,row → aCz,agg → aCB,tup → aCH
open Go.Vm.Convs renaming cons → aCm,nil → aCw
open Go.Vm.Fork renaming cons → aCn,nil → aCv
open Go.Vm.FCv renaming cons → aCo
open Go.Vm.AB renaming block → aCr,seq → aCs,seq_g → aCt,loopN → aCx,ghost → aCy,rs → aCG
open Int renaming toNat → aCC
open Go.Vm.Ghost renaming trans → aCE,virt → aCF
open Go.Vm.HCv renaming live → aCI
set_option linter.unusedVariables false
set_option linter.unusedSimpArgs false
set_option maxRecDepth 20000
set_option maxHeartbeats 1000000
namespace Go.Proofs.YtjnkndlfncbclaaGreatDoor
open Go Go.Vm
theorem qW {N:Nat}{r:Bool}(hr:lI N=some r):Vm.Fn Tryz.prog 4 [] [] (eB r) []:=by
 obtain rfl:=Option.some.inj hr
 exact vY aAk rfl
theorem o4 {N:Nat}{code:Int}{r:Bool}(hr:fI N code=some r):
  Vm.Fn Tryz.prog 23 [] [(eI .i64 code)] (eB r) []:=by
 refine zf Tryz.func23 Tryz.ntmps23 ?_
 unfold fI at hr
 refine zz ?_
 refine aCt fun K1 hK1 hG1=> ?_
 have J1: ∀(x2:Bool),dS N x2=some r→K1 (aA 9 [(2,(eB x2))]) []:=by
  intro x2 hr
  unfold dS at hr
  refine hK1 _ _ ?_
  refine zz ?_
  obtain rfl:=sj hr
  exact cL Tryz.results23 []
 rcases aCj (decide (1≤code))with h1|h1
 ·replace hr:=dM hr h1
  refine xr ?_
  refine zz ?_
  exact hG1 _ _ _ _ (zG []) (J1 (decide (code≤17)) hr)
 replace hr:=dN hr h1
 refine xr ?_
 refine zz ?_
 exact hG1 _ _ _ _ (zG []) (J1 false hr)
theorem qM {N:Nat}{parts:List (List Int)}{r:(List Int)}(hr:fQ N parts=some r):
  Vm.Fn Tryz.prog 24 [] [(.row none 1 (parts.map (eL 1 (eI .u8))))] (.sl 0 0 r.length 1 false) [some ⟨5,r.map (eI .u8)⟩]:=by
 refine zf Tryz.func24 Tryz.ntmps24 ?_
 unfold fQ at hr
 refine zz ?_
 refine aCt fun K1 hK1 hG1=> ?_
 have J1: ∀(l0:List Int),i9 N l0=some r→K1 (aA 17 [(3,(.sl 0 0 l0.length 1 false))]) [some ⟨5,l0.map (eI .u8)⟩]:=by
  intro l0 hr
  unfold i9 at hr
  refine hK1 _ _ ?_
  refine zz ?_
  obtain rfl:=sj hr
  exact cL Tryz.results24 [0]
 obtain⟨b9,hL2,hr⟩:=aG hr
 refine zz ?_
 refine aCr<|aCx (fun m s h=> ∃(x8:Int)(l0_1:List Int),dB N parts m x8 l0_1=some b9∧Ghost 0 s h (aA 17 [(3,(.sl 0 0 l0_1.length 1 false)),(6,(.row none 1 (parts.map (eL 1 (eI .u8))))),(7,(eI .i64 (parts.length:Int))),(8,(eI .i64 x8))]) [some ⟨5,l0_1.map (eI .u8)⟩]) (n:=N) ⟨0,[],hL2,(zW 5 [0])⟩ (by rintro s h ⟨_,_,h0,_⟩;simp[dB]at h0) ?_
 rintro m2 s h ⟨x8,l0_1,hr2,hg⟩
 refine aCy hg ?_
 clear hg hL2
 rw[dB]at hr2
 refine zz ?_
 refine aCs ?_
 refine zk hr2 rfl (fun h1 hr2=> ?_) (fun h1 hr2=> ?_)
 ·refine zz ?_
  refine aCs<|aCr ?_
  obtain⟨x10,h_2,hr2⟩:=aG hr2
  obtain⟨x14,h_3,hr2⟩:=aG hr2
  refine zz ?_
  exact⟨aCh.wrap (x8+1),x14,hr2,(zG [1])⟩
 refine zz ?_
 obtain rfl:=sj hr2
 refine zz ?_
 exact hG1 _ _ _ _ (zG [0]) (J1 l0_1 hr)
theorem nK {N:Nat}{vm vn:Int}{r:Bool}(hr:eC N vm vn=some r):
  Vm.Fn Tryz.prog 25 [] [(eI .i64 vm),(eI .i64 vn)] (eB r) []:=by
 refine zf Tryz.func25 Tryz.ntmps25 ?_
 unfold eC at hr
 refine zz ?_
 refine aCt fun K1 hK1 hG1=> ?_
 have J1: ∀(x4:Bool),b4 N x4=some r→K1 (aA 20 [(4,(eB x4))]) []:=by
  intro x4 hr
  unfold b4 at hr
  refine hK1 _ _ ?_
  refine zz ?_
  obtain rfl:=sj hr
  exact cL Tryz.results25 []
 rcases aCj (decide (1≤vn))with h1|h1
 ·replace hr:=dM hr h1
  rcases aCj (decide (vn≤15))with h2|h2
  ·replace hr:=dM hr h2
   rcases aCj (decide (1≤vm))with h3|h3
   ·replace hr:=dM hr h3
    refine xr ?_
    refine zz ?_
    exact hG1 _ _ _ _ (zG []) (J1 (decide (vm≤vn)) hr)
   replace hr:=dN hr h3
   refine xr ?_
   refine zz ?_
   exact hG1 _ _ _ _ (zG []) (J1 false hr)
  replace hr:=dN hr h2
  refine xr ?_
  refine zz ?_
  refine xX rfl<|xX rfl<|xX rfl ?_
  refine zz ?_
  exact hG1 _ _ _ _ (zG []) (J1 false hr)
 replace hr:=dN hr h1
 refine xr ?_
 refine zz ?_
 refine xX rfl<|xX rfl ?_
 refine zz ?_
 refine xX rfl<|xX rfl<|xX rfl ?_
 refine zz ?_
 exact hG1 _ _ _ _ (zG []) (J1 false hr)
theorem pO {N:Nat}{b:List Int}{r:Int×(List Int)×Int×Int×(List Int)×Int}(hr:gF N b=some r):
  Vm.Fn Tryz.prog 13 [] [(.row none 1 (b.map (eI .u8)))] (.tup [(.agg [(eI .i64 r.1),(.sl 0 0 r.2.1.length 1 false),(eI .i64 r.2.2.1),(eI .i64 r.2.2.2.1)]),(.row none 1 (r.2.2.2.2.1.map (eI .u8))),(eI .i64 r.2.2.2.2.2)]) [some ⟨5,r.2.1.map (eI .u8)⟩]:=by
 refine zf Tryz.func13 Tryz.ntmps13 ?_
 unfold gF at hr
 obtain⟨x8,h_1,hr⟩:=aG hr
 refine zz ?_
 refine aCs ?_
 obtain⟨x14,h_2,hr⟩:=aG hr
 refine zz ?_
 refine xp (o4 h_2) ?_
 refine zz ?_
 refine zk hr rfl (fun h3 hr=> ?_) (fun h3 hr=> ?_)
 ·refine zz ?_
  obtain rfl:=sj hr
  exact l5 Tryz.results13 bZ bZ bZ (zW 5 [2])
 obtain⟨x18,h_4,hr⟩:=aG hr
 refine zz ?_
 refine aCt fun K1 hK1 hG1=> ?_
 have J1: ∀(b_1:List Int)(c1 iE:Int)(l2:List Int),cN N x8 b_1 c1 iE l2=some r→K1 (aA 78 [(0,(.row none 1 (b_1.map (eI .u8)))),(2,(.ptr 0 0)),(5,(.ptr 1 0))]) [some ⟨43,[(eI .i64 0),(.row (some true) 1 []),(eI .i64 0),(eI .i64 0)]⟩,some ⟨43,[(eI .i64 (aCh.wrap x8)),(.sl 2 0 l2.length 1 false),(eI .i64 c1),(eI .i64 iE)]⟩,some ⟨5,l2.map (eI .u8)⟩]:=by
  intro b_1 c1 iE l2 hr
  unfold cN at hr
  refine hK1 _ _ ?_
  refine zz ?_
  obtain rfl:=sj hr
  exact l5 Tryz.results13 bZ bZ bZ (zG [2])
 refine zz ?_
 refine aCr ?_
 refine zz ?_
 refine zk hr rfl (fun h5 hr=> ?_) (fun h5 hr=> ?_)
 ·refine aCs ?_
  refine aCt fun K2 hK2 hG2=> ?_
  have J2: ∀(x35:Bool),d9 N x8 x18 x35=some r→K2 (aA 78 [(0,(.row none 1 (x18.map (eI .u8)))),(2,(.ptr 0 0)),(5,(.ptr 1 0)),(35,(eB x35))]) [some ⟨43,[(eI .i64 0),(.row (some true) 1 []),(eI .i64 0),(eI .i64 0)]⟩,some ⟨43,[(eI .i64 (aCh.wrap x8)),(.row (some true) 1 []),(eI .i64 0),(eI .i64 0)]⟩]:=by
   intro x35 hr
   unfold d9 at hr
   refine hK2 _ _ ?_
   refine zk hr rfl (fun h6 hr=> ?_) (fun h6 hr=> ?_)
   ·refine zz ?_
    obtain rfl:=sj hr
    exact l5 Tryz.results13 bZ bZ bZ (zW 5 [2])
   obtain⟨x38,h_7,hr⟩:=aG hr
   obtain⟨x44,h_8,hr⟩:=aG hr
   obtain⟨x46,h_9,hr⟩:=aG hr
   obtain⟨x49,h_11,hr⟩:=aG hr
   refine zz ?_
   refine AB.rd (b3 []) (b3 [24]) mixed<|aCi (n:=10) (i:=0) (by decide +kernel) rfl (gS (v:=(.row none 1 (x18.map (eI .u8)))) (sv (dC rfl)))<|aCi (n:=9) (i:=1) (by decide +kernel) rfl (gS (v:=(eI .i64 (aCh.wrap (1+(aCh.wrap x38))))) (sv (dC rfl)))<|aCi (n:=8) (i:=2) (by decide +kernel) rfl (gS (v:=(.row none 1 (x44.map (eI .u8)))) (sv (bE rfl rfl rfl (eO bG aY rfl rfl h_8))))<|aCi (n:=7) (i:=3) (by decide +kernel) rfl (gS (v:=(.sl 2 0 1 1 false)) (h':=[some ⟨43,[(eI .i64 0),(.row (some true) 1 []),(eI .i64 0),(eI .i64 0)]⟩,some ⟨43,[(eI .i64 (aCh.wrap x8)),(.row (some true) 1 []),(eI .i64 0),(eI .i64 0)]⟩,some ⟨22,[x44].map (eL 1 (eI .u8))⟩]) (sv (iH rfl (q8 (xs:=[x44].map (eL 1 (eI .u8))) xO bG zl zl rfl rfl rfl rfl rfl rfl rfl)))) ?_
   refine aCi (n:=6) (i:=4) (by decide +kernel) rfl (gC (v:=(.sl 3 0 x46.length 1 false)) (h':=[some ⟨43,[(eI .i64 0),(.row (some true) 1 []),(eI .i64 0),(eI .i64 0)]⟩,some ⟨43,[(eI .i64 (aCh.wrap x8)),(.row (some true) 1 []),(eI .i64 0),(eI .i64 0)]⟩,some ⟨22,[x44].map (eL 1 (eI .u8))⟩,some ⟨5,x46.map (eI .u8)⟩]) (zL (qM h_9) [] [2]) rfl (fun _=>⟨_,rfl⟩) (sv (gE rfl gJ)))<|aCi (n:=5) (i:=5) (by decide +kernel) rfl (gS (v:=(.row none 1 (x18.map (eI .u8)))) (sv (dC rfl)))<|aCi (n:=4) (i:=6) (by decide +kernel) rfl (gS (v:=(eI .i64 (aCh.wrap (1+(aCh.wrap x38))))) (sv (dC rfl))) ?_
   refine aCi (n:=3) (i:=8) (by decide +kernel) rfl (gS (v:=(.ptr 1 1)) (sv (c9 rfl (pM ..)))) ?_
   refine aCD (m:=1) (L:=r6 [0,1,2,3,4,5,6,7,8,9] 11) (s1:=aA 78 [(0,(.row none 1 (x18.map (eI .u8)))),(2,(.ptr 0 0)),(5,(.ptr 1 0)),(49,(.row none 1 (x49.map (eI .u8))))]) (h1:=[some ⟨43,[(eI .i64 0),(.row (some true) 1 []),(eI .i64 0),(eI .i64 0)]⟩,some ⟨43,[(eI .i64 (aCh.wrap x8)),(.sl 2 0 x46.length 1 false),(eI .i64 0),(eI .i64 0)]⟩,some ⟨5,x46.map (eI .u8)⟩]) ?_ (fun J=> ?_)
   ·refine aCi (n:=0) (i:=10) (by decide +kernel) rfl (gS (v:=(.row none 1 (x49.map (eI .u8)))) (sv (fJ rfl)))<|aCA (by decide +kernel) ?_
    refine zz ?_
    exact hG1 _ _ _ _ (zG [0,1,2]) (J1 x49 0 0 x46 hr)
   refine aCq (n:=2) [7,9] (by decide +kernel) (by decide) ?_
   refine(aCn rfl (gS (v:=(.row none 1 (x49.map (eI .u8)))) (sv (bE rfl rfl rfl (eO bG aY rfl rfl h_11)))) ?_ (aCn rfl (gN (h':=[some ⟨43,[(eI .i64 0),(.row (some true) 1 []),(eI .i64 0),(eI .i64 0)]⟩,some ⟨43,[(eI .i64 (aCh.wrap x8)),(.sl 3 0 x46.length 1 false),(eI .i64 0),(eI .i64 0)]⟩,some ⟨22,[x44].map (eL 1 (eI .u8))⟩,some ⟨5,x46.map (eI .u8)⟩]) (sv (aF rfl rfl (bV bG rfl rfl rfl zl rfl)))) ?_ aCv))
   ·refine aCi (n:=1) (i:=9) (by decide +kernel) rfl (gN (h':=[some ⟨43,[(eI .i64 0),(.row (some true) 1 []),(eI .i64 0),(eI .i64 0)]⟩,some ⟨43,[(eI .i64 (aCh.wrap x8)),(.sl 3 0 x46.length 1 false),(eI .i64 0),(eI .i64 0)]⟩,some ⟨22,[x44].map (eL 1 (eI .u8))⟩,some ⟨5,x46.map (eI .u8)⟩]) (sv (aF rfl rfl (bV bG rfl rfl rfl zl rfl)))) ?_
    exact aCp (by decide +kernel) (by decide +kernel) (zG [0,1,3]) J
   refine aCi (n:=1) (i:=7) (by decide +kernel) rfl (gS (v:=(.row none 1 (x49.map (eI .u8)))) (sv (bE rfl rfl rfl (eO bG aY rfl rfl h_11)))) ?_
   exact aCp (by decide +kernel) (by decide +kernel) (zG [0,1,3]) J
  rcases aCj ((x18.length:Int) == 0)with h12|h12
  ·replace hr:=dM hr h12
   refine xr ?_
   refine zz ?_
   exact hG2 _ _ _ _ (zG [0,1]) (J2 true hr)
  replace hr:=dN hr h12
  obtain⟨x31,h_13,hr⟩:=aG hr
  refine xr ?_
  refine zz ?_
  exact hG2 _ _ _ _ (zG [0,1]) (J2 (decide ((aCh.wrap ((x18.length:Int)-1))<(aCh.wrap x31))) hr)
 refine zz ?_
 refine zk hr rfl (fun h14 hr=> ?_) (fun h14 hr=> ?_)
 ·refine aCs ?_
  refine zz ?_
  refine zk hr rfl (fun h15 hr=> ?_) (fun h15 hr=> ?_)
  ·refine zz ?_
   obtain rfl:=sj hr
   exact l5 Tryz.results13 bZ bZ bZ (zW 5 [2])
  refine zz ?_
  refine aCs ?_
  obtain⟨x58,h_16,hr⟩:=aG hr
  obtain⟨x62,h_17,hr⟩:=aG hr
  obtain⟨x66,h_18,hr⟩:=aG hr
  refine AB.rd (b3 []) (b3 []) mixed<|aCi (n:=14) (i:=0) (by decide +kernel) rfl (gS (v:=(.row none 1 (x18.map (eI .u8)))) (sv (dC rfl)))<|aCi (n:=13) (i:=1) (by decide +kernel) rfl (gS (sv (k6 rfl rfl (vZ bG aY h_16))))<|aCi (n:=12) (i:=2) (by decide +kernel) rfl (gS (v:=(eI .u8 x58)) (sv (bK rfl (mM h_16 (fV aY rfl rfl)))))<|aCi (n:=11) (i:=3) (by decide +kernel) rfl (gS (v:=(eI .i64 (aCh.wrap x58))) (sv (bW rfl (bO _ ⟨_,aY⟩ aV rfl))))<|aCi (n:=10) (i:=4) (by decide +kernel) rfl (gS (v:=(.row none 1 (x18.map (eI .u8)))) (sv (dC rfl))) ?_
  refine aCi (n:=9) (i:=5) (by decide +kernel) rfl (gS (sv (k6 rfl rfl (vZ bG aY h_17))))<|aCi (n:=8) (i:=8) (by decide +kernel) rfl (gS (v:=(.row none 1 (x18.map (eI .u8)))) (sv (dC rfl)))<|aCi (n:=7) (i:=10) (by decide +kernel) rfl (gS (v:=(.ptr 1 2)) (sv (c9 rfl (pE ..)))) ?_
  refine aCD (m:=1) (L:=r6 [0,1,2,3,4,5,6,7,8,9,10,11,12,13] 15) (s1:=aA 78 [(0,(.row none 1 (x18.map (eI .u8)))),(2,(.ptr 0 0)),(5,(.ptr 1 0)),(66,(.row none 1 (x66.map (eI .u8))))]) (h1:=[some ⟨43,[(eI .i64 0),(.row (some true) 1 []),(eI .i64 0),(eI .i64 0)]⟩,some ⟨43,[(eI .i64 (aCh.wrap x8)),(.row (some true) 1 []),(eI .i64 (aCh.wrap x58)),(eI .i64 (aCh.wrap x62))]⟩]) ?_ (fun J=> ?_)
  ·refine aCi (n:=0) (i:=14) (by decide +kernel) rfl (gS (v:=(.row none 1 (x66.map (eI .u8)))) (sv (fJ rfl)))<|aCA (by decide +kernel) ?_
   obtain⟨x73,h_19,hr⟩:=aG hr
   refine zz ?_
   refine xp (nK h_19) ?_
   refine zz ?_
   refine zk hr rfl (fun h20 hr=> ?_) (fun h20 hr=> ?_)
   ·refine zz ?_
    obtain rfl:=sj hr
    exact l5 Tryz.results13 bZ bZ bZ (zW 5 [2])
   refine zz ?_
   exact hG1 _ _ _ _ (aCE (aCF (fr':=[(0,(.row none 1 (x66.map (eI .u8)))),(2,(.ptr 0 0)),(5,(.ptr 1 0))]) (h1:=[some ⟨43,[(eI .i64 0),(.row (some true) 1 []),(eI .i64 0),(eI .i64 0)]⟩,some ⟨43,[(eI .i64 (aCh.wrap x8)),(.sl 2 0 0 1 false),(eI .i64 (aCh.wrap x58)),(eI .i64 (aCh.wrap x62))]⟩]) 5 (FLe.same rfl (FLe.same rfl (FLe.same rfl FLe.nil))) (HLv.live (V.les_refl _ _) rfl (HLv.live (V.les_cons (V.le_refl _ _) (V.les_cons (V.le_virt rfl) (V.les_cons (V.le_refl _ _) (V.les_cons (V.le_refl _ _) V.les_nil)))) rfl HLv.nil))) (p3 [0,1,2])) (J1 x66 (aCh.wrap x58) (aCh.wrap x62) [] hr)
  refine aCq (n:=6) [6,9,11] (by decide +kernel) (by decide) ?_
  refine(aCn rfl (gS (v:=(eI .u8 x62)) (sv (bK rfl (mM h_17 (fV aY rfl rfl))))) ?_ (aCn rfl (gS (v:=(.row none 1 (x66.map (eI .u8)))) (sv (bE rfl rfl rfl (eO bG aY rfl rfl h_18)))) ?_ (aCn rfl (gN (h':=[some ⟨43,[(eI .i64 0),(.row (some true) 1 []),(eI .i64 0),(eI .i64 0)]⟩,some ⟨43,[(eI .i64 (aCh.wrap x8)),(.row (some true) 1 []),(eI .i64 (aCh.wrap x58)),(eI .i64 0)]⟩]) (sv (aF rfl rfl (bV aV rfl rfl rfl zl rfl)))) ?_ aCv)))
  ·refine aCq (n:=5) [7,9,11] (by decide +kernel) (by decide) ?_
   refine(aCn rfl (gS (v:=(eI .i64 (aCh.wrap x62))) (sv (bW rfl (bO _ ⟨_,aY⟩ aV rfl)))) ?_ (aCn rfl (gS (v:=(.row none 1 (x66.map (eI .u8)))) (sv (bE rfl rfl rfl (eO bG aY rfl rfl h_18)))) ?_ (aCn rfl (gN (h':=[some ⟨43,[(eI .i64 0),(.row (some true) 1 []),(eI .i64 0),(eI .i64 0)]⟩,some ⟨43,[(eI .i64 (aCh.wrap x8)),(.row (some true) 1 []),(eI .i64 (aCh.wrap x58)),(eI .i64 0)]⟩]) (sv (aF rfl rfl (bV aV rfl rfl rfl zl rfl)))) ?_ aCv)))
   ·refine aCq (n:=4) [9,11] (by decide +kernel) (by decide) ?_
    refine(aCn rfl (gS (v:=(.row none 1 (x66.map (eI .u8)))) (sv (bE rfl rfl rfl (eO bG aY rfl rfl h_18)))) ?_ (aCn rfl (gN (h':=[some ⟨43,[(eI .i64 0),(.row (some true) 1 []),(eI .i64 0),(eI .i64 0)]⟩,some ⟨43,[(eI .i64 (aCh.wrap x8)),(.row (some true) 1 []),(eI .i64 (aCh.wrap x58)),(eI .i64 0)]⟩]) (sv (aF rfl rfl (bV aV rfl rfl rfl zl rfl)))) ?_ aCv))
    ·refine aCi (n:=3) (i:=11) (by decide +kernel) rfl (gN (h':=[some ⟨43,[(eI .i64 0),(.row (some true) 1 []),(eI .i64 0),(eI .i64 0)]⟩,some ⟨43,[(eI .i64 (aCh.wrap x8)),(.row (some true) 1 []),(eI .i64 (aCh.wrap x58)),(eI .i64 0)]⟩]) (sv (aF rfl rfl (bV aV rfl rfl rfl zl rfl))))<|aCi (n:=2) (i:=12) (by decide +kernel) rfl (gS (v:=(.ptr 1 3)) (sv (c9 rfl (b2 ..))))<|aCi (n:=1) (i:=13) (by decide +kernel) rfl (gN (h':=[some ⟨43,[(eI .i64 0),(.row (some true) 1 []),(eI .i64 0),(eI .i64 0)]⟩,some ⟨43,[(eI .i64 (aCh.wrap x8)),(.row (some true) 1 []),(eI .i64 (aCh.wrap x58)),(eI .i64 (aCh.wrap x62))]⟩]) (sv (aF rfl rfl (bV aV rfl rfl rfl zl rfl)))) ?_
     exact aCp (by decide +kernel) (by decide +kernel) (zG [0,1]) J
    refine aCi (n:=3) (i:=12) (by decide +kernel) rfl (gS (v:=(.ptr 1 3)) (sv (c9 rfl (b2 ..))))<|aCq (n:=2) [9,13] (by decide +kernel) (by decide) ?_
    refine(aCn rfl (gS (v:=(.row none 1 (x66.map (eI .u8)))) (sv (bE rfl rfl rfl (eO bG aY rfl rfl h_18)))) ?_ (aCn rfl (gN (h':=[some ⟨43,[(eI .i64 0),(.row (some true) 1 []),(eI .i64 0),(eI .i64 0)]⟩,some ⟨43,[(eI .i64 (aCh.wrap x8)),(.row (some true) 1 []),(eI .i64 (aCh.wrap x58)),(eI .i64 (aCh.wrap x62))]⟩]) (sv (aF rfl rfl (bV aV rfl rfl rfl zl rfl)))) ?_ aCv))
    ·refine aCi (n:=1) (i:=13) (by decide +kernel) rfl (gN (h':=[some ⟨43,[(eI .i64 0),(.row (some true) 1 []),(eI .i64 0),(eI .i64 0)]⟩,some ⟨43,[(eI .i64 (aCh.wrap x8)),(.row (some true) 1 []),(eI .i64 (aCh.wrap x58)),(eI .i64 (aCh.wrap x62))]⟩]) (sv (aF rfl rfl (bV aV rfl rfl rfl zl rfl)))) ?_
     exact aCp (by decide +kernel) (by decide +kernel) (zG [0,1]) J
    refine aCi (n:=1) (i:=9) (by decide +kernel) rfl (gS (v:=(.row none 1 (x66.map (eI .u8)))) (sv (bE rfl rfl rfl (eO bG aY rfl rfl h_18)))) ?_
    exact aCp (by decide +kernel) (by decide +kernel) (zG [0,1]) J
   ·refine aCq (n:=4) [7,11] (by decide +kernel) (by decide) ?_
    refine(aCn rfl (gS (v:=(eI .i64 (aCh.wrap x62))) (sv (bW rfl (bO _ ⟨_,aY⟩ aV rfl)))) ?_ (aCn rfl (gN (h':=[some ⟨43,[(eI .i64 0),(.row (some true) 1 []),(eI .i64 0),(eI .i64 0)]⟩,some ⟨43,[(eI .i64 (aCh.wrap x8)),(.row (some true) 1 []),(eI .i64 (aCh.wrap x58)),(eI .i64 0)]⟩]) (sv (aF rfl rfl (bV aV rfl rfl rfl zl rfl)))) ?_ aCv))
    ·refine aCi (n:=3) (i:=11) (by decide +kernel) rfl (gN (h':=[some ⟨43,[(eI .i64 0),(.row (some true) 1 []),(eI .i64 0),(eI .i64 0)]⟩,some ⟨43,[(eI .i64 (aCh.wrap x8)),(.row (some true) 1 []),(eI .i64 (aCh.wrap x58)),(eI .i64 0)]⟩]) (sv (aF rfl rfl (bV aV rfl rfl rfl zl rfl))))<|aCi (n:=2) (i:=12) (by decide +kernel) rfl (gS (v:=(.ptr 1 3)) (sv (c9 rfl (b2 ..))))<|aCi (n:=1) (i:=13) (by decide +kernel) rfl (gN (h':=[some ⟨43,[(eI .i64 0),(.row (some true) 1 []),(eI .i64 0),(eI .i64 0)]⟩,some ⟨43,[(eI .i64 (aCh.wrap x8)),(.row (some true) 1 []),(eI .i64 (aCh.wrap x58)),(eI .i64 (aCh.wrap x62))]⟩]) (sv (aF rfl rfl (bV aV rfl rfl rfl zl rfl)))) ?_
     exact aCp (by decide +kernel) (by decide +kernel) (zG [0,1]) J
    refine aCi (n:=3) (i:=7) (by decide +kernel) rfl (gS (v:=(eI .i64 (aCh.wrap x62))) (sv (bW rfl (bO _ ⟨_,aY⟩ aV rfl))))<|aCi (n:=2) (i:=12) (by decide +kernel) rfl (gS (v:=(.ptr 1 3)) (sv (c9 rfl (b2 ..))))<|aCi (n:=1) (i:=13) (by decide +kernel) rfl (gN (h':=[some ⟨43,[(eI .i64 0),(.row (some true) 1 []),(eI .i64 0),(eI .i64 0)]⟩,some ⟨43,[(eI .i64 (aCh.wrap x8)),(.row (some true) 1 []),(eI .i64 (aCh.wrap x58)),(eI .i64 (aCh.wrap x62))]⟩]) (sv (aF rfl rfl (bV aV rfl rfl rfl zl rfl)))) ?_
    exact aCp (by decide +kernel) (by decide +kernel) (zG [0,1]) J
   refine aCi (n:=4) (i:=7) (by decide +kernel) rfl (gS (v:=(eI .i64 (aCh.wrap x62))) (sv (bW rfl (bO _ ⟨_,aY⟩ aV rfl))))<|aCi (n:=3) (i:=12) (by decide +kernel) rfl (gS (v:=(.ptr 1 3)) (sv (c9 rfl (b2 ..))))<|aCq (n:=2) [9,13] (by decide +kernel) (by decide) ?_
   refine(aCn rfl (gS (v:=(.row none 1 (x66.map (eI .u8)))) (sv (bE rfl rfl rfl (eO bG aY rfl rfl h_18)))) ?_ (aCn rfl (gN (h':=[some ⟨43,[(eI .i64 0),(.row (some true) 1 []),(eI .i64 0),(eI .i64 0)]⟩,some ⟨43,[(eI .i64 (aCh.wrap x8)),(.row (some true) 1 []),(eI .i64 (aCh.wrap x58)),(eI .i64 (aCh.wrap x62))]⟩]) (sv (aF rfl rfl (bV aV rfl rfl rfl zl rfl)))) ?_ aCv))
   ·refine aCi (n:=1) (i:=13) (by decide +kernel) rfl (gN (h':=[some ⟨43,[(eI .i64 0),(.row (some true) 1 []),(eI .i64 0),(eI .i64 0)]⟩,some ⟨43,[(eI .i64 (aCh.wrap x8)),(.row (some true) 1 []),(eI .i64 (aCh.wrap x58)),(eI .i64 (aCh.wrap x62))]⟩]) (sv (aF rfl rfl (bV aV rfl rfl rfl zl rfl)))) ?_
    exact aCp (by decide +kernel) (by decide +kernel) (zG [0,1]) J
   refine aCi (n:=1) (i:=9) (by decide +kernel) rfl (gS (v:=(.row none 1 (x66.map (eI .u8)))) (sv (bE rfl rfl rfl (eO bG aY rfl rfl h_18)))) ?_
   exact aCp (by decide +kernel) (by decide +kernel) (zG [0,1]) J
  ·refine aCq (n:=5) [6,11] (by decide +kernel) (by decide) ?_
   refine(aCn rfl (gS (v:=(eI .u8 x62)) (sv (bK rfl (mM h_17 (fV aY rfl rfl))))) ?_ (aCn rfl (gN (h':=[some ⟨43,[(eI .i64 0),(.row (some true) 1 []),(eI .i64 0),(eI .i64 0)]⟩,some ⟨43,[(eI .i64 (aCh.wrap x8)),(.row (some true) 1 []),(eI .i64 (aCh.wrap x58)),(eI .i64 0)]⟩]) (sv (aF rfl rfl (bV aV rfl rfl rfl zl rfl)))) ?_ aCv))
   ·refine aCq (n:=4) [7,11] (by decide +kernel) (by decide) ?_
    refine(aCn rfl (gS (v:=(eI .i64 (aCh.wrap x62))) (sv (bW rfl (bO _ ⟨_,aY⟩ aV rfl)))) ?_ (aCn rfl (gN (h':=[some ⟨43,[(eI .i64 0),(.row (some true) 1 []),(eI .i64 0),(eI .i64 0)]⟩,some ⟨43,[(eI .i64 (aCh.wrap x8)),(.row (some true) 1 []),(eI .i64 (aCh.wrap x58)),(eI .i64 0)]⟩]) (sv (aF rfl rfl (bV aV rfl rfl rfl zl rfl)))) ?_ aCv))
    ·refine aCi (n:=3) (i:=11) (by decide +kernel) rfl (gN (h':=[some ⟨43,[(eI .i64 0),(.row (some true) 1 []),(eI .i64 0),(eI .i64 0)]⟩,some ⟨43,[(eI .i64 (aCh.wrap x8)),(.row (some true) 1 []),(eI .i64 (aCh.wrap x58)),(eI .i64 0)]⟩]) (sv (aF rfl rfl (bV aV rfl rfl rfl zl rfl))))<|aCi (n:=2) (i:=12) (by decide +kernel) rfl (gS (v:=(.ptr 1 3)) (sv (c9 rfl (b2 ..))))<|aCi (n:=1) (i:=13) (by decide +kernel) rfl (gN (h':=[some ⟨43,[(eI .i64 0),(.row (some true) 1 []),(eI .i64 0),(eI .i64 0)]⟩,some ⟨43,[(eI .i64 (aCh.wrap x8)),(.row (some true) 1 []),(eI .i64 (aCh.wrap x58)),(eI .i64 (aCh.wrap x62))]⟩]) (sv (aF rfl rfl (bV aV rfl rfl rfl zl rfl)))) ?_
     exact aCp (by decide +kernel) (by decide +kernel) (zG [0,1]) J
    refine aCi (n:=3) (i:=7) (by decide +kernel) rfl (gS (v:=(eI .i64 (aCh.wrap x62))) (sv (bW rfl (bO _ ⟨_,aY⟩ aV rfl))))<|aCi (n:=2) (i:=12) (by decide +kernel) rfl (gS (v:=(.ptr 1 3)) (sv (c9 rfl (b2 ..))))<|aCi (n:=1) (i:=13) (by decide +kernel) rfl (gN (h':=[some ⟨43,[(eI .i64 0),(.row (some true) 1 []),(eI .i64 0),(eI .i64 0)]⟩,some ⟨43,[(eI .i64 (aCh.wrap x8)),(.row (some true) 1 []),(eI .i64 (aCh.wrap x58)),(eI .i64 (aCh.wrap x62))]⟩]) (sv (aF rfl rfl (bV aV rfl rfl rfl zl rfl)))) ?_
    exact aCp (by decide +kernel) (by decide +kernel) (zG [0,1]) J
   refine aCi (n:=4) (i:=6) (by decide +kernel) rfl (gS (v:=(eI .u8 x62)) (sv (bK rfl (mM h_17 (fV aY rfl rfl)))))<|aCi (n:=3) (i:=7) (by decide +kernel) rfl (gS (v:=(eI .i64 (aCh.wrap x62))) (sv (bW rfl (bO _ ⟨_,aY⟩ aV rfl))))<|aCi (n:=2) (i:=12) (by decide +kernel) rfl (gS (v:=(.ptr 1 3)) (sv (c9 rfl (b2 ..))))<|aCi (n:=1) (i:=13) (by decide +kernel) rfl (gN (h':=[some ⟨43,[(eI .i64 0),(.row (some true) 1 []),(eI .i64 0),(eI .i64 0)]⟩,some ⟨43,[(eI .i64 (aCh.wrap x8)),(.row (some true) 1 []),(eI .i64 (aCh.wrap x58)),(eI .i64 (aCh.wrap x62))]⟩]) (sv (aF rfl rfl (bV aV rfl rfl rfl zl rfl)))) ?_
   exact aCp (by decide +kernel) (by decide +kernel) (zG [0,1]) J
  refine aCi (n:=5) (i:=6) (by decide +kernel) rfl (gS (v:=(eI .u8 x62)) (sv (bK rfl (mM h_17 (fV aY rfl rfl)))))<|aCi (n:=4) (i:=7) (by decide +kernel) rfl (gS (v:=(eI .i64 (aCh.wrap x62))) (sv (bW rfl (bO _ ⟨_,aY⟩ aV rfl))))<|aCi (n:=3) (i:=12) (by decide +kernel) rfl (gS (v:=(.ptr 1 3)) (sv (c9 rfl (b2 ..))))<|aCq (n:=2) [9,13] (by decide +kernel) (by decide) ?_
  refine(aCn rfl (gS (v:=(.row none 1 (x66.map (eI .u8)))) (sv (bE rfl rfl rfl (eO bG aY rfl rfl h_18)))) ?_ (aCn rfl (gN (h':=[some ⟨43,[(eI .i64 0),(.row (some true) 1 []),(eI .i64 0),(eI .i64 0)]⟩,some ⟨43,[(eI .i64 (aCh.wrap x8)),(.row (some true) 1 []),(eI .i64 (aCh.wrap x58)),(eI .i64 (aCh.wrap x62))]⟩]) (sv (aF rfl rfl (bV aV rfl rfl rfl zl rfl)))) ?_ aCv))
  ·refine aCi (n:=1) (i:=13) (by decide +kernel) rfl (gN (h':=[some ⟨43,[(eI .i64 0),(.row (some true) 1 []),(eI .i64 0),(eI .i64 0)]⟩,some ⟨43,[(eI .i64 (aCh.wrap x8)),(.row (some true) 1 []),(eI .i64 (aCh.wrap x58)),(eI .i64 (aCh.wrap x62))]⟩]) (sv (aF rfl rfl (bV aV rfl rfl rfl zl rfl)))) ?_
   exact aCp (by decide +kernel) (by decide +kernel) (zG [0,1]) J
  refine aCi (n:=1) (i:=9) (by decide +kernel) rfl (gS (v:=(.row none 1 (x66.map (eI .u8)))) (sv (bE rfl rfl rfl (eO bG aY rfl rfl h_18)))) ?_
  exact aCp (by decide +kernel) (by decide +kernel) (zG [0,1]) J
 refine zz ?_
 exact hG1 _ _ _ _ (aCE (aCF (fr':=[(0,(.row none 1 (x18.map (eI .u8)))),(2,(.ptr 0 0)),(5,(.ptr 1 0))]) (h1:=[some ⟨43,[(eI .i64 0),(.row (some true) 1 []),(eI .i64 0),(eI .i64 0)]⟩,some ⟨43,[(eI .i64 (aCh.wrap x8)),(.sl 2 0 0 1 false),(eI .i64 0),(eI .i64 0)]⟩]) 5 (FLe.same rfl (FLe.same rfl (FLe.same rfl FLe.nil))) (HLv.live (V.les_refl _ _) rfl (HLv.live (V.les_cons (V.le_refl _ _) (V.les_cons (V.le_virt rfl) (V.les_cons (V.le_refl _ _) (V.les_cons (V.le_refl _ _) V.les_nil)))) rfl HLv.nil))) (p3 [0,1,2])) (J1 x18 0 0 [] hr)
theorem j9 {N:Nat}{b:List Int}{r:(List aD)×Int}(hr:eD N b=some r):
  Vm.Fn Tryz.prog 5 [] [(.row none 1 (b.map (eI .u8)))] (.tup [(.sl 0 0 r.1.length 4 true),(eI .i64 r.2)]) [some ⟨43,r.1.flatMap aK⟩]:=by
 refine zf Tryz.func5 Tryz.ntmps5 ?_
 unfold eD at hr
 refine zz ?_
 refine aCs ?_
 refine zz ?_
 refine zk hr rfl (fun h1 hr=> ?_) (fun h1 hr=> ?_)
 ·refine zz ?_
  obtain rfl:=sj hr
  exact tX Tryz.results5 bZ bZ (zW 43 [0])
 refine zz ?_
 refine aCt fun K1 hK1 hG1=> ?_
 have J1: ∀(l0:List aD),gO N l0=some r→K1 (aA 29 [(4,(.sl 0 0 l0.length 4 true))]) [some ⟨43,l0.flatMap aK⟩]:=by
  intro l0 hr
  unfold gO at hr
  refine hK1 _ _ ?_
  refine zz ?_
  obtain rfl:=sj hr
  exact zd2 Tryz.results5 [0]
 obtain⟨b9,hL2,hr⟩:=aG hr
 refine aCr<|aCx (fun m s h=> ∃(b_1:List Int)(l0_1:List aD),cF N m b_1 l0_1=some b9∧Ghost 0 s h (aA 29 [(0,(.row none 1 (b_1.map (eI .u8)))),(4,(.sl 0 0 l0_1.length 4 true))]) [some ⟨43,l0_1.flatMap aK⟩]) (n:=N) ⟨b,[],hL2,(zW 43 [0])⟩ (by rintro s h ⟨_,_,h0,_⟩;simp[cF]at h0) ?_
 rintro m2 s h ⟨b_1,l0_1,hr2,hg⟩
 refine aCy hg ?_
 clear hg hL2
 rw[cF]at hr2
 refine aCs ?_
 refine zz ?_
 refine zk hr2 rfl (fun h2 hr2=> ?_) (fun h2 hr2=> ?_)
 ·refine zz ?_
  refine aCr ?_
  obtain⟨x16,h_3,hr2⟩:=aG hr2
  refine zz ?_
  refine zc (pO h_3) [] ?_
  refine zz ?_
  refine aCs ?_
  refine zz ?_
  refine zk hr2 rfl (fun h4 hr2=> ?_) (fun h4 hr2=> ?_)
  ·refine zz ?_
   obtain rfl:=sj hr2
   obtain rfl:=sj hr
   exact tX Tryz.results5 bZ bZ (zW 43 [3])
  obtain⟨x26,h_5,hr2⟩:=aG hr2
  refine zz ?_
  refine OpsX.ghost (Ghost.conv (fr':=[(0,(.row none 1 (b_1.map (eI .u8)))),(4,(.sl 0 0 l0_1.length 4 true)),(5,(.ptr 2 0)),(6,(.row none 1 (x16.2.2.2.2.1.map (eI .u8)))),(7,(eI .i64 x16.2.2.2.2.2)),(11,(.row none 1 (b_1.map (eI .u8)))),(12,(eI .i64 (b_1.length:Int))),(13,(eB (decide (0<(b_1.length:Int))))),(14,(.tup [(.agg [(eI .i64 x16.1),(.row none 1 (x16.2.1.map (eI .u8))),(eI .i64 x16.2.2.1),(eI .i64 x16.2.2.2.1)]),(.row none 1 (x16.2.2.2.2.1.map (eI .u8))),(eI .i64 x16.2.2.2.2.2)])),(15,(.row none 1 (b_1.map (eI .u8)))),(16,(.tup [(.agg [(eI .i64 x16.1),(.row none 1 (x16.2.1.map (eI .u8))),(eI .i64 x16.2.2.1),(eI .i64 x16.2.2.2.1)]),(.row none 1 (x16.2.2.2.2.1.map (eI .u8))),(eI .i64 x16.2.2.2.2.2)])),(17,(.agg [(eI .i64 x16.1),(.row none 1 (x16.2.1.map (eI .u8))),(eI .i64 x16.2.2.1),(eI .i64 x16.2.2.2.1)])),(18,(.row none 1 (x16.2.2.2.2.1.map (eI .u8)))),(19,(eI .i64 x16.2.2.2.2.2)),(20,(eI .i64 x16.2.2.2.2.2)),(21,(eB (x16.2.2.2.2.2 != 0))),(23,(.sl 0 0 l0_1.length 4 true)),(24,(.agg [(eI .i64 x16.1),(.row none 1 (x16.2.1.map (eI .u8))),(eI .i64 x16.2.2.1),(eI .i64 x16.2.2.2.1)]))]) (h':=[some ⟨43,l0_1.flatMap aK⟩,none,some ⟨43,[(eI .i64 x16.1),(.row none 1 (x16.2.1.map (eI .u8))),(eI .i64 x16.2.2.1),(eI .i64 x16.2.2.2.1)]⟩]) (aCo rfl (aCl (aB rfl)) (aCo rfl (aCl (aB rfl)) (aCo rfl (aCl (aB rfl)) (aCo rfl (aCl (aB rfl)) (aCo rfl (aCl (aB rfl)) (aCo rfl (aCl (aB rfl)) (aCo rfl (aCl (aB rfl)) (aCo rfl (aCl (aB rfl)) (aCo rfl (aCH (aCm (aCB (aCm (aCl (aB rfl)) (aCm (aCz (aB rfl) rfl rfl (d3 (fun _=>rfl)) (by first|rfl|(simp only[aCu,aO,aM];done))) (aCm (aCl (aB rfl)) (aCm (aCl (aB rfl)) aCw))))) (aCm (aCl (aB rfl)) (aCm (aCl (aB rfl)) aCw)))) (aCo rfl (aCl (aB rfl)) (aCo rfl (aCH (aCm (aCB (aCm (aCl (aB rfl)) (aCm (aCz (aB rfl) rfl rfl (d3 (fun _=>rfl)) (by first|rfl|(simp only[aCu,aO,aM];done))) (aCm (aCl (aB rfl)) (aCm (aCl (aB rfl)) aCw))))) (aCm (aCl (aB rfl)) (aCm (aCl (aB rfl)) aCw)))) (aCo rfl (aCB (aCm (aCl (aB rfl)) (aCm (aCz (aB rfl) rfl rfl (d3 (fun _=>rfl)) (by first|rfl|(simp only[aCu,aO,aM];done))) (aCm (aCl (aB rfl)) (aCm (aCl (aB rfl)) aCw))))) (aCo rfl (aCl (aB rfl)) (aCo rfl (aCl (aB rfl)) (aCo rfl (aCl (aB rfl)) (aCo rfl (aCl (aB rfl)) (aCo rfl (aCl (aB rfl)) (aCo rfl (aCB (aCm (aCl (aB rfl)) (aCm (aCz (aB rfl) rfl rfl (d3 (fun _=>rfl)) (by first|rfl|(simp only[aCu,aO,aM];done))) (aCm (aCl (aB rfl)) (aCm (aCl (aB rfl)) aCw))))) FCv.nil)))))))))))))))))) (aCI (Convs.same (aB rfl)) (gK (fun _=>rfl) _) (HCv.dead (aCI (aCm (aCl (aB rfl)) (aCm (aCz (aB rfl) rfl rfl (d3 (fun _=>rfl)) (by first|rfl|(simp only[aCu,aO,aM];done))) (aCm (aCl (aB rfl)) (aCm (aCl (aB rfl)) aCw)))) rfl HCv.nil)))) ?_
  refine xw (v:=(.sl 3 0 1 4 true)) (h':=[some ⟨43,l0_1.flatMap aK⟩,none,some ⟨43,[(eI .i64 x16.1),(.row none 1 (x16.2.1.map (eI .u8))),(eI .i64 x16.2.2.1),(eI .i64 x16.2.2.2.1)]⟩,some ⟨43,[(aD.mk x16.1 x16.2.1 x16.2.2.1 x16.2.2.2.1)].flatMap aK⟩]) (iH rfl (yS (C:=aK) (xs:=[(aD.mk x16.1 x16.2.1 x16.2.2.1 x16.2.2.2.1)]) (K:=4) (fun _=>rfl) (fun _=>rfl) xL iF ⟨zl,zl,zl⟩ rfl rfl rfl rfl rfl rfl)) ?_
  refine zz ?_
  exact⟨x16.2.2.2.2.1,x26,hr2,(zG [4])⟩
 refine zz ?_
 obtain rfl:=sj hr2
 refine zz ?_
 exact hG1 _ _ _ _ (zG [0]) (J1 l0_1 hr)
theorem oV {N:Nat}{va b:List Int}{r:(List Int)}(hr:fG N va b=some r):
  Vm.Fn Tryz.prog 42 [] [(.row none 1 (va.map (eI .u8))),(.row none 1 (b.map (eI .u8)))] (.sl 0 0 r.length 1 false) [some ⟨5,r.map (eI .u8)⟩]:=by
 refine zf Tryz.func42 Tryz.ntmps42 ?_
 unfold fG at hr
 obtain⟨x11,h_1,hr⟩:=aG hr
 refine zz ?_
 refine xw (v:=(.sl 0 0 0 1 false)) (h':=[some ⟨5,x11.map (eI .u8)⟩]) (aBH rfl rfl (mkC (E:=(eI .u8)) (y:=0) bG aY ⟨zl,rfl,rfl⟩ rfl rfl rfl h_1 rfl rfl)) ?_
 obtain⟨x14,h_2,hr⟩:=aG hr
 obtain⟨x16,h_3,hr⟩:=aG hr
 refine zz ?_
 refine xw (v:=(.sl 1 0 x14.length 1 false)) (h':=[none,some ⟨5,x14.map (eI .u8)⟩]) (nX rfl rfl (aBU (E:=(eI .u8)) (Nat.zero_le _) bG aY ⟨rfl,rfl,zl⟩ rfl (u4 (fun _=>rfl)) h_2 rfl rfl)) ?_
 refine zz ?_
 obtain rfl:=sj hr
 exact cL Tryz.results42 [2]
theorem qL {N:Nat}{l:List (List Int)}{r:(List Int)}(hr:gZ N l=some r):
  Vm.Fn Tryz.prog 26 [] [(.row none 1 (l.map (eL 1 (eI .u8))))] (.sl 0 0 r.length 1 false) [some ⟨5,r.map (eI .u8)⟩]:=by
 refine zf Tryz.func26 Tryz.ntmps26 ?_
 unfold gZ at hr
 refine zz ?_
 refine aCt fun K1 hK1 hG1=> ?_
 have J1: ∀(l0:List Int),i8 N l0=some r→K1 (aA 17 [(3,(.sl 0 0 l0.length 1 false))]) [some ⟨5,l0.map (eI .u8)⟩]:=by
  intro l0 hr
  unfold i8 at hr
  refine hK1 _ _ ?_
  refine zz ?_
  obtain rfl:=sj hr
  exact cL Tryz.results26 [0]
 obtain⟨b9,hL2,hr⟩:=aG hr
 refine zz ?_
 refine aCr<|aCx (fun m s h=> ∃(x8:Int)(l0_1:List Int),dA N l m x8 l0_1=some b9∧Ghost 0 s h (aA 17 [(3,(.sl 0 0 l0_1.length 1 false)),(6,(.row none 1 (l.map (eL 1 (eI .u8))))),(7,(eI .i64 (l.length:Int))),(8,(eI .i64 x8))]) [some ⟨5,l0_1.map (eI .u8)⟩]) (n:=N) ⟨0,[],hL2,(zW 5 [0])⟩ (by rintro s h ⟨_,_,h0,_⟩;simp[dA]at h0) ?_
 rintro m2 s h ⟨x8,l0_1,hr2,hg⟩
 refine aCy hg ?_
 clear hg hL2
 rw[dA]at hr2
 refine zz ?_
 refine aCs ?_
 refine zk hr2 rfl (fun h1 hr2=> ?_) (fun h1 hr2=> ?_)
 ·refine zz ?_
  refine aCs<|aCr ?_
  obtain⟨x10,h_2,hr2⟩:=aG hr2
  obtain⟨x14,h_3,hr2⟩:=aG hr2
  refine zz ?_
  refine zcL (oV h_3) [] [0] ?_
  refine zz ?_
  exact⟨aCh.wrap (x8+1),x14,hr2,(zG [1])⟩
 refine zz ?_
 obtain rfl:=sj hr2
 refine zz ?_
 exact hG1 _ _ _ _ (zG [0]) (J1 l0_1 hr)
theorem pH {N:Nat}{aP:Int}{bH:List Int}{o_M o_N r:Int}(hr:cU N aP bH o_M o_N=some r):
  Vm.Fn Tryz.prog 27 [] [(.agg [(eI .i64 aP),(.row none 1 (bH.map (eI .u8))),(eI .i64 o_M),(eI .i64 o_N)])] (eI .i64 r) []:=by
 refine zf Tryz.func27 Tryz.ntmps27 ?_
 unfold cU at hr
 refine zz ?_
 refine aCs<|aCr ?_
 refine aCt fun K1 hK1 hG1=> ?_
 have J1: ∀(x3:Bool),cS N aP bH o_M o_N x3=some r→K1 (aA 66 [(1,(.ptr 0 0)),(3,(eB x3))]) [some ⟨43,[(eI .i64 aP),(.row none 1 (bH.map (eI .u8))),(eI .i64 o_M),(eI .i64 o_N)]⟩]:=by
  intro x3 hr
  unfold cS at hr
  refine hK1 _ _ ?_
  refine zk hr rfl (fun h1 hr=> ?_) (fun h1 hr=> ?_)
  ·refine zz ?_
   obtain rfl:=sj hr
   exact cL Tryz.results27 []
  refine aCt fun K2 hK2 hG2=> ?_
  have J2: ∀(x12:Bool),bR N aP bH o_M o_N x12=some r→K2 (aA 66 [(1,(.ptr 0 0)),(12,(eB x12))]) [some ⟨43,[(eI .i64 aP),(.row none 1 (bH.map (eI .u8))),(eI .i64 o_M),(eI .i64 o_N)]⟩]:=by
   intro x12 hr
   unfold bR at hr
   refine hK2 _ _ ?_
   refine zk hr rfl (fun h2 hr=> ?_) (fun h2 hr=> ?_)
   ·refine zz ?_
    obtain rfl:=sj hr
    exact cL Tryz.results27 []
   refine zz ?_
   refine zk hr rfl (fun h3 hr=> ?_) (fun h3 hr=> ?_)
   ·refine zz ?_
    obtain rfl:=sj hr
    exact cL Tryz.results27 []
   refine aCt fun K3 hK3 hG3=> ?_
   have J3: ∀(x40:Bool),bQ N x40=some r→K3 (aA 66 [(40,(eB x40))]) []:=by
    intro x40 hr
    unfold bQ at hr
    refine hK3 _ _ ?_
    refine zk hr rfl (fun h4 hr=> ?_) (fun h4 hr=> ?_)
    ·refine zz ?_
     obtain rfl:=sj hr
     exact cL Tryz.results27 []
    refine zz ?_
    obtain rfl:=sj hr
    exact cL Tryz.results27 []
   rcases aCj (aP == 11)with h5|h5
   ·replace hr:=dM hr h5
    rcases aCj (decide (o_N<1))with h6|h6
    ·replace hr:=dM hr h6
     refine xr ?_
     refine zz ?_
     refine xX rfl<|xX rfl<|xX rfl ?_
     refine zz ?_
     refine xX rfl<|xX rfl<|xX rfl<|xX rfl<|xX rfl ?_
     refine zz ?_
     exact hG3 _ _ _ _ (zG []) (J3 true hr)
    replace hr:=dN hr h6
    rcases aCj (decide (15<o_N))with h7|h7
    ·replace hr:=dM hr h7
     refine xr ?_
     refine zz ?_
     refine xX rfl<|xX rfl<|xX rfl<|xX rfl<|xX rfl ?_
     refine zz ?_
     exact hG3 _ _ _ _ (zG []) (J3 true hr)
    replace hr:=dN hr h7
    rcases aCj (decide (o_M<1))with h8|h8
    ·replace hr:=dM hr h8
     refine xr ?_
     refine zz ?_
     exact hG3 _ _ _ _ (zG []) (J3 true hr)
    replace hr:=dN hr h8
    refine xr ?_
    refine zz ?_
    exact hG3 _ _ _ _ (zG []) (J3 (decide (o_N<o_M)) hr)
   replace hr:=dN hr h5
   refine xr ?_
   refine zz ?_
   exact hG3 _ _ _ _ (zG []) (J3 false hr)
  refine aCt fun K4 hK4 hG4=> ?_
  have J4: ∀(k7:Bool),cP N aP bH o_M o_N k7=some r→K4 (aA 66 [(1,(.ptr 0 0)),(12,(eB k7))]) [some ⟨43,[(eI .i64 aP),(.row none 1 (bH.map (eI .u8))),(eI .i64 o_M),(eI .i64 o_N)]⟩]:=by
   intro k7 hr
   unfold cP at hr
   refine hK4 _ _ ?_
   refine zk hr rfl (fun h9 hr=> ?_) (fun h9 hr=> ?_)
   ·refine zz ?_
    exact hG2 _ _ _ _ (zG [0]) (J2 k7 hr)
   rcases aCj (o_M != 0)with h10|h10
   ·replace hr:=dM hr h10
    refine xr ?_
    refine zz ?_
    refine yH (v:=(.ptr 0 0)) rfl rfl rfl (c9 rfl (tU ..)) ?_
    refine yH (v:=(eI .i64 aP)) rfl rfl rfl (bK rfl (yR rfl (fV aV rfl rfl))) ?_
    refine yH (v:=(eB (aP != 11))) rfl rfl rfl (cG rfl rfl (tR ..)) ?_
    refine zz ?_
    exact hG2 _ _ _ _ (zG [0]) (J2 (aP != 11) hr)
   replace hr:=dN hr h10
   rcases aCj (o_N != 0)with h11|h11
   ·replace hr:=dM hr h11
    refine xr ?_
    refine zz ?_
    exact hG2 _ _ _ _ (zG [0]) (J2 (aP != 11) hr)
   replace hr:=dN hr h11
   refine xr ?_
   refine zz ?_
   exact hG2 _ _ _ _ (zG [0]) (J2 false hr)
  rcases aCj (decide (0<(bH.length:Int)))with h12|h12
  ·replace hr:=dM hr h12
   refine xr ?_
   refine zz ?_
   exact hG4 _ _ _ _ (zG [0]) (J4 (aP != 1) hr)
  replace hr:=dN hr h12
  refine xr ?_
  refine zz ?_
  exact hG4 _ _ _ _ (zG [0]) (J4 false hr)
 rcases aCj (decide (aP<1))with h13|h13
 ·replace hr:=dM hr h13
  refine xr ?_
  refine zz ?_
  exact hG1 _ _ _ _ (zG [0]) (J1 true hr)
 replace hr:=dN hr h13
 refine xr ?_
 refine zz ?_
 exact hG1 _ _ _ _ (zG [0]) (J1 (decide (17<aP)) hr)
theorem rQ {N:Nat}{b:List Int}{r:Int×(List Int)×Int×Int×(List Int)×Int}(hr:iY N b=some r):
  Vm.Fn Tryz.prog 14 [] [(.row none 1 (b.map (eI .u8)))] (.tup [(.agg [(eI .i64 r.1),(.sl 0 0 r.2.1.length 1 false),(eI .i64 r.2.2.1),(eI .i64 r.2.2.2.1)]),(.row none 1 (r.2.2.2.2.1.map (eI .u8))),(eI .i64 r.2.2.2.2.2)]) [some ⟨5,r.2.1.map (eI .u8)⟩]:=by
 refine zf Tryz.func14 Tryz.ntmps14 ?_
 unfold iY at hr
 obtain⟨x8,h_1,hr⟩:=aG hr
 refine zz ?_
 refine aCs ?_
 refine aCt fun K1 hK1 hG1=> ?_
 have J1: ∀(x19:Bool),fB N b x8 x19=some r→K1 (aA 77 [(0,(.row none 1 (b.map (eI .u8)))),(2,(.ptr 0 0)),(5,(.ptr 1 0)),(19,(eB x19))]) [some ⟨43,[(eI .i64 0),(.row (some true) 1 []),(eI .i64 0),(eI .i64 0)]⟩,some ⟨43,[(eI .i64 (aCh.wrap x8)),(.row (some true) 1 []),(eI .i64 0),(eI .i64 0)]⟩]:=by
  intro x19 hr
  unfold fB at hr
  refine hK1 _ _ ?_
  refine zk hr rfl (fun h2 hr=> ?_) (fun h2 hr=> ?_)
  ·refine zz ?_
   obtain rfl:=sj hr
   exact l5 Tryz.results14 bZ bZ bZ (zW 5 [2])
  obtain⟨x22,h_3,hr⟩:=aG hr
  refine zz ?_
  refine aCt fun K2 hK2 hG2=> ?_
  have J2: ∀(b_1:List Int)(c1 iE:Int)(l2:List Int),cW N x8 b_1 c1 iE l2=some r→K2 (aA 77 [(0,(.row none 1 (b_1.map (eI .u8)))),(2,(.ptr 0 0)),(5,(.ptr 1 0))]) [some ⟨43,[(eI .i64 0),(.row (some true) 1 []),(eI .i64 0),(eI .i64 0)]⟩,some ⟨43,[(eI .i64 (aCh.wrap x8)),(.sl 2 0 l2.length 1 false),(eI .i64 c1),(eI .i64 iE)]⟩,some ⟨5,l2.map (eI .u8)⟩]:=by
   intro b_1 c1 iE l2 hr
   unfold cW at hr
   refine hK2 _ _<|aCs ?_
   obtain⟨x76,h_4,hr⟩:=aG hr
   refine aCG mixed [] [27] [[0,1,2,3,4,5,6]] ?_
   refine zz ?_
   refine xG (v:=(eI .i64 x76)) (h':=[some ⟨43,[(eI .i64 0),(.row (some true) 1 []),(eI .i64 0),(eI .i64 0)]⟩,some ⟨43,[(eI .i64 (aCh.wrap x8)),(.sl 2 0 l2.length 1 false),(eI .i64 c1),(eI .i64 iE)]⟩,some ⟨5,l2.map (eI .u8)⟩]) rfl (Vm.Fn.lendR (pH h_4) [] [2] (by decide) rfl (by decide) Lend.nil (Brw.row (zX (kZ rfl (kZ (v6 (d:=3) rfl rfl (fun _=>rfl)) (kZ rfl (kZ rfl zJ))))) Brw.nil) rfl rfB.nil rfl zH) ?_
   refine zz ?_
   obtain rfl:=sj hr
   exact l5 Tryz.results14 bZ bZ bZ (zG [2])
  refine zz ?_
  refine aCr ?_
  refine zz ?_
  refine zk hr rfl (fun h6 hr=> ?_) (fun h6 hr=> ?_)
  ·refine aCs ?_
   refine aCt fun K3 hK3 hG3=> ?_
   have J3: ∀(x39:Bool),fD N x8 x22 x39=some r→K3 (aA 77 [(0,(.row none 1 (x22.map (eI .u8)))),(2,(.ptr 0 0)),(5,(.ptr 1 0)),(39,(eB x39))]) [some ⟨43,[(eI .i64 0),(.row (some true) 1 []),(eI .i64 0),(eI .i64 0)]⟩,some ⟨43,[(eI .i64 (aCh.wrap x8)),(.row (some true) 1 []),(eI .i64 0),(eI .i64 0)]⟩]:=by
    intro x39 hr
    unfold fD at hr
    refine hK3 _ _ ?_
    refine zk hr rfl (fun h7 hr=> ?_) (fun h7 hr=> ?_)
    ·refine zz ?_
     obtain rfl:=sj hr
     exact l5 Tryz.results14 bZ bZ bZ (zW 5 [2])
    obtain⟨x42,h_8,hr⟩:=aG hr
    obtain⟨x48,h_9,hr⟩:=aG hr
    obtain⟨x50,h_10,hr⟩:=aG hr
    obtain⟨x53,h_12,hr⟩:=aG hr
    refine zz ?_
    refine AB.rd (b3 []) (b3 [26]) mixed<|aCi (n:=10) (i:=0) (by decide +kernel) rfl (gS (v:=(.row none 1 (x22.map (eI .u8)))) (sv (dC rfl)))<|aCi (n:=9) (i:=1) (by decide +kernel) rfl (gS (v:=(eI .i64 (aCh.wrap (1+(aCh.wrap x42))))) (sv (dC rfl)))<|aCi (n:=8) (i:=2) (by decide +kernel) rfl (gS (v:=(.row none 1 (x48.map (eI .u8)))) (sv (bE rfl rfl rfl (eO bG aY rfl rfl h_9))))<|aCi (n:=7) (i:=3) (by decide +kernel) rfl (gS (v:=(.sl 2 0 1 1 false)) (h':=[some ⟨43,[(eI .i64 0),(.row (some true) 1 []),(eI .i64 0),(eI .i64 0)]⟩,some ⟨43,[(eI .i64 (aCh.wrap x8)),(.row (some true) 1 []),(eI .i64 0),(eI .i64 0)]⟩,some ⟨22,[x48].map (eL 1 (eI .u8))⟩]) (sv (iH rfl (q8 (xs:=[x48].map (eL 1 (eI .u8))) xO bG zl zl rfl rfl rfl rfl rfl rfl rfl)))) ?_
    refine aCi (n:=6) (i:=4) (by decide +kernel) rfl (gC (v:=(.sl 3 0 x50.length 1 false)) (h':=[some ⟨43,[(eI .i64 0),(.row (some true) 1 []),(eI .i64 0),(eI .i64 0)]⟩,some ⟨43,[(eI .i64 (aCh.wrap x8)),(.row (some true) 1 []),(eI .i64 0),(eI .i64 0)]⟩,some ⟨22,[x48].map (eL 1 (eI .u8))⟩,some ⟨5,x50.map (eI .u8)⟩]) (zL (qL h_10) [] [2]) rfl (fun _=>⟨_,rfl⟩) (sv (gE rfl gJ)))<|aCi (n:=5) (i:=5) (by decide +kernel) rfl (gS (v:=(.row none 1 (x22.map (eI .u8)))) (sv (dC rfl)))<|aCi (n:=4) (i:=6) (by decide +kernel) rfl (gS (v:=(eI .i64 (aCh.wrap (1+(aCh.wrap x42))))) (sv (dC rfl))) ?_
    refine aCi (n:=3) (i:=8) (by decide +kernel) rfl (gS (v:=(.ptr 1 1)) (sv (c9 rfl (pM ..)))) ?_
    refine aCD (m:=1) (L:=r6 [0,1,2,3,4,5,6,7,8,9] 11) (s1:=aA 77 [(0,(.row none 1 (x22.map (eI .u8)))),(2,(.ptr 0 0)),(5,(.ptr 1 0)),(53,(.row none 1 (x53.map (eI .u8))))]) (h1:=[some ⟨43,[(eI .i64 0),(.row (some true) 1 []),(eI .i64 0),(eI .i64 0)]⟩,some ⟨43,[(eI .i64 (aCh.wrap x8)),(.sl 2 0 x50.length 1 false),(eI .i64 0),(eI .i64 0)]⟩,some ⟨5,x50.map (eI .u8)⟩]) ?_ (fun J=> ?_)
    ·refine aCi (n:=0) (i:=10) (by decide +kernel) rfl (gS (v:=(.row none 1 (x53.map (eI .u8)))) (sv (fJ rfl)))<|aCA (by decide +kernel) ?_
     refine zz ?_
     exact hG2 _ _ _ _ (zG [0,1,2]) (J2 x53 0 0 x50 hr)
    refine aCq (n:=2) [7,9] (by decide +kernel) (by decide) ?_
    refine(aCn rfl (gS (v:=(.row none 1 (x53.map (eI .u8)))) (sv (bE rfl rfl rfl (eO bG aY rfl rfl h_12)))) ?_ (aCn rfl (gN (h':=[some ⟨43,[(eI .i64 0),(.row (some true) 1 []),(eI .i64 0),(eI .i64 0)]⟩,some ⟨43,[(eI .i64 (aCh.wrap x8)),(.sl 3 0 x50.length 1 false),(eI .i64 0),(eI .i64 0)]⟩,some ⟨22,[x48].map (eL 1 (eI .u8))⟩,some ⟨5,x50.map (eI .u8)⟩]) (sv (aF rfl rfl (bV bG rfl rfl rfl zl rfl)))) ?_ aCv))
    ·refine aCi (n:=1) (i:=9) (by decide +kernel) rfl (gN (h':=[some ⟨43,[(eI .i64 0),(.row (some true) 1 []),(eI .i64 0),(eI .i64 0)]⟩,some ⟨43,[(eI .i64 (aCh.wrap x8)),(.sl 3 0 x50.length 1 false),(eI .i64 0),(eI .i64 0)]⟩,some ⟨22,[x48].map (eL 1 (eI .u8))⟩,some ⟨5,x50.map (eI .u8)⟩]) (sv (aF rfl rfl (bV bG rfl rfl rfl zl rfl)))) ?_
     exact aCp (by decide +kernel) (by decide +kernel) (zG [0,1,3]) J
    refine aCi (n:=1) (i:=7) (by decide +kernel) rfl (gS (v:=(.row none 1 (x53.map (eI .u8)))) (sv (bE rfl rfl rfl (eO bG aY rfl rfl h_12)))) ?_
    exact aCp (by decide +kernel) (by decide +kernel) (zG [0,1,3]) J
   rcases aCj ((x22.length:Int) == 0)with h13|h13
   ·replace hr:=dM hr h13
    refine xr ?_
    refine zz ?_
    exact hG3 _ _ _ _ (zG [0,1]) (J3 true hr)
   replace hr:=dN hr h13
   obtain⟨x35,h_14,hr⟩:=aG hr
   refine xr ?_
   refine zz ?_
   exact hG3 _ _ _ _ (zG [0,1]) (J3 (decide ((aCh.wrap ((x22.length:Int)-1))<(aCh.wrap x35))) hr)
  refine zz ?_
  refine zk hr rfl (fun h15 hr=> ?_) (fun h15 hr=> ?_)
  ·refine aCs ?_
   refine zz ?_
   refine zk hr rfl (fun h16 hr=> ?_) (fun h16 hr=> ?_)
   ·refine zz ?_
    obtain rfl:=sj hr
    exact l5 Tryz.results14 bZ bZ bZ (zW 5 [2])
   obtain⟨x62,h_17,hr⟩:=aG hr
   obtain⟨x66,h_18,hr⟩:=aG hr
   obtain⟨x70,h_19,hr⟩:=aG hr
   refine zz ?_
   refine AB.rd (b3 []) (b3 []) mixed<|aCi (n:=14) (i:=0) (by decide +kernel) rfl (gS (v:=(.row none 1 (x22.map (eI .u8)))) (sv (dC rfl)))<|aCi (n:=13) (i:=1) (by decide +kernel) rfl (gS (sv (k6 rfl rfl (vZ bG aY h_17))))<|aCi (n:=12) (i:=2) (by decide +kernel) rfl (gS (v:=(eI .u8 x62)) (sv (bK rfl (mM h_17 (fV aY rfl rfl)))))<|aCi (n:=11) (i:=3) (by decide +kernel) rfl (gS (v:=(eI .i64 (aCh.wrap x62))) (sv (bW rfl (bO _ ⟨_,aY⟩ aV rfl))))<|aCi (n:=10) (i:=4) (by decide +kernel) rfl (gS (v:=(.row none 1 (x22.map (eI .u8)))) (sv (dC rfl))) ?_
   refine aCi (n:=9) (i:=5) (by decide +kernel) rfl (gS (sv (k6 rfl rfl (vZ bG aY h_18))))<|aCi (n:=8) (i:=8) (by decide +kernel) rfl (gS (v:=(.row none 1 (x22.map (eI .u8)))) (sv (dC rfl)))<|aCi (n:=7) (i:=10) (by decide +kernel) rfl (gS (v:=(.ptr 1 2)) (sv (c9 rfl (pE ..)))) ?_
   refine aCD (m:=1) (L:=r6 [0,1,2,3,4,5,6,7,8,9,10,11,12,13] 15) (s1:=aA 77 [(0,(.row none 1 (x22.map (eI .u8)))),(2,(.ptr 0 0)),(5,(.ptr 1 0)),(70,(.row none 1 (x70.map (eI .u8))))]) (h1:=[some ⟨43,[(eI .i64 0),(.row (some true) 1 []),(eI .i64 0),(eI .i64 0)]⟩,some ⟨43,[(eI .i64 (aCh.wrap x8)),(.row (some true) 1 []),(eI .i64 (aCh.wrap x62)),(eI .i64 (aCh.wrap x66))]⟩]) ?_ (fun J=> ?_)
   ·refine aCi (n:=0) (i:=14) (by decide +kernel) rfl (gS (v:=(.row none 1 (x70.map (eI .u8)))) (sv (fJ rfl)))<|aCA (by decide +kernel) ?_
    refine zz ?_
    exact hG2 _ _ _ _ (aCE (aCF (fr':=[(0,(.row none 1 (x70.map (eI .u8)))),(2,(.ptr 0 0)),(5,(.ptr 1 0))]) (h1:=[some ⟨43,[(eI .i64 0),(.row (some true) 1 []),(eI .i64 0),(eI .i64 0)]⟩,some ⟨43,[(eI .i64 (aCh.wrap x8)),(.sl 2 0 0 1 false),(eI .i64 (aCh.wrap x62)),(eI .i64 (aCh.wrap x66))]⟩]) 5 (FLe.same rfl (FLe.same rfl (FLe.same rfl FLe.nil))) (HLv.live (V.les_refl _ _) rfl (HLv.live (V.les_cons (V.le_refl _ _) (V.les_cons (V.le_virt rfl) (V.les_cons (V.le_refl _ _) (V.les_cons (V.le_refl _ _) V.les_nil)))) rfl HLv.nil))) (p3 [0,1,2])) (J2 x70 (aCh.wrap x62) (aCh.wrap x66) [] hr)
   refine aCq (n:=6) [6,9,11] (by decide +kernel) (by decide) ?_
   refine(aCn rfl (gS (v:=(eI .u8 x66)) (sv (bK rfl (mM h_18 (fV aY rfl rfl))))) ?_ (aCn rfl (gS (v:=(.row none 1 (x70.map (eI .u8)))) (sv (bE rfl rfl rfl (eO bG aY rfl rfl h_19)))) ?_ (aCn rfl (gN (h':=[some ⟨43,[(eI .i64 0),(.row (some true) 1 []),(eI .i64 0),(eI .i64 0)]⟩,some ⟨43,[(eI .i64 (aCh.wrap x8)),(.row (some true) 1 []),(eI .i64 (aCh.wrap x62)),(eI .i64 0)]⟩]) (sv (aF rfl rfl (bV aV rfl rfl rfl zl rfl)))) ?_ aCv)))
   ·refine aCq (n:=5) [7,9,11] (by decide +kernel) (by decide) ?_
    refine(aCn rfl (gS (v:=(eI .i64 (aCh.wrap x66))) (sv (bW rfl (bO _ ⟨_,aY⟩ aV rfl)))) ?_ (aCn rfl (gS (v:=(.row none 1 (x70.map (eI .u8)))) (sv (bE rfl rfl rfl (eO bG aY rfl rfl h_19)))) ?_ (aCn rfl (gN (h':=[some ⟨43,[(eI .i64 0),(.row (some true) 1 []),(eI .i64 0),(eI .i64 0)]⟩,some ⟨43,[(eI .i64 (aCh.wrap x8)),(.row (some true) 1 []),(eI .i64 (aCh.wrap x62)),(eI .i64 0)]⟩]) (sv (aF rfl rfl (bV aV rfl rfl rfl zl rfl)))) ?_ aCv)))
    ·refine aCq (n:=4) [9,11] (by decide +kernel) (by decide) ?_
     refine(aCn rfl (gS (v:=(.row none 1 (x70.map (eI .u8)))) (sv (bE rfl rfl rfl (eO bG aY rfl rfl h_19)))) ?_ (aCn rfl (gN (h':=[some ⟨43,[(eI .i64 0),(.row (some true) 1 []),(eI .i64 0),(eI .i64 0)]⟩,some ⟨43,[(eI .i64 (aCh.wrap x8)),(.row (some true) 1 []),(eI .i64 (aCh.wrap x62)),(eI .i64 0)]⟩]) (sv (aF rfl rfl (bV aV rfl rfl rfl zl rfl)))) ?_ aCv))
     ·refine aCi (n:=3) (i:=11) (by decide +kernel) rfl (gN (h':=[some ⟨43,[(eI .i64 0),(.row (some true) 1 []),(eI .i64 0),(eI .i64 0)]⟩,some ⟨43,[(eI .i64 (aCh.wrap x8)),(.row (some true) 1 []),(eI .i64 (aCh.wrap x62)),(eI .i64 0)]⟩]) (sv (aF rfl rfl (bV aV rfl rfl rfl zl rfl))))<|aCi (n:=2) (i:=12) (by decide +kernel) rfl (gS (v:=(.ptr 1 3)) (sv (c9 rfl (b2 ..))))<|aCi (n:=1) (i:=13) (by decide +kernel) rfl (gN (h':=[some ⟨43,[(eI .i64 0),(.row (some true) 1 []),(eI .i64 0),(eI .i64 0)]⟩,some ⟨43,[(eI .i64 (aCh.wrap x8)),(.row (some true) 1 []),(eI .i64 (aCh.wrap x62)),(eI .i64 (aCh.wrap x66))]⟩]) (sv (aF rfl rfl (bV aV rfl rfl rfl zl rfl)))) ?_
      exact aCp (by decide +kernel) (by decide +kernel) (zG [0,1]) J
     refine aCi (n:=3) (i:=12) (by decide +kernel) rfl (gS (v:=(.ptr 1 3)) (sv (c9 rfl (b2 ..))))<|aCq (n:=2) [9,13] (by decide +kernel) (by decide) ?_
     refine(aCn rfl (gS (v:=(.row none 1 (x70.map (eI .u8)))) (sv (bE rfl rfl rfl (eO bG aY rfl rfl h_19)))) ?_ (aCn rfl (gN (h':=[some ⟨43,[(eI .i64 0),(.row (some true) 1 []),(eI .i64 0),(eI .i64 0)]⟩,some ⟨43,[(eI .i64 (aCh.wrap x8)),(.row (some true) 1 []),(eI .i64 (aCh.wrap x62)),(eI .i64 (aCh.wrap x66))]⟩]) (sv (aF rfl rfl (bV aV rfl rfl rfl zl rfl)))) ?_ aCv))
     ·refine aCi (n:=1) (i:=13) (by decide +kernel) rfl (gN (h':=[some ⟨43,[(eI .i64 0),(.row (some true) 1 []),(eI .i64 0),(eI .i64 0)]⟩,some ⟨43,[(eI .i64 (aCh.wrap x8)),(.row (some true) 1 []),(eI .i64 (aCh.wrap x62)),(eI .i64 (aCh.wrap x66))]⟩]) (sv (aF rfl rfl (bV aV rfl rfl rfl zl rfl)))) ?_
      exact aCp (by decide +kernel) (by decide +kernel) (zG [0,1]) J
     refine aCi (n:=1) (i:=9) (by decide +kernel) rfl (gS (v:=(.row none 1 (x70.map (eI .u8)))) (sv (bE rfl rfl rfl (eO bG aY rfl rfl h_19)))) ?_
     exact aCp (by decide +kernel) (by decide +kernel) (zG [0,1]) J
    ·refine aCq (n:=4) [7,11] (by decide +kernel) (by decide) ?_
     refine(aCn rfl (gS (v:=(eI .i64 (aCh.wrap x66))) (sv (bW rfl (bO _ ⟨_,aY⟩ aV rfl)))) ?_ (aCn rfl (gN (h':=[some ⟨43,[(eI .i64 0),(.row (some true) 1 []),(eI .i64 0),(eI .i64 0)]⟩,some ⟨43,[(eI .i64 (aCh.wrap x8)),(.row (some true) 1 []),(eI .i64 (aCh.wrap x62)),(eI .i64 0)]⟩]) (sv (aF rfl rfl (bV aV rfl rfl rfl zl rfl)))) ?_ aCv))
     ·refine aCi (n:=3) (i:=11) (by decide +kernel) rfl (gN (h':=[some ⟨43,[(eI .i64 0),(.row (some true) 1 []),(eI .i64 0),(eI .i64 0)]⟩,some ⟨43,[(eI .i64 (aCh.wrap x8)),(.row (some true) 1 []),(eI .i64 (aCh.wrap x62)),(eI .i64 0)]⟩]) (sv (aF rfl rfl (bV aV rfl rfl rfl zl rfl))))<|aCi (n:=2) (i:=12) (by decide +kernel) rfl (gS (v:=(.ptr 1 3)) (sv (c9 rfl (b2 ..))))<|aCi (n:=1) (i:=13) (by decide +kernel) rfl (gN (h':=[some ⟨43,[(eI .i64 0),(.row (some true) 1 []),(eI .i64 0),(eI .i64 0)]⟩,some ⟨43,[(eI .i64 (aCh.wrap x8)),(.row (some true) 1 []),(eI .i64 (aCh.wrap x62)),(eI .i64 (aCh.wrap x66))]⟩]) (sv (aF rfl rfl (bV aV rfl rfl rfl zl rfl)))) ?_
      exact aCp (by decide +kernel) (by decide +kernel) (zG [0,1]) J
     refine aCi (n:=3) (i:=7) (by decide +kernel) rfl (gS (v:=(eI .i64 (aCh.wrap x66))) (sv (bW rfl (bO _ ⟨_,aY⟩ aV rfl))))<|aCi (n:=2) (i:=12) (by decide +kernel) rfl (gS (v:=(.ptr 1 3)) (sv (c9 rfl (b2 ..))))<|aCi (n:=1) (i:=13) (by decide +kernel) rfl (gN (h':=[some ⟨43,[(eI .i64 0),(.row (some true) 1 []),(eI .i64 0),(eI .i64 0)]⟩,some ⟨43,[(eI .i64 (aCh.wrap x8)),(.row (some true) 1 []),(eI .i64 (aCh.wrap x62)),(eI .i64 (aCh.wrap x66))]⟩]) (sv (aF rfl rfl (bV aV rfl rfl rfl zl rfl)))) ?_
     exact aCp (by decide +kernel) (by decide +kernel) (zG [0,1]) J
    refine aCi (n:=4) (i:=7) (by decide +kernel) rfl (gS (v:=(eI .i64 (aCh.wrap x66))) (sv (bW rfl (bO _ ⟨_,aY⟩ aV rfl))))<|aCi (n:=3) (i:=12) (by decide +kernel) rfl (gS (v:=(.ptr 1 3)) (sv (c9 rfl (b2 ..))))<|aCq (n:=2) [9,13] (by decide +kernel) (by decide) ?_
    refine(aCn rfl (gS (v:=(.row none 1 (x70.map (eI .u8)))) (sv (bE rfl rfl rfl (eO bG aY rfl rfl h_19)))) ?_ (aCn rfl (gN (h':=[some ⟨43,[(eI .i64 0),(.row (some true) 1 []),(eI .i64 0),(eI .i64 0)]⟩,some ⟨43,[(eI .i64 (aCh.wrap x8)),(.row (some true) 1 []),(eI .i64 (aCh.wrap x62)),(eI .i64 (aCh.wrap x66))]⟩]) (sv (aF rfl rfl (bV aV rfl rfl rfl zl rfl)))) ?_ aCv))
    ·refine aCi (n:=1) (i:=13) (by decide +kernel) rfl (gN (h':=[some ⟨43,[(eI .i64 0),(.row (some true) 1 []),(eI .i64 0),(eI .i64 0)]⟩,some ⟨43,[(eI .i64 (aCh.wrap x8)),(.row (some true) 1 []),(eI .i64 (aCh.wrap x62)),(eI .i64 (aCh.wrap x66))]⟩]) (sv (aF rfl rfl (bV aV rfl rfl rfl zl rfl)))) ?_
     exact aCp (by decide +kernel) (by decide +kernel) (zG [0,1]) J
    refine aCi (n:=1) (i:=9) (by decide +kernel) rfl (gS (v:=(.row none 1 (x70.map (eI .u8)))) (sv (bE rfl rfl rfl (eO bG aY rfl rfl h_19)))) ?_
    exact aCp (by decide +kernel) (by decide +kernel) (zG [0,1]) J
   ·refine aCq (n:=5) [6,11] (by decide +kernel) (by decide) ?_
    refine(aCn rfl (gS (v:=(eI .u8 x66)) (sv (bK rfl (mM h_18 (fV aY rfl rfl))))) ?_ (aCn rfl (gN (h':=[some ⟨43,[(eI .i64 0),(.row (some true) 1 []),(eI .i64 0),(eI .i64 0)]⟩,some ⟨43,[(eI .i64 (aCh.wrap x8)),(.row (some true) 1 []),(eI .i64 (aCh.wrap x62)),(eI .i64 0)]⟩]) (sv (aF rfl rfl (bV aV rfl rfl rfl zl rfl)))) ?_ aCv))
    ·refine aCq (n:=4) [7,11] (by decide +kernel) (by decide) ?_
     refine(aCn rfl (gS (v:=(eI .i64 (aCh.wrap x66))) (sv (bW rfl (bO _ ⟨_,aY⟩ aV rfl)))) ?_ (aCn rfl (gN (h':=[some ⟨43,[(eI .i64 0),(.row (some true) 1 []),(eI .i64 0),(eI .i64 0)]⟩,some ⟨43,[(eI .i64 (aCh.wrap x8)),(.row (some true) 1 []),(eI .i64 (aCh.wrap x62)),(eI .i64 0)]⟩]) (sv (aF rfl rfl (bV aV rfl rfl rfl zl rfl)))) ?_ aCv))
     ·refine aCi (n:=3) (i:=11) (by decide +kernel) rfl (gN (h':=[some ⟨43,[(eI .i64 0),(.row (some true) 1 []),(eI .i64 0),(eI .i64 0)]⟩,some ⟨43,[(eI .i64 (aCh.wrap x8)),(.row (some true) 1 []),(eI .i64 (aCh.wrap x62)),(eI .i64 0)]⟩]) (sv (aF rfl rfl (bV aV rfl rfl rfl zl rfl))))<|aCi (n:=2) (i:=12) (by decide +kernel) rfl (gS (v:=(.ptr 1 3)) (sv (c9 rfl (b2 ..))))<|aCi (n:=1) (i:=13) (by decide +kernel) rfl (gN (h':=[some ⟨43,[(eI .i64 0),(.row (some true) 1 []),(eI .i64 0),(eI .i64 0)]⟩,some ⟨43,[(eI .i64 (aCh.wrap x8)),(.row (some true) 1 []),(eI .i64 (aCh.wrap x62)),(eI .i64 (aCh.wrap x66))]⟩]) (sv (aF rfl rfl (bV aV rfl rfl rfl zl rfl)))) ?_
      exact aCp (by decide +kernel) (by decide +kernel) (zG [0,1]) J
     refine aCi (n:=3) (i:=7) (by decide +kernel) rfl (gS (v:=(eI .i64 (aCh.wrap x66))) (sv (bW rfl (bO _ ⟨_,aY⟩ aV rfl))))<|aCi (n:=2) (i:=12) (by decide +kernel) rfl (gS (v:=(.ptr 1 3)) (sv (c9 rfl (b2 ..))))<|aCi (n:=1) (i:=13) (by decide +kernel) rfl (gN (h':=[some ⟨43,[(eI .i64 0),(.row (some true) 1 []),(eI .i64 0),(eI .i64 0)]⟩,some ⟨43,[(eI .i64 (aCh.wrap x8)),(.row (some true) 1 []),(eI .i64 (aCh.wrap x62)),(eI .i64 (aCh.wrap x66))]⟩]) (sv (aF rfl rfl (bV aV rfl rfl rfl zl rfl)))) ?_
     exact aCp (by decide +kernel) (by decide +kernel) (zG [0,1]) J
    refine aCi (n:=4) (i:=6) (by decide +kernel) rfl (gS (v:=(eI .u8 x66)) (sv (bK rfl (mM h_18 (fV aY rfl rfl)))))<|aCi (n:=3) (i:=7) (by decide +kernel) rfl (gS (v:=(eI .i64 (aCh.wrap x66))) (sv (bW rfl (bO _ ⟨_,aY⟩ aV rfl))))<|aCi (n:=2) (i:=12) (by decide +kernel) rfl (gS (v:=(.ptr 1 3)) (sv (c9 rfl (b2 ..))))<|aCi (n:=1) (i:=13) (by decide +kernel) rfl (gN (h':=[some ⟨43,[(eI .i64 0),(.row (some true) 1 []),(eI .i64 0),(eI .i64 0)]⟩,some ⟨43,[(eI .i64 (aCh.wrap x8)),(.row (some true) 1 []),(eI .i64 (aCh.wrap x62)),(eI .i64 (aCh.wrap x66))]⟩]) (sv (aF rfl rfl (bV aV rfl rfl rfl zl rfl)))) ?_
    exact aCp (by decide +kernel) (by decide +kernel) (zG [0,1]) J
   refine aCi (n:=5) (i:=6) (by decide +kernel) rfl (gS (v:=(eI .u8 x66)) (sv (bK rfl (mM h_18 (fV aY rfl rfl)))))<|aCi (n:=4) (i:=7) (by decide +kernel) rfl (gS (v:=(eI .i64 (aCh.wrap x66))) (sv (bW rfl (bO _ ⟨_,aY⟩ aV rfl))))<|aCi (n:=3) (i:=12) (by decide +kernel) rfl (gS (v:=(.ptr 1 3)) (sv (c9 rfl (b2 ..))))<|aCq (n:=2) [9,13] (by decide +kernel) (by decide) ?_
   refine(aCn rfl (gS (v:=(.row none 1 (x70.map (eI .u8)))) (sv (bE rfl rfl rfl (eO bG aY rfl rfl h_19)))) ?_ (aCn rfl (gN (h':=[some ⟨43,[(eI .i64 0),(.row (some true) 1 []),(eI .i64 0),(eI .i64 0)]⟩,some ⟨43,[(eI .i64 (aCh.wrap x8)),(.row (some true) 1 []),(eI .i64 (aCh.wrap x62)),(eI .i64 (aCh.wrap x66))]⟩]) (sv (aF rfl rfl (bV aV rfl rfl rfl zl rfl)))) ?_ aCv))
   ·refine aCi (n:=1) (i:=13) (by decide +kernel) rfl (gN (h':=[some ⟨43,[(eI .i64 0),(.row (some true) 1 []),(eI .i64 0),(eI .i64 0)]⟩,some ⟨43,[(eI .i64 (aCh.wrap x8)),(.row (some true) 1 []),(eI .i64 (aCh.wrap x62)),(eI .i64 (aCh.wrap x66))]⟩]) (sv (aF rfl rfl (bV aV rfl rfl rfl zl rfl)))) ?_
    exact aCp (by decide +kernel) (by decide +kernel) (zG [0,1]) J
   refine aCi (n:=1) (i:=9) (by decide +kernel) rfl (gS (v:=(.row none 1 (x70.map (eI .u8)))) (sv (bE rfl rfl rfl (eO bG aY rfl rfl h_19)))) ?_
   exact aCp (by decide +kernel) (by decide +kernel) (zG [0,1]) J
  refine zz ?_
  exact hG2 _ _ _ _ (aCE (aCF (fr':=[(0,(.row none 1 (x22.map (eI .u8)))),(2,(.ptr 0 0)),(5,(.ptr 1 0))]) (h1:=[some ⟨43,[(eI .i64 0),(.row (some true) 1 []),(eI .i64 0),(eI .i64 0)]⟩,some ⟨43,[(eI .i64 (aCh.wrap x8)),(.sl 2 0 0 1 false),(eI .i64 0),(eI .i64 0)]⟩]) 5 (FLe.same rfl (FLe.same rfl (FLe.same rfl FLe.nil))) (HLv.live (V.les_refl _ _) rfl (HLv.live (V.les_cons (V.le_refl _ _) (V.les_cons (V.le_virt rfl) (V.les_cons (V.le_refl _ _) (V.les_cons (V.le_refl _ _) V.les_nil)))) rfl HLv.nil))) (p3 [0,1,2])) (J2 x22 0 0 [] hr)
 rcases aCj (decide ((aCh.wrap x8)<1))with h20|h20
 ·replace hr:=dM hr h20
  refine xr ?_
  refine zz ?_
  exact hG1 _ _ _ _ (zG [0,1]) (J1 true hr)
 replace hr:=dN hr h20
 refine xr ?_
 refine zz ?_
 exact hG1 _ _ _ _ (zG [0,1]) (J1 (decide (17<(aCh.wrap x8))) hr)
theorem kU {N:Nat}{b:List Int}{r:(List aD)×Int}(hr:eU N b=some r):
  Vm.Fn Tryz.prog 6 [] [(.row none 1 (b.map (eI .u8)))] (.tup [(.sl 0 0 r.1.length 4 true),(eI .i64 r.2)]) [some ⟨43,r.1.flatMap aK⟩]:=by
 refine zf Tryz.func6 Tryz.ntmps6 ?_
 unfold eU at hr
 refine zz ?_
 refine aCs ?_
 refine zz ?_
 refine zk hr rfl (fun h1 hr=> ?_) (fun h1 hr=> ?_)
 ·refine zz ?_
  obtain rfl:=sj hr
  exact tX Tryz.results6 bZ bZ (zW 43 [0])
 refine zz ?_
 refine aCt fun K1 hK1 hG1=> ?_
 have J1: ∀(l0:List aD),iQ N l0=some r→K1 (aA 29 [(4,(.sl 0 0 l0.length 4 true))]) [some ⟨43,l0.flatMap aK⟩]:=by
  intro l0 hr
  unfold iQ at hr
  refine hK1 _ _ ?_
  refine zz ?_
  obtain rfl:=sj hr
  exact zd2 Tryz.results6 [0]
 obtain⟨b9,hL2,hr⟩:=aG hr
 refine aCr<|aCx (fun m s h=> ∃(b_1:List Int)(l0_1:List aD),cQ N m b_1 l0_1=some b9∧Ghost 0 s h (aA 29 [(0,(.row none 1 (b_1.map (eI .u8)))),(4,(.sl 0 0 l0_1.length 4 true))]) [some ⟨43,l0_1.flatMap aK⟩]) (n:=N) ⟨b,[],hL2,(zW 43 [0])⟩ (by rintro s h ⟨_,_,h0,_⟩;simp[cQ]at h0) ?_
 rintro m2 s h ⟨b_1,l0_1,hr2,hg⟩
 refine aCy hg ?_
 clear hg hL2
 rw[cQ]at hr2
 refine aCs ?_
 refine zz ?_
 refine zk hr2 rfl (fun h2 hr2=> ?_) (fun h2 hr2=> ?_)
 ·refine zz ?_
  refine aCr ?_
  obtain⟨x16,h_3,hr2⟩:=aG hr2
  refine zz ?_
  refine zc (rQ h_3) [] ?_
  refine zz ?_
  refine aCs ?_
  refine zz ?_
  refine zk hr2 rfl (fun h4 hr2=> ?_) (fun h4 hr2=> ?_)
  ·refine zz ?_
   obtain rfl:=sj hr2
   obtain rfl:=sj hr
   exact tX Tryz.results6 bZ bZ (zW 43 [3])
  obtain⟨x26,h_5,hr2⟩:=aG hr2
  refine zz ?_
  refine OpsX.ghost (Ghost.conv (fr':=[(0,(.row none 1 (b_1.map (eI .u8)))),(4,(.sl 0 0 l0_1.length 4 true)),(5,(.ptr 2 0)),(6,(.row none 1 (x16.2.2.2.2.1.map (eI .u8)))),(7,(eI .i64 x16.2.2.2.2.2)),(11,(.row none 1 (b_1.map (eI .u8)))),(12,(eI .i64 (b_1.length:Int))),(13,(eB (decide (0<(b_1.length:Int))))),(14,(.tup [(.agg [(eI .i64 x16.1),(.row none 1 (x16.2.1.map (eI .u8))),(eI .i64 x16.2.2.1),(eI .i64 x16.2.2.2.1)]),(.row none 1 (x16.2.2.2.2.1.map (eI .u8))),(eI .i64 x16.2.2.2.2.2)])),(15,(.row none 1 (b_1.map (eI .u8)))),(16,(.tup [(.agg [(eI .i64 x16.1),(.row none 1 (x16.2.1.map (eI .u8))),(eI .i64 x16.2.2.1),(eI .i64 x16.2.2.2.1)]),(.row none 1 (x16.2.2.2.2.1.map (eI .u8))),(eI .i64 x16.2.2.2.2.2)])),(17,(.agg [(eI .i64 x16.1),(.row none 1 (x16.2.1.map (eI .u8))),(eI .i64 x16.2.2.1),(eI .i64 x16.2.2.2.1)])),(18,(.row none 1 (x16.2.2.2.2.1.map (eI .u8)))),(19,(eI .i64 x16.2.2.2.2.2)),(20,(eI .i64 x16.2.2.2.2.2)),(21,(eB (x16.2.2.2.2.2 != 0))),(23,(.sl 0 0 l0_1.length 4 true)),(24,(.agg [(eI .i64 x16.1),(.row none 1 (x16.2.1.map (eI .u8))),(eI .i64 x16.2.2.1),(eI .i64 x16.2.2.2.1)]))]) (h':=[some ⟨43,l0_1.flatMap aK⟩,none,some ⟨43,[(eI .i64 x16.1),(.row none 1 (x16.2.1.map (eI .u8))),(eI .i64 x16.2.2.1),(eI .i64 x16.2.2.2.1)]⟩]) (aCo rfl (aCl (aB rfl)) (aCo rfl (aCl (aB rfl)) (aCo rfl (aCl (aB rfl)) (aCo rfl (aCl (aB rfl)) (aCo rfl (aCl (aB rfl)) (aCo rfl (aCl (aB rfl)) (aCo rfl (aCl (aB rfl)) (aCo rfl (aCl (aB rfl)) (aCo rfl (aCH (aCm (aCB (aCm (aCl (aB rfl)) (aCm (aCz (aB rfl) rfl rfl (d3 (fun _=>rfl)) (by first|rfl|(simp only[aCu,aO,aM];done))) (aCm (aCl (aB rfl)) (aCm (aCl (aB rfl)) aCw))))) (aCm (aCl (aB rfl)) (aCm (aCl (aB rfl)) aCw)))) (aCo rfl (aCl (aB rfl)) (aCo rfl (aCH (aCm (aCB (aCm (aCl (aB rfl)) (aCm (aCz (aB rfl) rfl rfl (d3 (fun _=>rfl)) (by first|rfl|(simp only[aCu,aO,aM];done))) (aCm (aCl (aB rfl)) (aCm (aCl (aB rfl)) aCw))))) (aCm (aCl (aB rfl)) (aCm (aCl (aB rfl)) aCw)))) (aCo rfl (aCB (aCm (aCl (aB rfl)) (aCm (aCz (aB rfl) rfl rfl (d3 (fun _=>rfl)) (by first|rfl|(simp only[aCu,aO,aM];done))) (aCm (aCl (aB rfl)) (aCm (aCl (aB rfl)) aCw))))) (aCo rfl (aCl (aB rfl)) (aCo rfl (aCl (aB rfl)) (aCo rfl (aCl (aB rfl)) (aCo rfl (aCl (aB rfl)) (aCo rfl (aCl (aB rfl)) (aCo rfl (aCB (aCm (aCl (aB rfl)) (aCm (aCz (aB rfl) rfl rfl (d3 (fun _=>rfl)) (by first|rfl|(simp only[aCu,aO,aM];done))) (aCm (aCl (aB rfl)) (aCm (aCl (aB rfl)) aCw))))) FCv.nil)))))))))))))))))) (aCI (Convs.same (aB rfl)) (gK (fun _=>rfl) _) (HCv.dead (aCI (aCm (aCl (aB rfl)) (aCm (aCz (aB rfl) rfl rfl (d3 (fun _=>rfl)) (by first|rfl|(simp only[aCu,aO,aM];done))) (aCm (aCl (aB rfl)) (aCm (aCl (aB rfl)) aCw)))) rfl HCv.nil)))) ?_
  refine xw (v:=(.sl 3 0 1 4 true)) (h':=[some ⟨43,l0_1.flatMap aK⟩,none,some ⟨43,[(eI .i64 x16.1),(.row none 1 (x16.2.1.map (eI .u8))),(eI .i64 x16.2.2.1),(eI .i64 x16.2.2.2.1)]⟩,some ⟨43,[(aD.mk x16.1 x16.2.1 x16.2.2.1 x16.2.2.2.1)].flatMap aK⟩]) (iH rfl (yS (C:=aK) (xs:=[(aD.mk x16.1 x16.2.1 x16.2.2.1 x16.2.2.2.1)]) (K:=4) (fun _=>rfl) (fun _=>rfl) xL iF ⟨zl,zl,zl⟩ rfl rfl rfl rfl rfl rfl)) ?_
  refine zz ?_
  exact⟨x16.2.2.2.2.1,x26,hr2,(zG [4])⟩
 refine zz ?_
 obtain rfl:=sj hr2
 refine zz ?_
 exact hG1 _ _ _ _ (zG [0]) (J1 l0_1 hr)
theorem qP {N:Nat}{va b:List Int}{r:Bool}(hr:g9 N va b=some r):
  Vm.Fn Tryz.prog 15 [] [(.row none 1 (va.map (eI .u8))),(.row none 1 (b.map (eI .u8)))] (eB r) []:=by
 refine zf Tryz.func15 Tryz.ntmps15 ?_
 unfold g9 at hr
 refine zz ?_
 refine xw (v:=(eS (fR va))) (bW rfl (rC bG l4 aY (u4 (fun _=>rfl)))) ?_
 refine zz ?_
 refine xw (v:=(eS (fR b))) (bW rfl (rC bG l4 aY (u4 (fun _=>rfl))))<|xw (cG rfl rfl (rL ..)) ?_
 refine zz ?_
 obtain rfl:=sj hr
 exact cL Tryz.results15 []
theorem jW {N:Nat}{va b:List aD}{r:Bool}(hr:eP N va b=some r):
  Vm.Fn Tryz.prog 7 [] [(.row none 4 (va.map iK)),(.row none 4 (b.map iK))] (eB r) []:=by
 refine zf Tryz.func7 Tryz.ntmps7 ?_
 unfold eP at hr
 refine zz ?_
 refine aCs ?_
 refine zz ?_
 refine zk hr rfl (fun h1 hr=> ?_) (fun h1 hr=> ?_)
 ·refine zz ?_
  obtain rfl:=sj hr
  exact cL Tryz.results7 []
 refine zz ?_
 refine aCt fun K1 hK1 hG1=> ?_
 have J1:eK N=some r→K1 (aA 68 []) []:=by
  intro hr
  unfold eK at hr
  refine hK1 _ _ ?_
  refine zz ?_
  obtain rfl:=sj hr
  exact cL Tryz.results7 []
 obtain⟨b9,hL2,hr⟩:=aG hr
 refine zz ?_
 refine aCr<|aCx (fun m s h=> ∃(x13:Int),a6 N va b m x13=some b9∧Ghost 0 s h (aA 68 [(0,(.row none 4 (va.map iK))),(1,(.row none 4 (b.map iK))),(12,(eI .i64 (va.length:Int))),(13,(eI .i64 x13))]) []) (n:=N) ⟨0,hL2,(zG [])⟩ (by rintro s h ⟨_,h0,_⟩;simp[a6]at h0) ?_
 rintro m2 s h ⟨x13,hr2,hg⟩
 refine aCy hg ?_
 clear hg hL2
 rw[a6]at hr2
 refine zz ?_
 refine aCs ?_
 refine zk hr2 rfl (fun h2 hr2=> ?_) (fun h2 hr2=> ?_)
 ·refine zz ?_
  refine aCs<|aCr ?_
  refine zz ?_
  refine aCt fun K3 hK3 hG3=> ?_
  have J3: ∀(x66:Bool),b8 N va b x13 (a6 N va b m2) x66=some b9→K3 (aA 68 [(0,(.row none 4 (va.map iK))),(1,(.row none 4 (b.map iK))),(12,(eI .i64 (va.length:Int))),(13,(eI .i64 x13)),(66,(eB x66))]) []:=by
   intro x66 hr2
   unfold b8 at hr2
   refine hK3 _ _ ?_
   refine zk hr2 rfl (fun h3 hr2=> ?_) (fun h3 hr2=> ?_)
   ·refine zz ?_
    obtain rfl:=sj hr2
    obtain rfl:=sj hr
    exact cL Tryz.results7 []
   refine zz ?_
   exact⟨aCh.wrap (x13+1),hr2,(zG [])⟩
  obtain⟨x18,h_4,hr2⟩:=aG hr2
  obtain⟨x23,h_5,hr2⟩:=aG hr2
  rcases aCj (x18.Code != x23.Code)with h6|h6
  ·replace hr2:=dM hr2 h6
   refine aCG mixed [15] [] [[0,1,2,3,4,5,6,7,8,9,10,11,12,13,14,15,16,17,18,19,20,21,22,23,24,25,26,27,28,29,30,31,32,33,34,35,36,37,38,39,40,41,42,43,44,45,46,47,48,49,50]] ?_
   refine zz ?_
   refine xX rfl<|xX rfl<|xX rfl<|xX rfl<|xX rfl<|xX rfl<|xX rfl<|xX rfl<|xX rfl<|xX rfl<|xX rfl ?_
   refine zz ?_
   refine xX rfl<|xX rfl<|xX rfl<|xX rfl<|xX rfl<|xX rfl<|xX rfl<|xX rfl<|xX rfl<|xX rfl<|xX rfl<|xX rfl ?_
   refine zz ?_
   exact hG3 _ _ _ _ (zG []) (J3 true hr2)
  replace hr2:=dN hr2 h6
  rcases aCj (x18.M != x23.M)with h7|h7
  ·replace hr2:=dM hr2 h7
   refine aCG mixed [15] [] [[0,1,2,3,4,5,6,7,8,9,10,11,12,13,14,15,16,17,18,19,20,21,22,23,24,25,26,27,28,29,30,31,32,33,34,35,36,37,38,39,40,41,42,43,44,45,46,47,48,49,50]] ?_
   refine zz ?_
   refine xX rfl<|xX rfl<|xX rfl<|xX rfl<|xX rfl<|xX rfl<|xX rfl<|xX rfl<|xX rfl<|xX rfl<|xX rfl<|xX rfl ?_
   refine zz ?_
   exact hG3 _ _ _ _ (zG []) (J3 true hr2)
  replace hr2:=dN hr2 h7
  rcases aCj (x18.N != x23.N)with h8|h8
  ·replace hr2:=dM hr2 h8
   refine aCG mixed [15] [] [[0,1,2,3,4,5,6,7,8,9,10,11,12,13,14,15,16,17,18,19,20,21,22,23,24,25,26,27,28,29,30,31,32,33,34,35,36,37,38,39,40,41,42,43,44,45,46,47,48,49,50]] ?_
   refine zz ?_
   exact hG3 _ _ _ _ (zG []) (J3 true hr2)
  replace hr2:=dN hr2 h8
  obtain⟨x64,h_9,hr2⟩:=aG hr2
  refine aCG mixed [15] [] [[0,1,2,3,4,5,6,7,8,9,10,11,12,13,14,15,16,17,18,19,20,21,22,23,24,25,26,27,28,29,30,31,32,33,34,35,36,37,38,39,40,41,42,43,44,45,46,47,48,49,50]] ?_
  refine zz ?_
  refine xu (qP h_9) ?_
  refine zz ?_
  exact hG3 _ _ _ _ (zG []) (J3 (!x64) hr2)
 refine zz ?_
 obtain rfl:=sj hr2
 refine zz ?_
 exact hG1 _ _ _ _ (zG []) (J1 hr)
theorem pC {N:Nat}{fY:Int}{m9:List Int}{u7 uS:Int}{r:ByteArray}(hr:f6 N fY m9 u7 uS=some r):
  Vm.Fn Tryz.prog 16 [] [(.agg [(eI .i64 fY),(.row none 1 (m9.map (eI .u8))),(eI .i64 u7),(eI .i64 uS)])] (eS r) []:=by
 refine zf Tryz.func16 Tryz.ntmps16 ?_
 unfold f6 at hr
 refine zz ?_
 refine aCs ?_
 refine zz ?_
 refine aCr ?_
 refine zz ?_
 refine zk hr rfl (fun h1 hr=> ?_) (fun h1 hr=> ?_)
 ·obtain⟨x9,h_2,hr⟩:=aG hr
  obtain⟨x10,h_3,hr⟩:=aG hr
  obtain⟨x11,h_4,hr⟩:=aG hr
  refine zz ?_
  refine xp (kJ h_2)<|xw (v:=(eS x10)) (cG rfl rfl (c6 _ _ _ h_3))<|xw (v:=(eS x11)) (cG rfl rfl (c6 _ _ _ h_4)) ?_
  refine zz ?_
  obtain rfl:=sj hr
  exact cL Tryz.results16 []
 refine zz ?_
 refine zk hr rfl (fun h5 hr=> ?_) (fun h5 hr=> ?_)
 ·refine aCs ?_
  obtain⟨x16,h_6,hr⟩:=aG hr
  obtain⟨x18,h_7,hr⟩:=aG hr
  obtain⟨x21,h_8,hr⟩:=aG hr
  obtain⟨x22,h_10,hr⟩:=aG hr
  obtain⟨x23,h_11,hr⟩:=aG hr
  obtain⟨x26,h_12,hr⟩:=aG hr
  obtain⟨x27,h_14,hr⟩:=aG hr
  refine aCG mixed [29] [] [[0,1,2,3,4,5,6,7,8,9,10,11,12,13,14]] ?_
  refine zz ?_
  refine xw (v:=(.eptr [(.agg (b6.map eS))] 0 (aCC fY))) (k6 rfl rfl (iaG sT l4 rfl h_6))<|xw (v:=(eS x16)) (bK rfl (ldG (E:=eS) (y:=x16) l4 rfl (dH h_6)))<|xw (v:=(eS x18)) (cG rfl rfl (c6 _ _ _ h_7)) ?_
  refine zz ?_
  refine xu (j7 h_8)<|xw (v:=(eS x22)) (cG rfl rfl (c6 _ _ _ h_10))<|xw (v:=(eS x23)) (cG rfl rfl (c6 _ _ _ h_11)) ?_
  refine zz ?_
  refine xu (j7 h_12)<|xw (v:=(eS x27)) (cG rfl rfl (c6 _ _ _ h_14)) ?_
  refine zz ?_
  obtain rfl:=sj hr
  exact cL Tryz.results16 []
 obtain⟨x30,h_15,hr⟩:=aG hr
 refine zz ?_
 refine xw (v:=(.eptr [(.agg (b6.map eS))] 0 (aCC fY))) (k6 rfl rfl (iaG sT l4 rfl h_15))<|xw (v:=(eS x30)) (bK rfl (ldG (E:=eS) (y:=x30) l4 rfl (dH h_15))) ?_
 refine zz ?_
 obtain rfl:=sj hr
 exact cL Tryz.results16 []
theorem pL {N:Nat}{b:List Int}{r:ByteArray}(hr:f7 N b=some r):
  Vm.Fn Tryz.prog 8 [] [(.row none 1 (b.map (eI .u8)))] (eS r) []:=by
 refine zf Tryz.func8 Tryz.ntmps8 ?_
 unfold f7 at hr
 obtain⟨x10,h_1,hr⟩:=aG hr
 refine zz ?_
 refine zc (j9 h_1) [] ?_
 refine zz ?_
 refine aCs ?_
 refine zz ?_
 refine zk hr rfl (fun h2 hr=> ?_) (fun h2 hr=> ?_)
 ·refine zz ?_
  obtain rfl:=sj hr
  exact cL Tryz.results8 []
 refine zz ?_
 refine aCt fun K1 hK1 hG1=> ?_
 have J1: ∀(l0:List ByteArray),fW N l0=some r→K1 (aA 29 [(5,(.sl 0 0 l0.length 1 false))]) [some ⟨9,l0.map eS⟩]:=by
  intro l0 hr
  unfold fW at hr
  refine hK1 _ _ ?_
  obtain⟨x28,h_3,hr⟩:=aG hr
  refine zz ?_
  refine zcL (oW h_3) [] [0] ?_
  refine zz ?_
  obtain rfl:=sj hr
  exact cL Tryz.results8 []
 obtain⟨b9,hL2,hr⟩:=aG hr
 refine zz ?_
 refine aCr<|aCx (fun m s h=> ∃(x17:Int)(l0_1:List ByteArray),cO N x10 m x17 l0_1=some b9∧Ghost 0 s h (aA 29 [(5,(.sl 0 0 l0_1.length 1 false)),(15,(.sl 1 0 x10.1.length 4 true)),(16,(eI .i64 (x10.1.length:Int))),(17,(eI .i64 x17))]) [some ⟨9,l0_1.map eS⟩,some ⟨43,x10.1.flatMap aK⟩]) (n:=N) ⟨0,[],hL2,(zW 9 [1,0])⟩ (by rintro s h ⟨_,_,h0,_⟩;simp[cO]at h0) ?_
 rintro m2 s h ⟨x17,l0_1,hr2,hg⟩
 refine aCy hg ?_
 clear hg hL2
 rw[cO]at hr2
 refine zz ?_
 refine aCs ?_
 refine zk hr2 rfl (fun h4 hr2=> ?_) (fun h4 hr2=> ?_)
 ·refine zz ?_
  refine aCs<|aCr ?_
  obtain⟨x19,h_5,hr2⟩:=aG hr2
  refine zz ?_
  refine xw (v:=(.agg [(eI .i64 x19.Code),(.row none 1 (x19.Data.map (eI .u8))),(eI .i64 x19.M),(eI .i64 x19.N)])) (bK rfl (yO (C:=aK) (K:=4) (fun _=>rfl) rfl h_5 (rE (ds:=[(eI .i64 x19.Code),(.row none 1 (x19.Data.map (eI .u8))),(eI .i64 x19.M),(eI .i64 x19.N)]) iF rfl zl rfl))) ?_
  obtain⟨x23,h_6,hr2⟩:=aG hr2
  obtain⟨x25,h_7,hr2⟩:=aG hr2
  refine zz ?_
  refine xp (pC h_6)<|xw (v:=(.sl 3 0 1 1 false)) (h':=[some ⟨9,l0_1.map eS⟩,some ⟨43,x10.1.flatMap aK⟩,some ⟨43,[(eI .i64 x19.Code),(.row none 1 (x19.Data.map (eI .u8))),(eI .i64 x19.M),(eI .i64 x19.N)]⟩,some ⟨9,[x23].map eS⟩]) (iH rfl (q8 (xs:=[x23].map eS) aAJ l4 zl zl rfl rfl rfl rfl rfl rfl rfl)) ?_
  refine zz ?_
  exact⟨aCh.wrap (x17+1),x25,hr2,(zG [4,1])⟩
 refine zz ?_
 obtain rfl:=sj hr2
 refine zz ?_
 exact hG1 _ _ _ _ (zG [0]) (J1 l0_1 hr)
theorem kV {N:Nat}{vn r:Int}(hr:eT N vn=some r):
  Vm.Fn Tryz.prog 47 [] [(eI .u8 vn)] (eI .u8 r) []:=by
 refine zf Tryz.func47 Tryz.ntmps47 ?_
 unfold eT at hr
 refine zz ?_
 refine aCs ?_
 refine zz ?_
 refine zk hr rfl (fun h1 hr=> ?_) (fun h1 hr=> ?_)
 ·refine zz ?_
  obtain rfl:=sj hr
  exact cL Tryz.results47 []
 refine zz ?_
 obtain rfl:=sj hr
 exact cL Tryz.results47 []
theorem sE {N:Nat}{b:List Int}{r:ByteArray}(hr:iW N b=some r):
  Vm.Fn Tryz.prog 33 [] [(.row none 1 (b.map (eI .u8)))] (eS r) []:=by
 refine zf Tryz.func33 Tryz.ntmps33 ?_
 unfold iW at hr
 refine zz ?_
 refine aCt fun K1 hK1 hG1=> ?_
 have J1: ∀(l0:List Int),gP N l0=some r→K1 (aA 24 [(3,(.sl 0 0 l0.length 1 false))]) [some ⟨5,l0.map (eI .u8)⟩]:=by
  intro l0 hr
  unfold gP at hr
  refine hK1 _ _ ?_
  refine zz ?_
  refine xw (v:=(eS (fR l0))) (bW rfl (rC bG l4 aY (xD rfl rfl))) ?_
  refine zz ?_
  obtain rfl:=sj hr
  exact cL Tryz.results33 []
 obtain⟨b9,hL2,hr⟩:=aG hr
 refine zz ?_
 refine aCr<|aCx (fun m s h=> ∃(x8:Int)(l0_1:List Int),dJ N b m x8 l0_1=some b9∧Ghost 0 s h (aA 24 [(3,(.sl 0 0 l0_1.length 1 false)),(6,(.row none 1 (b.map (eI .u8)))),(7,(eI .i64 (b.length:Int))),(8,(eI .i64 x8))]) [some ⟨5,l0_1.map (eI .u8)⟩]) (n:=N) ⟨0,[],hL2,(zW 5 [0])⟩ (by rintro s h ⟨_,_,h0,_⟩;simp[dJ]at h0) ?_
 rintro m2 s h ⟨x8,l0_1,hr2,hg⟩
 refine aCy hg ?_
 clear hg hL2
 rw[dJ]at hr2
 refine zz ?_
 refine aCs ?_
 refine zk hr2 rfl (fun h1 hr2=> ?_) (fun h1 hr2=> ?_)
 ·refine zz ?_
  refine aCs<|aCr ?_
  obtain⟨x10,h_2,hr2⟩:=aG hr2
  obtain⟨x15,h_3,hr2⟩:=aG hr2
  obtain⟨x18,h_4,hr2⟩:=aG hr2
  obtain⟨x20,h_5,hr2⟩:=aG hr2
  refine zz ?_
  refine xp (kV h_3) ?_
  refine zz ?_
  refine xp (kV h_4) ?_
  refine zz ?_
  exact⟨aCh.wrap (x8+1),x20,hr2,(zG [2])⟩
 refine zz ?_
 obtain rfl:=sj hr2
 refine zz ?_
 exact hG1 _ _ _ _ (zG [0]) (J1 l0_1 hr)
theorem jA {N:Nat}{vn:Int}{r:(List Int)}(hr:fU N vn=some r):
  Vm.Fn Tryz.prog 49 [] [(eI .u64 vn)] (.agg (r.map (eI .u64))) []:=by
 refine zf Tryz.func49 Tryz.ntmps49 ?_
 unfold fU at hr
 refine zz ?_
 refine xw (v:=(.agg ([vn,0,0,0].map (eI .u64)))) (kR rfl (uP c8 uM rfl)) ?_
 refine zz ?_
 obtain rfl:=sj hr
 exact zr1 Tryz.results49 bZ (zG [])
theorem mJ {N:Nat}{va b:List Int}{r:Int}(hr:j5 N va b=some r):
  Vm.Fn Tryz.prog 70 [] [(.agg (va.map (eI .u64))),(.agg (b.map (eI .u64)))] (eI .i64 r) []:=by
 refine zf Tryz.func70 Tryz.ntmps70 ?_
 unfold j5 at hr
 refine zz ?_
 refine aCt fun K1 hK1 hG1=> ?_
 have J1:jQ N=some r→K1 (aA 24 []) []:=by
  intro hr
  unfold jQ at hr
  refine hK1 _ _ ?_
  refine zz ?_
  obtain rfl:=sj hr
  exact cL Tryz.results70 []
 obtain⟨b9,hL2,hr⟩:=aG hr
 refine zz ?_
 refine aCr<|aCx (fun m s h=> ∃(vi:Int),fF N va b m vi=some b9∧Ghost 0 s h (aA 24 [(2,(.ptr 0 0)),(3,(.ptr 1 0)),(5,(eI .i64 vi))]) [some ⟨85,va.map (eI .u64)⟩,some ⟨85,b.map (eI .u64)⟩]) (n:=N) ⟨3,hL2,(zG [0,1])⟩ (by rintro s h ⟨_,h0,_⟩;simp[fF]at h0) ?_
 rintro m2 s h ⟨vi,hr2,hg⟩
 refine aCy hg ?_
 clear hg hL2
 rw[fF]at hr2
 refine aCs ?_
 refine zz ?_
 refine zk hr2 rfl (fun h1 hr2=> ?_) (fun h1 hr2=> ?_)
 ·refine zz ?_
  refine aCs<|aCr<|aCs<|aCs ?_
  obtain⟨x11,h_2,hr2⟩:=aG hr2
  obtain⟨x14,h_3,hr2⟩:=aG hr2
  refine aCG mixed [] [] [[0,1,2,3,4,5,6]] ?_
  refine zz ?_
  refine zk hr2 rfl (fun h4 hr2=> ?_) (fun h4 hr2=> ?_)
  ·refine zz ?_
   obtain rfl:=sj hr2
   obtain rfl:=sj hr
   exact cL Tryz.results70 []
  refine zz ?_
  refine aCs<|aCG mixed [] [] [[0,1,2,3,4,5,6]] ?_
  refine zz ?_
  refine zk hr2 rfl (fun h5 hr2=> ?_) (fun h5 hr2=> ?_)
  ·refine zz ?_
   obtain rfl:=sj hr2
   obtain rfl:=sj hr
   exact cL Tryz.results70 []
  refine zz ?_
  exact⟨aCh.wrap (vi-1),hr2,(zG [0,1])⟩
 refine zz ?_
 obtain rfl:=sj hr2
 refine zz ?_
 exact hG1 _ _ _ _ (zG []) (J1 hr)
theorem mH {N:Nat}{va:List Int}{vi:Int}{r:Bool}(hr:kC N va vi=some r):
  Vm.Fn Tryz.prog 71 [] [(.agg (va.map (eI .u64))),(eI .i64 vi)] (eB r) []:=by
 refine zf Tryz.func71 Tryz.ntmps71 ?_
 unfold kC at hr
 obtain⟨x7,h_1,hr⟩:=aG hr
 obtain⟨x11,h_2,hr⟩:=aG hr
 refine zz ?_
 obtain rfl:=sj hr
 exact cL Tryz.results71 []
theorem mD {N:Nat}{x y c:Int}{r:Int×Int}(hr:j6 N x y c=some r):Vm.Fn Tryz.prog 85 [] [(eI .u64 x),(eI .u64 y),(eI .u64 c)] (.tup [(eI .u64 r.1),(eI .u64 r.2)]) []:=
 wO Tryz.func85 (by kernel_rfl) (by kernel_rfl) (by kernel_rfl) (by kernel_rfl) hr
theorem sB {N:Nat}{va b:List Int}{r:(List Int)×Bool}(hr:mF N va b=some r):
  Vm.Fn Tryz.prog 72 [] [(.agg (va.map (eI .u64))),(.agg (b.map (eI .u64)))] (.tup [(.agg (r.1.map (eI .u64))),(eB r.2)]) []:=by
 refine zf Tryz.func72 Tryz.ntmps72 ?_
 unfold mF at hr
 refine zz ?_
 refine aCt fun K1 hK1 hG1=> ?_
 have J1: ∀(oX:Int)(l1:List Int),j4 N oX l1=some r→K1 (aA 29 [(4,(.ptr 0 0)),(6,(.ptr 1 0)),(7,(eI .u64 oX))]) [some ⟨85,(aCk 4 0).map (eI .u64)⟩,some ⟨85,l1.map (eI .u64)⟩]:=by
  intro oX l1 hr
  unfold j4 at hr
  refine hK1 _ _ ?_
  obtain⟨q,h_1,hr⟩:=aG hr
  refine zz ?_
  obtain rfl:=sj hr
  exact tX Tryz.results72 bZ bZ (p3 [])
 obtain⟨b9,hL2,hr⟩:=aG hr
 refine zz ?_
 refine aCr<|aCx (fun m s h=> ∃(carry_1 x9:Int)(l3:List Int),fN N va b m carry_1 x9 l3=some b9∧Ghost 0 s h (aA 29 [(2,(.ptr 0 0)),(3,(.ptr 1 0)),(4,(.ptr 2 0)),(6,(.ptr 3 0)),(7,(eI .u64 carry_1)),(9,(eI .i64 x9))]) [some ⟨85,va.map (eI .u64)⟩,some ⟨85,b.map (eI .u64)⟩,some ⟨85,(aCk 4 0).map (eI .u64)⟩,some ⟨85,l3.map (eI .u64)⟩]) (n:=N) ⟨0,0,aCk 4 0,hL2,(zG [0,1,2,3])⟩ (by rintro s h ⟨_,_,_,h0,_⟩;simp[fN]at h0) ?_
 rintro m2 s h ⟨carry_1,x9,l3,hr2,hg⟩
 refine aCy hg ?_
 clear hg hL2
 rw[fN]at hr2
 refine zz ?_
 refine aCs ?_
 refine zk hr2 rfl (fun h2 hr2=> ?_) (fun h2 hr2=> ?_)
 ·refine zz ?_
  refine aCs<|aCr ?_
  obtain⟨x15,h_3,hr2⟩:=aG hr2
  obtain⟨x18,h_4,hr2⟩:=aG hr2
  obtain⟨x21,h_5,hr2⟩:=aG hr2
  obtain⟨x24,h_7,hr2⟩:=aG hr2
  refine zz ?_
  refine aCG mixed [85] [] [[0,1,2,3,4,5,6,7,8,9,10,11,12,13,14]] ?_
  refine zz ?_
  refine xu (mD h_5) ?_
  refine zz ?_
  exact⟨x21.2,aCh.wrap (x9+1),l3.set (aCC x9) x21.1,hr2,(zG [0,1,2,3])⟩
 refine zz ?_
 obtain rfl:=sj hr2
 refine zz ?_
 exact hG1 _ _ _ _ (zG [2,3]) (J1 carry_1 l3 hr)
theorem mU {N:Nat}{x y c:Int}{r:Int×Int}(hr:j8 N x y c=some r):Vm.Fn Tryz.prog 86 [] [(eI .u64 x),(eI .u64 y),(eI .u64 c)] (.tup [(eI .u64 r.1),(eI .u64 r.2)]) []:=
 xJ Tryz.func86 (by kernel_rfl) (by kernel_rfl) (by kernel_rfl) (by kernel_rfl) hr
theorem sA {N:Nat}{va b:List Int}{r:(List Int)×Bool}(hr:l6 N va b=some r):
  Vm.Fn Tryz.prog 73 [] [(.agg (va.map (eI .u64))),(.agg (b.map (eI .u64)))] (.tup [(.agg (r.1.map (eI .u64))),(eB r.2)]) []:=by
 refine zf Tryz.func73 Tryz.ntmps73 ?_
 unfold l6 at hr
 refine zz ?_
 refine aCt fun K1 hK1 hG1=> ?_
 have J1: ∀(borrow:Int)(l1:List Int),j1 N borrow l1=some r→K1 (aA 29 [(4,(.ptr 0 0)),(6,(.ptr 1 0)),(7,(eI .u64 borrow))]) [some ⟨85,(aCk 4 0).map (eI .u64)⟩,some ⟨85,l1.map (eI .u64)⟩]:=by
  intro borrow l1 hr
  unfold j1 at hr
  refine hK1 _ _ ?_
  obtain⟨q,h_1,hr⟩:=aG hr
  refine zz ?_
  obtain rfl:=sj hr
  exact tX Tryz.results73 bZ bZ (p3 [])
 obtain⟨b9,hL2,hr⟩:=aG hr
 refine zz ?_
 refine aCr<|aCx (fun m s h=> ∃(borrow_1 x9:Int)(l3:List Int),fL N va b m borrow_1 x9 l3=some b9∧Ghost 0 s h (aA 29 [(2,(.ptr 0 0)),(3,(.ptr 1 0)),(4,(.ptr 2 0)),(6,(.ptr 3 0)),(7,(eI .u64 borrow_1)),(9,(eI .i64 x9))]) [some ⟨85,va.map (eI .u64)⟩,some ⟨85,b.map (eI .u64)⟩,some ⟨85,(aCk 4 0).map (eI .u64)⟩,some ⟨85,l3.map (eI .u64)⟩]) (n:=N) ⟨0,0,aCk 4 0,hL2,(zG [0,1,2,3])⟩ (by rintro s h ⟨_,_,_,h0,_⟩;simp[fL]at h0) ?_
 rintro m2 s h ⟨borrow_1,x9,l3,hr2,hg⟩
 refine aCy hg ?_
 clear hg hL2
 rw[fL]at hr2
 refine zz ?_
 refine aCs ?_
 refine zk hr2 rfl (fun h2 hr2=> ?_) (fun h2 hr2=> ?_)
 ·refine zz ?_
  refine aCs<|aCr ?_
  obtain⟨x15,h_3,hr2⟩:=aG hr2
  obtain⟨x18,h_4,hr2⟩:=aG hr2
  obtain⟨x21,h_5,hr2⟩:=aG hr2
  obtain⟨x24,h_7,hr2⟩:=aG hr2
  refine zz ?_
  refine aCG mixed [86] [] [[0,1,2,3,4,5,6,7,8,9,10,11,12,13,14]] ?_
  refine zz ?_
  refine xu (mU h_5) ?_
  refine zz ?_
  exact⟨x21.2,aCh.wrap (x9+1),l3.set (aCC x9) x21.1,hr2,(zG [0,1,2,3])⟩
 refine zz ?_
 obtain rfl:=sj hr2
 refine zz ?_
 exact hG1 _ _ _ _ (zG [2,3]) (J1 borrow_1 l3 hr)
theorem r8 {N:Nat}{hi lo b:List Int}{r:(List Int)×(List Int)×Bool}(hr:mO N hi lo b=some r):
  Vm.Fn Tryz.prog 60 [] [(.agg (hi.map (eI .u64))),(.agg (lo.map (eI .u64))),(.agg (b.map (eI .u64)))] (.tup [(.agg (r.1.map (eI .u64))),(.agg (r.2.1.map (eI .u64))),(eB r.2.2)]) []:=by
 refine zf Tryz.func60 Tryz.ntmps60 ?_
 unfold mO at hr
 refine zz ?_
 refine aCs ?_
 obtain⟨q,h_1,hr⟩:=aG hr
 obtain⟨q_1,h_2,hr⟩:=aG hr
 obtain⟨x13,h_3,hr⟩:=aG hr
 refine zz ?_
 refine xp (mJ h_3) ?_
 refine zz ?_
 refine zk hr rfl (fun h4 hr=> ?_) (fun h4 hr=> ?_)
 ·refine aCs<|AB.rd (b3 []) (b3 []) mixed<|aCi (n:=4) (i:=0) (by decide +kernel) rfl (gS (v:=(.agg ((aCk 4 0).map (eI .u64)))) (sv (bK rfl (o0 (E:=(eI .u64)) (l:=aCk 4 0) c8 rfl rfl rfl)))) ?_
  refine aCD (m:=2) (L:=r6 [0,1,2] 5) (s1:=aA 61 [(6,(.ptr 0 0)),(7,(.ptr 1 0)),(8,(eB false)),(16,(.agg ((aCk 4 0).map (eI .u64))))]) (h1:=[some ⟨85,(aCk 4 0).map (eI .u64)⟩,some ⟨85,(aCk 4 0).map (eI .u64)⟩]) ?_ (fun J=> ?_)
  ·refine aCi (n:=1) (i:=3) (by decide +kernel) rfl (gN (h':=[some ⟨85,(aCk 4 0).map (eI .u64)⟩,some ⟨85,(aCk 4 0).map (eI .u64)⟩]) (sv (aF rfl rfl (mT (E:=(eI .u64)) (l:=aCk 4 0) c8 rfl rfl (fun _=>rfl) rfl rfl rfl))))<|aCi (n:=0) (i:=4) (by decide +kernel) rfl (gS (v:=(eB false)) (sv (fJ rfl)))<|aCA (by decide +kernel) ?_
   refine zz ?_
   obtain rfl:=sj hr
   exact l5 Tryz.results60 bZ bZ bZ (p3 [])
  refine aCq (n:=3) [1,2] (by decide +kernel) (by decide) ?_
  refine(aCn rfl (gS (v:=(.agg ((aCk 4 0).map (eI .u64)))) (sv (bK rfl (o0 (E:=(eI .u64)) (l:=aCk 4 0) c8 rfl rfl rfl)))) ?_ (aCn rfl (gN (h':=[some ⟨85,hi.map (eI .u64)⟩,some ⟨85,lo.map (eI .u64)⟩,some ⟨85,b.map (eI .u64)⟩,some ⟨85,(aCk 4 0).map (eI .u64)⟩,some ⟨85,(aCk 4 0).map (eI .u64)⟩]) (sv (aF rfl rfl (mT (E:=(eI .u64)) (l:=aCk 4 0) c8 rfl rfl (fun _=>rfl) rfl rfl rfl)))) ?_ aCv))
  ·refine aCi (n:=2) (i:=2) (by decide +kernel) rfl (gN (h':=[some ⟨85,hi.map (eI .u64)⟩,some ⟨85,lo.map (eI .u64)⟩,some ⟨85,b.map (eI .u64)⟩,some ⟨85,(aCk 4 0).map (eI .u64)⟩,some ⟨85,(aCk 4 0).map (eI .u64)⟩]) (sv (aF rfl rfl (mT (E:=(eI .u64)) (l:=aCk 4 0) c8 rfl rfl (fun _=>rfl) rfl rfl rfl)))) ?_
   exact aCp (by decide +kernel) (by decide +kernel) (zG [3,4]) J
  refine aCi (n:=2) (i:=1) (by decide +kernel) rfl (gS (v:=(.agg ((aCk 4 0).map (eI .u64)))) (sv (bK rfl (o0 (E:=(eI .u64)) (l:=aCk 4 0) c8 rfl rfl rfl)))) ?_
  exact aCp (by decide +kernel) (by decide +kernel) (zG [3,4]) J
 refine zz ?_
 refine aCt fun K1 hK1 hG1=> ?_
 have J1: ∀(l0 l1:List Int),jX N l0 l1=some r→K1 (aA 61 [(6,(.ptr 0 0)),(7,(.ptr 1 0))]) [some ⟨85,l0.map (eI .u64)⟩,some ⟨85,l1.map (eI .u64)⟩]:=by
  intro l0 l1 hr
  unfold jX at hr
  refine hK1 _ _<|aCs ?_
  obtain⟨q_2,h_5,hr⟩:=aG hr
  obtain⟨q_3,h_6,hr⟩:=aG hr
  refine AB.rd (b3 []) (b3 []) mixed<|aCi (n:=4) (i:=0) (by decide +kernel) rfl (gS (v:=(.agg (l0.map (eI .u64)))) (sv (bK rfl (o0 (E:=(eI .u64)) (l:=l0) c8 rfl rfl (aI h_5))))) ?_
  refine aCD (m:=2) (L:=r6 [0,1,2] 5) (s1:=aA 61 [(6,(.ptr 0 0)),(7,(.ptr 1 0)),(60,(.agg (l1.map (eI .u64))))]) (h1:=[some ⟨85,l0.map (eI .u64)⟩,some ⟨85,l1.map (eI .u64)⟩]) ?_ (fun J=> ?_)
  ·refine aCi (n:=1) (i:=3) (by decide +kernel) rfl (gN (h':=[some ⟨85,l0.map (eI .u64)⟩,some ⟨85,l1.map (eI .u64)⟩]) (sv (aF rfl rfl (mT (E:=(eI .u64)) (l:=l1) c8 rfl rfl (fun _=>rfl) (aI h_6) (aI h_6) rfl))))<|aCi (n:=0) (i:=4) (by decide +kernel) rfl (gS (v:=(eB true)) (sv (fJ rfl)))<|aCA (by decide +kernel) ?_
   refine zz ?_
   obtain rfl:=sj hr
   exact l5 Tryz.results60 bZ bZ bZ (p3 [])
  refine aCq (n:=3) [1,2] (by decide +kernel) (by decide) ?_
  refine(aCn rfl (gS (v:=(.agg (l1.map (eI .u64)))) (sv (bK rfl (o0 (E:=(eI .u64)) (l:=l1) c8 rfl rfl (aI h_6))))) ?_ (aCn rfl (gN (h':=[some ⟨85,l0.map (eI .u64)⟩,some ⟨85,l1.map (eI .u64)⟩]) (sv (aF rfl rfl (mT (E:=(eI .u64)) (l:=l0) c8 rfl rfl (fun _=>rfl) (aI h_5) (aI h_5) rfl)))) ?_ aCv))
  ·refine aCi (n:=2) (i:=2) (by decide +kernel) rfl (gN (h':=[some ⟨85,l0.map (eI .u64)⟩,some ⟨85,l1.map (eI .u64)⟩]) (sv (aF rfl rfl (mT (E:=(eI .u64)) (l:=l0) c8 rfl rfl (fun _=>rfl) (aI h_5) (aI h_5) rfl)))) ?_
   exact aCp (by decide +kernel) (by decide +kernel) (zG [0,1]) J
  refine aCi (n:=2) (i:=1) (by decide +kernel) rfl (gS (v:=(.agg (l1.map (eI .u64)))) (sv (bK rfl (o0 (E:=(eI .u64)) (l:=l1) c8 rfl rfl (aI h_6))))) ?_
  exact aCp (by decide +kernel) (by decide +kernel) (zG [0,1]) J
 obtain⟨b9,hL2,hr⟩:=aG hr
 refine zz ?_
 refine aCr<|aCx (fun m s h=> ∃(vi:Int)(l2 l3:List Int),cE N lo b m vi l2 l3=some b9∧Ghost 0 s h (aA 61 [(4,(.ptr 0 0)),(5,(.ptr 1 0)),(6,(.ptr 2 0)),(7,(.ptr 3 0)),(9,(eI .i64 vi))]) [some ⟨85,lo.map (eI .u64)⟩,some ⟨85,b.map (eI .u64)⟩,some ⟨85,l2.map (eI .u64)⟩,some ⟨85,l3.map (eI .u64)⟩]) (n:=N) ⟨255,aCk 4 0,hi,hL2,(zG [1,2,3,4])⟩ (by rintro s h ⟨_,_,_,h0,_⟩;simp[cE]at h0) ?_
 rintro m2 s h ⟨vi,l2,l3,hr2,hg⟩
 refine aCy hg ?_
 clear hg hL2
 rw[cE]at hr2
 refine aCs ?_
 refine zz ?_
 refine zk hr2 rfl (fun h7 hr2=> ?_) (fun h7 hr2=> ?_)
 ·refine zz ?_
  refine aCt fun K3 hK3 hG3=> ?_
  have J3: ∀(pF pD:List Int),g6 N lo b vi (cE N lo b m2) pF pD=some b9→K3 (aA 61 [(4,(.ptr 0 0)),(5,(.ptr 1 0)),(6,(.ptr 2 0)),(7,(.ptr 3 0)),(9,(eI .i64 vi))]) [some ⟨85,lo.map (eI .u64)⟩,some ⟨85,b.map (eI .u64)⟩,some ⟨85,pF.map (eI .u64)⟩,some ⟨85,pD.map (eI .u64)⟩]:=by
   intro pF pD hr2
   unfold g6 at hr2
   refine hK3 _ _ ?_
   refine zz ?_
   exact⟨aCh.wrap (vi-1),pF,pD,hr2,(zG [0,1,2,3])⟩
  refine aCr ?_
  obtain⟨q_4,h_8,hr2⟩:=aG hr2
  obtain⟨x23,h_9,hr2⟩:=aG hr2
  refine zz ?_
  refine xp (mH h_9) ?_
  obtain⟨x27,h_10,hr2⟩:=aG hr2
  obtain⟨q_5,h_11,hr2⟩:=aG hr2
  refine zz ?_
  refine xp (sB h_10) ?_
  refine zz ?_
  refine aCt fun K4 hK4 hG4=> ?_
  have J4: ∀(fZ:List Int),gT N lo b vi l2 x23 (cE N lo b m2) fZ=some b9→K4 (aA 61 [(4,(.ptr 0 0)),(5,(.ptr 1 0)),(6,(.ptr 2 0)),(7,(.ptr 3 0)),(9,(eI .i64 vi)),(10,(eB x23))]) [some ⟨85,lo.map (eI .u64)⟩,some ⟨85,b.map (eI .u64)⟩,some ⟨85,l2.map (eI .u64)⟩,some ⟨85,fZ.map (eI .u64)⟩]:=by
   intro fZ hr2
   unfold gT at hr2
   refine hK4 _ _ ?_
   refine aCt fun K5 hK5 hG5=> ?_
   have J5: ∀(x43:Bool),gR N lo b vi l2 fZ (cE N lo b m2) x43=some b9→K5 (aA 61 [(4,(.ptr 0 0)),(5,(.ptr 1 0)),(6,(.ptr 2 0)),(7,(.ptr 3 0)),(9,(eI .i64 vi)),(43,(eB x43))]) [some ⟨85,lo.map (eI .u64)⟩,some ⟨85,b.map (eI .u64)⟩,some ⟨85,l2.map (eI .u64)⟩,some ⟨85,fZ.map (eI .u64)⟩]:=by
    intro x43 hr2
    unfold gR at hr2
    refine hK5 _ _ ?_
    refine zk hr2 rfl (fun h12 hr2=> ?_) (fun h12 hr2=> ?_)
    ·obtain⟨q_6,h_13,hr2⟩:=aG hr2
     obtain⟨x47,h_14,hr2⟩:=aG hr2
     obtain⟨q_7,h_15,hr2⟩:=aG hr2
     refine zz ?_
     refine xp (sA h_14) ?_
     obtain⟨x52,h_16,hr2⟩:=aG hr2
     obtain⟨x56,h_17,hr2⟩:=aG hr2
     refine zz ?_
     refine aCG mixed [] [] [[0,1,2,3,4,5,6,7,8,9]] ?_
     refine zz ?_
     exact hG3 _ _ _ _ (zG [0,1,2,3]) (J3 (l2.set (aCC (aCh.wrap (Int.tdiv vi 64))) (bits .or .u64 x52 x56)) x47.1 hr2)
    refine zz ?_
    exact hG3 _ _ _ _ (zG [0,1,2,3]) (J3 l2 fZ hr2)
   rcases aCj x23 with h18|h18
   ·replace hr2:=dM hr2 h18
    refine xr ?_
    refine zz ?_
    exact hG5 _ _ _ _ (zG [0,1,2,3]) (J5 true hr2)
   replace hr2:=dN hr2 h18
   obtain⟨q_8,h_19,hr2⟩:=aG hr2
   obtain⟨x41,h_20,hr2⟩:=aG hr2
   refine xr ?_
   refine zz ?_
   refine vO (v:=(eI .i64 x41)) (h':=[some ⟨85,lo.map (eI .u64)⟩,some ⟨85,b.map (eI .u64)⟩,some ⟨85,l2.map (eI .u64)⟩,some ⟨85,fZ.map (eI .u64)⟩]) rfl rfl h18 rfl (Vm.Fn.pure (mJ h_20) zR rfl) ?_
   refine zz ?_
   exact hG5 _ _ _ _ (zG [0,1,2,3]) (J5 (decide (0≤x41)) hr2)
  obtain⟨q_9,h_21,hr2⟩:=aG hr2
  obtain⟨x32,h_22,hr2⟩:=aG hr2
  refine zz ?_
  refine xp (mH h_22) ?_
  refine zz ?_
  refine zk hr2 rfl (fun h23 hr2=> ?_) (fun h23 hr2=> ?_)
  ·obtain⟨x33,h_24,hr2⟩:=aG hr2
   refine zz ?_
   exact hG4 _ _ _ _ (zG [0,1,2,3]) (J4 (x27.1.set (aCC 0) (bits .or .u64 x33 1)) hr2)
  refine zz ?_
  exact hG4 _ _ _ _ (zG [0,1,2,3]) (J4 x27.1 hr2)
 refine zz ?_
 obtain rfl:=sj hr2
 refine zz ?_
 exact hG1 _ _ _ _ (zG [2,3]) (J1 l2 l3 hr)
theorem qS {N:Nat}{va:List Int}{r:Bool}(hr:lU N va=some r):
  Vm.Fn Tryz.prog 61 [] [(.agg (va.map (eI .u64)))] (eB r) []:=by
 refine zf Tryz.func61 Tryz.ntmps61 ?_
 unfold lU at hr
 obtain⟨q,h_1,hr⟩:=aG hr
 refine zz ?_
 refine xw (v:=(.agg ([0,0,0,0].map (eI .u64)))) (kR rfl (uP c8 uM rfl)) ?_
 refine zz ?_
 obtain rfl:=sj hr
 exact cL Tryz.results61 []
theorem qK {N:Nat}{va:List Int}{r:ByteArray}(hr:lN N va=some r):
  Vm.Fn Tryz.prog 48 [] [(.agg (va.map (eI .u64)))] (eS r) []:=by
 refine zf Tryz.func48 Tryz.ntmps48 ?_
 unfold lN at hr
 obtain⟨uN,hL1,hr⟩:=aG hr
 refine zz ?_
 refine aCr<|aCx (fun m s h=> ∃(vs:ByteArray)(l0:List Int),eQ N m vs l0=some uN∧Ghost 0 s h (aA 27 [(1,(.ptr 0 0)),(3,(eS vs))]) [some ⟨85,l0.map (eI .u64)⟩]) (n:=N) ⟨.empty,va,hL1,(zG [0])⟩ (by rintro s h ⟨_,_,h0,_⟩;simp[eQ]at h0) ?_
 rintro m1 s h ⟨vs,l0,hr1,hg⟩
 refine aCy hg ?_
 clear hg hL1
 rw[eQ]at hr1
 refine aCr<|aCs ?_
 obtain⟨q,h_1,hr1⟩:=aG hr1
 obtain⟨x10,h_2,hr1⟩:=aG hr1
 obtain⟨x11,h_4,hr1⟩:=aG hr1
 obtain⟨q_1,h_6,hr1⟩:=aG hr1
 obtain⟨q_2,h_7,hr1⟩:=aG hr1
 refine AB.rd (b3 [49,60]) (b3 []) mixed<|aCi (n:=12) (i:=0) (by decide +kernel) rfl (gS (v:=(.agg ([0,0,0,0].map (eI .u64)))) (sv (kR rfl (uP c8 uM rfl))))<|aCi (n:=11) (i:=1) (by decide +kernel) rfl (gS (v:=(.agg (l0.map (eI .u64)))) (sv (bK rfl (o0 (E:=(eI .u64)) (l:=l0) c8 rfl rfl (aI h_1)))))<|aCi (n:=10) (i:=2) (by decide +kernel) rfl (gU (fun _=>(Vm.Fn.pure (jA h_2) rfl zR)) rfl (sv (gE rfl jT)))<|aCi (n:=9) (i:=3) (by decide +kernel) rfl (gU (fun _=>(Vm.Fn.pure (r8 h_4) zR zR)) rfl (sv (gE rfl jT))) ?_
 refine aCi (n:=8) (i:=4) (by decide +kernel) rfl (gS (v:=(.tup [(.agg (x11.1.map (eI .u64))),(.agg (x11.2.1.map (eI .u64))),(eB x11.2.2)])) (sv (dC rfl)))<|aCi (n:=7) (i:=5) (by decide +kernel) rfl (gS (v:=(.agg (x11.1.map (eI .u64)))) (sv (q9 rfl rfl)))<|aCi (n:=6) (i:=6) (by decide +kernel) rfl (gS (v:=(.agg (x11.2.1.map (eI .u64)))) (sv (q9 rfl rfl)))<|aCi (n:=5) (i:=7) (by decide +kernel) rfl (gS (v:=(eB x11.2.2)) (sv (q9 rfl rfl))) ?_
 refine aCD (m:=1) (L:=r6 [0,1,2,3,4,5,6,7,8,9,10,11] 13) (s1:=aA 27 [(1,(.ptr 0 0)),(3,(eS vs)),(4,(.ptr 1 0)),(5,(.ptr 2 0)),(14,(eB x11.2.2))]) (h1:=[some ⟨85,l0.map (eI .u64)⟩,some ⟨85,x11.1.map (eI .u64)⟩,some ⟨85,x11.2.1.map (eI .u64)⟩]) ?_ (fun J=> ?_)
 ·refine aCi (n:=0) (i:=12) (by decide +kernel) rfl (gS (v:=(eB x11.2.2)) (sv (fJ rfl)))<|aCA (by decide +kernel) ?_
  obtain⟨x15,h_8,hr1⟩:=aG hr1
  obtain⟨x22,h_9,hr1⟩:=aG hr1
  refine zz ?_
  refine xw (v:=(eS (fR [IntKind.u8.wrap (IntKind.u64.wrap (48+x15))]))) (bW rfl (rC bG l4 aY (xD rfl rfl))) ?_
  refine zz ?_
  refine xw (v:=(eS x22)) (cG rfl rfl (c6 _ _ _ h_9)) ?_
  obtain⟨x25,h_10,hr1⟩:=aG hr1
  refine zz ?_
  refine xp (qS h_10) ?_
  refine zz ?_
  refine zk hr1 rfl (fun h11 hr1=> ?_) (fun h11 hr1=> ?_)
  ·refine zz ?_
   obtain rfl:=sj hr1
   obtain rfl:=sj hr
   exact cL Tryz.results48 []
  refine zz ?_
  exact⟨x22,x11.1,hr1,(zG [0])⟩
 refine aCq (n:=4) [8,9] (by decide +kernel) (by decide) ?_
 refine(aCn rfl (gS (v:=(.ptr 1 0)) (h':=[some ⟨85,l0.map (eI .u64)⟩,some ⟨85,(aCk 4 0).map (eI .u64)⟩]) (sv (jJ c8 rfl rfl rfl))) ?_ (aCn rfl (gS (v:=(.ptr 1 0)) (h':=[some ⟨85,l0.map (eI .u64)⟩,some ⟨85,(aCk 4 0).map (eI .u64)⟩]) (sv (jJ c8 rfl rfl rfl))) ?_ aCv))
 ·refine aCi (n:=3) (i:=9) (by decide +kernel) rfl (gS (v:=(.ptr 2 0)) (h':=[some ⟨85,l0.map (eI .u64)⟩,some ⟨85,(aCk 4 0).map (eI .u64)⟩,some ⟨85,(aCk 4 0).map (eI .u64)⟩]) (sv (jJ c8 rfl rfl rfl)))<|aCi (n:=2) (i:=10) (by decide +kernel) rfl (gN (h':=[some ⟨85,l0.map (eI .u64)⟩,some ⟨85,x11.1.map (eI .u64)⟩,some ⟨85,(aCk 4 0).map (eI .u64)⟩]) (sv (aF rfl rfl (mT (E:=(eI .u64)) (l:=aCk 4 0) c8 rfl rfl (fun _=>rfl) rfl (aI h_6) rfl))))<|aCi (n:=1) (i:=11) (by decide +kernel) rfl (gN (h':=[some ⟨85,l0.map (eI .u64)⟩,some ⟨85,x11.1.map (eI .u64)⟩,some ⟨85,x11.2.1.map (eI .u64)⟩]) (sv (aF rfl rfl (mT (E:=(eI .u64)) (l:=aCk 4 0) c8 rfl rfl (fun _=>rfl) rfl (aI h_7) rfl)))) ?_
  exact aCp (by decide +kernel) (by decide +kernel) (zG [0,1,2]) J
 refine aCi (n:=3) (i:=8) (by decide +kernel) rfl (gS (v:=(.ptr 2 0)) (h':=[some ⟨85,l0.map (eI .u64)⟩,some ⟨85,(aCk 4 0).map (eI .u64)⟩,some ⟨85,(aCk 4 0).map (eI .u64)⟩]) (sv (jJ c8 rfl rfl rfl)))<|aCi (n:=2) (i:=10) (by decide +kernel) rfl (gN (h':=[some ⟨85,l0.map (eI .u64)⟩,some ⟨85,(aCk 4 0).map (eI .u64)⟩,some ⟨85,x11.1.map (eI .u64)⟩]) (sv (aF rfl rfl (mT (E:=(eI .u64)) (l:=aCk 4 0) c8 rfl rfl (fun _=>rfl) rfl (aI h_6) rfl))))<|aCi (n:=1) (i:=11) (by decide +kernel) rfl (gN (h':=[some ⟨85,l0.map (eI .u64)⟩,some ⟨85,x11.2.1.map (eI .u64)⟩,some ⟨85,x11.1.map (eI .u64)⟩]) (sv (aF rfl rfl (mT (E:=(eI .u64)) (l:=aCk 4 0) c8 rfl rfl (fun _=>rfl) rfl (aI h_7) rfl)))) ?_
 exact aCp (by decide +kernel) (by decide +kernel) (zG [0,2,1]) J
theorem j3 {N:Nat}{vn:Int}{r:ByteArray}(hr:eR N vn=some r):
  Vm.Fn Tryz.prog 34 [] [(eI .i64 vn)] (eS r) []:=by
 refine zf Tryz.func34 Tryz.ntmps34 ?_
 unfold eR at hr
 obtain⟨x5,h_1,hr⟩:=aG hr
 obtain⟨x6,h_2,hr⟩:=aG hr
 refine zz ?_
 refine xp (jA h_1)<|xp (qK h_2) ?_
 refine zz ?_
 obtain rfl:=sj hr
 exact cL Tryz.results34 []
theorem qV {N:Nat}{aP:Int}{bH:List Int}{o_M o_N:Int}{r:ByteArray}(hr:dU N aP bH o_M o_N=some r):
  Vm.Fn Tryz.prog 18 [] [(.agg [(eI .i64 aP),(.row none 1 (bH.map (eI .u8))),(eI .i64 o_M),(eI .i64 o_N)])] (eS r) []:=by
 refine zf Tryz.func18 Tryz.ntmps18 ?_
 unfold dU at hr
 refine zz ?_
 refine aCs ?_
 refine zz ?_
 refine aCr ?_
 refine zz ?_
 refine zk hr rfl (fun h1 hr=> ?_) (fun h1 hr=> ?_)
 ·obtain⟨x9,h_2,hr⟩:=aG hr
  obtain⟨x10,h_3,hr⟩:=aG hr
  obtain⟨x11,h_4,hr⟩:=aG hr
  refine zz ?_
  refine xp (sE h_2)<|xw (v:=(eS x10)) (cG rfl rfl (c6 _ _ _ h_3))<|xw (v:=(eS x11)) (cG rfl rfl (c6 _ _ _ h_4)) ?_
  refine zz ?_
  obtain rfl:=sj hr
  exact cL Tryz.results18 []
 refine zz ?_
 refine zk hr rfl (fun h5 hr=> ?_) (fun h5 hr=> ?_)
 ·refine aCs ?_
  obtain⟨x16,h_6,hr⟩:=aG hr
  obtain⟨x17,h_8,hr⟩:=aG hr
  obtain⟨x18,h_9,hr⟩:=aG hr
  obtain⟨x21,h_10,hr⟩:=aG hr
  obtain⟨x22,h_12,hr⟩:=aG hr
  refine aCG mixed [34] [] [[0,1,2,3,4,5,6,7,8,9]] ?_
  refine zz ?_
  refine xu (j3 h_6)<|xw (v:=(eS x17)) (cG rfl rfl (c6 _ _ _ h_8))<|xw (v:=(eS x18)) (cG rfl rfl (c6 _ _ _ h_9)) ?_
  refine zz ?_
  refine xu (j3 h_10)<|xw (v:=(eS x22)) (cG rfl rfl (c6 _ _ _ h_12)) ?_
  refine zz ?_
  obtain rfl:=sj hr
  exact cL Tryz.results18 []
 obtain⟨x26,h_13,hr⟩:=aG hr
 refine zz ?_
 refine xw (v:=(.agg ([.empty,.empty,⟨#[100,117,112]⟩,⟨#[100,114,111,112]⟩,⟨#[115,119,97,112]⟩,⟨#[101,113,117,97,108]⟩,⟨#[110,111,116]⟩,⟨#[118,101,114,105,102,121]⟩,⟨#[104,97,115,104]⟩,⟨#[115,105,122,101]⟩,⟨#[115,105,103]⟩,.empty,⟨#[97,102,116,101,114]⟩,⟨#[111,108,100,101,114]⟩,⟨#[105,102]⟩,⟨#[101,108,115,101]⟩,⟨#[101,110,100]⟩,⟨#[102,97,105,108]⟩].map eS))) (kR rfl (uP sT l4 rfl)) ?_
 refine zz ?_
 refine xw (v:=(eS x26)) (aCb rfl rfl (ixA (E:=eS) sT l4 rfl rfl h_13)) ?_
 refine zz ?_
 obtain rfl:=sj hr
 exact cL Tryz.results18 []
theorem qJ {N:Nat}{b:List Int}{r:ByteArray}(hr:g8 N b=some r):
  Vm.Fn Tryz.prog 9 [] [(.row none 1 (b.map (eI .u8)))] (eS r) []:=by
 refine zf Tryz.func9 Tryz.ntmps9 ?_
 unfold g8 at hr
 obtain⟨x10,h_1,hr⟩:=aG hr
 refine zz ?_
 refine zc (kU h_1) [] ?_
 refine zz ?_
 refine aCs ?_
 refine zz ?_
 refine zk hr rfl (fun h2 hr=> ?_) (fun h2 hr=> ?_)
 ·refine zz ?_
  obtain rfl:=sj hr
  exact cL Tryz.results9 []
 refine zz ?_
 refine aCt fun K1 hK1 hG1=> ?_
 have J1: ∀(vs:ByteArray),gH N vs=some r→K1 (aA 32 [(5,(eS vs))]) []:=by
  intro vs hr
  unfold gH at hr
  refine hK1 _ _ ?_
  refine zz ?_
  obtain rfl:=sj hr
  exact cL Tryz.results9 []
 obtain⟨b9,hL2,hr⟩:=aG hr
 refine zz ?_
 refine aCr<|aCx (fun m s h=> ∃(vs_1:ByteArray)(x17:Int),bI N x10 m vs_1 x17=some b9∧Ghost 0 s h (aA 32 [(5,(eS vs_1)),(15,(.sl 0 0 x10.1.length 4 true)),(16,(eI .i64 (x10.1.length:Int))),(17,(eI .i64 x17))]) [some ⟨43,x10.1.flatMap aK⟩]) (n:=N) ⟨.empty,0,hL2,(zG [0])⟩ (by rintro s h ⟨_,_,h0,_⟩;simp[bI]at h0) ?_
 rintro m2 s h ⟨vs_1,x17,hr2,hg⟩
 refine aCy hg ?_
 clear hg hL2
 rw[bI]at hr2
 refine zz ?_
 refine aCs ?_
 refine zk hr2 rfl (fun h3 hr2=> ?_) (fun h3 hr2=> ?_)
 ·refine zz ?_
  refine aCs<|aCr ?_
  obtain⟨x20,h_4,hr2⟩:=aG hr2
  refine zz ?_
  refine xw (v:=(.agg [(eI .i64 x20.Code),(.row none 1 (x20.Data.map (eI .u8))),(eI .i64 x20.M),(eI .i64 x20.N)])) (bK rfl (yO (C:=aK) (K:=4) (fun _=>rfl) rfl h_4 (rE (ds:=[(eI .i64 x20.Code),(.row none 1 (x20.Data.map (eI .u8))),(eI .i64 x20.M),(eI .i64 x20.N)]) iF rfl zl rfl))) ?_
  refine zz ?_
  refine aCt fun K3 hK3 hG3=> ?_
  have J3: ∀(sV:ByteArray),dO N x10 x17 x20 (bI N x10 m2) sV=some b9→K3 (aA 32 [(5,(eS sV)),(7,(.ptr 0 0)),(15,(.sl 1 0 x10.1.length 4 true)),(16,(eI .i64 (x10.1.length:Int))),(17,(eI .i64 x17))]) [some ⟨43,[(eI .i64 x20.Code),(.row none 1 (x20.Data.map (eI .u8))),(eI .i64 x20.M),(eI .i64 x20.N)]⟩,some ⟨43,x10.1.flatMap aK⟩]:=by
   intro sV hr2
   unfold dO at hr2
   refine hK3 _ _ ?_
   obtain⟨x28,h_5,hr2⟩:=aG hr2
   obtain⟨x29,h_6,hr2⟩:=aG hr2
   refine zz ?_
   refine xp (qV h_5)<|xw (v:=(eS x29)) (cG rfl rfl (c6 _ _ _ h_6)) ?_
   refine zz ?_
   exact⟨x29,aCh.wrap (x17+1),hr2,(zG [1])⟩
  refine zz ?_
  refine zk hr2 rfl (fun h7 hr2=> ?_) (fun h7 hr2=> ?_)
  ·obtain⟨x25,h_8,hr2⟩:=aG hr2
   refine zz ?_
   refine xw (v:=(eS x25)) (cG rfl rfl (c6 _ _ _ h_8)) ?_
   refine zz ?_
   exact hG3 _ _ _ _ (zG [1,0]) (J3 x25 hr2)
  refine zz ?_
  exact hG3 _ _ _ _ (zG [1,0]) (J3 vs_1 hr2)
 refine zz ?_
 obtain rfl:=sj hr2
 refine zz ?_
 exact hG1 _ _ _ _ (zG []) (J1 vs_1 hr)
theorem kO {N:Nat}{b:List Int}{r:Bool}(hr:cX N b=some r):
  Vm.Fn Tryz.prog 3 [] [(.row none 1 (b.map (eI .u8)))] (eB r) []:=by
 refine zf Tryz.func3 Tryz.ntmps3 ?_
 unfold cX at hr
 refine zz ?_
 refine aCs ?_
 obtain⟨x7,h_1,hr⟩:=aG hr
 refine zz ?_
 refine xp (qW h_1) ?_
 refine zz ?_
 refine zk hr rfl (fun h2 hr=> ?_) (fun h2 hr=> ?_)
 ·refine zz ?_
  obtain rfl:=sj hr
  exact cL Tryz.results3 []
 refine zz ?_
 refine aCs ?_
 refine zz ?_
 refine zk hr rfl (fun h3 hr=> ?_) (fun h3 hr=> ?_)
 ·refine zz ?_
  obtain rfl:=sj hr
  exact cL Tryz.results3 []
 obtain⟨x14,h_4,hr⟩:=aG hr
 refine zz ?_
 refine zc (j9 h_4) [] ?_
 obtain⟨x19,h_5,hr⟩:=aG hr
 refine zz ?_
 refine zc (kU h_5) [] ?_
 refine zz ?_
 refine aCt fun K1 hK1 hG1=> ?_
 have J1: ∀(x2:Bool),bT N x2=some r→K1 (aA 37 [(2,(eB x2))]) []:=by
  intro x2 hr
  unfold bT at hr
  refine hK1 _ _ ?_
  refine zz ?_
  obtain rfl:=sj hr
  exact cL Tryz.results3 []
 rcases aCj (x14.2 == x19.2)with h6|h6
 ·replace hr:=dM hr h6
  obtain⟨x28,h_7,hr⟩:=aG hr
  rcases aCj x28 with h8|h8
  ·replace hr:=dM hr h8
   obtain⟨x32,h_9,hr⟩:=aG hr
   obtain⟨x34,h_10,hr⟩:=aG hr
   refine xr ?_
   refine zz ?_
   refine vO (v:=(eB x28)) (h':=[some ⟨43,x14.1.flatMap aK⟩,some ⟨43,x19.1.flatMap aK⟩]) rfl rfl h6 rfl (Vm.Fn.lendR (jW h_7) [] [0,1] (by decide) rfl (by decide) Lend.nil (Brw.row (j2 (C:=aK) (fun _=>rfl) zl rfl rfl (fun _=>rfl)) (Brw.row (j2 (C:=aK) (fun _=>rfl) zl rfl rfl (fun _=>rfl)) Brw.nil)) rfl rfB.nil rfl zH) ?_
   refine zz ?_
   refine vO (v:=(eS x32)) (h':=[some ⟨43,x14.1.flatMap aK⟩,some ⟨43,x19.1.flatMap aK⟩]) rfl rfl h8 rfl (Vm.Fn.pure (pL h_9) rfl rfl) ?_
   refine zz ?_
   refine vO (v:=(eS x34)) (h':=[some ⟨43,x14.1.flatMap aK⟩,some ⟨43,x19.1.flatMap aK⟩]) rfl rfl h8 rfl (Vm.Fn.pure (qJ h_10) rfl rfl) ?_
   refine yH rfl rfl h8 (cG rfl rfl (rL ..)) ?_
   refine zz ?_
   exact hG1 _ _ _ _ (zG []) (J1 (x32.toList == x34.toList) hr)
  replace hr:=dN hr h8
  refine xr ?_
  refine zz ?_
  refine vO (v:=(eB x28)) (h':=[some ⟨43,x14.1.flatMap aK⟩,some ⟨43,x19.1.flatMap aK⟩]) rfl rfl h6 rfl (Vm.Fn.lendR (jW h_7) [] [0,1] (by decide) rfl (by decide) Lend.nil (Brw.row (j2 (C:=aK) (fun _=>rfl) zl rfl rfl (fun _=>rfl)) (Brw.row (j2 (C:=aK) (fun _=>rfl) zl rfl rfl (fun _=>rfl)) Brw.nil)) rfl rfB.nil rfl zH) ?_
  refine zz ?_
  exact hG1 _ _ _ _ (zG []) (J1 false hr)
 replace hr:=dN hr h6
 refine xr ?_
 refine zz ?_
 refine xX rfl<|xX rfl<|xX rfl<|xX rfl<|xX rfl ?_
 refine zz ?_
 exact hG1 _ _ _ _ (zG []) (J1 false hr)
end Go.Proofs.YtjnkndlfncbclaaGreatDoor
