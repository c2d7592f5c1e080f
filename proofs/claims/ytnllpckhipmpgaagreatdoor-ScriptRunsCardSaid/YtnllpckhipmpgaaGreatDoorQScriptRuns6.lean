/- Texts of ours, joined: Wk1. -/
import Derived.Test.YtnllpckhipmpgaaGreatDoorQScriptRuns5
set_option linter.unusedVariables false
set_option linter.unusedSimpArgs false
set_option maxRecDepth 20000
set_option maxHeartbeats 1000000
namespace Go.Proofs.YtnllpckhipmpgaaGreatDoor
open Go Go.Vm
theorem aDY {N : Nat} {code : Int} {r : Bool} (hr : rL N code = some r) :
  Vm.Fn Tryz.prog 52 [] [(eI .i64 code)] (eB r) [] := by
 refine zf Tryz.func52 Tryz.ntmps52 ?_
 unfold rL at hr
 refine zz ?_
 refine AB.seq_g fun K1 hK1 hG1 => ?_
 have J1 : ∀ (x2 : Bool),nE N x2 = some r → K1 (aE 9 [(2,(eB x2))]) [] := by
  intro x2 hr
  unfold nE at hr
  refine hK1 _ _ ?_
  refine zz ?_
  obtain rfl := sj hr
  exact bH Tryz.results52 []
 rcases Bool.eq_false_or_eq_true (decide (1 ≤ code)) with h1 | h1
 ·replace hr := cV hr h1
  refine xr ?_
  refine zz ?_
  exact hG1 _ _ _ _ (zG []) (J1 (decide (code ≤ 17)) hr)
 ·replace hr := cU hr h1
  refine xr ?_
  refine zz ?_
  exact hG1 _ _ _ _ (zG []) (J1 false hr)
theorem aBQ {N : Nat} {parts : List (List Int)} {r : (List Int)} (hr : pZ N parts = some r) :
  Vm.Fn Tryz.prog 36 [] [(.row none 1 (parts.map (eL 1 (eI .u8))))] (.sl 0 0 r.length 1 false) [some ⟨5,r.map (eI .u8)⟩] := by
 refine zf Tryz.func36 Tryz.ntmps36 ?_
 unfold pZ at hr
 refine zz ?_
 refine AB.seq_g fun K1 hK1 hG1 => ?_
 have J1 : ∀ (l0 : List Int),yQ N l0 = some r → K1 (aE 17 [(3,(.sl 0 0 l0.length 1 false))]) [some ⟨5,l0.map (eI .u8)⟩] := by
  intro l0 hr
  unfold yQ at hr
  refine hK1 _ _ ?_
  refine zz ?_
  obtain rfl := sj hr
  exact bH Tryz.results36 [0]
 obtain ⟨a9,hL2,hr⟩ := aA hr
 refine zz ?_
 refine AB.block <| AB.loopN (fun m s h => ∃ (x8 : Int) (aK : List Int),jW N parts m x8 aK = some a9 ∧ Ghost 0 s h (aE 17 [(3,(.sl 0 0 aK.length 1 false)),(6,(.row none 1 (parts.map (eL 1 (eI .u8))))),(7,(eI .i64 (parts.length : Int))),(8,(eI .i64 x8))]) [some ⟨5,aK.map (eI .u8)⟩]) (n := N) ⟨0,[],hL2,(zW 5 [0])⟩ (by rintro s h ⟨_,_,h0,_⟩; simp [jW] at h0) ?_
 rintro m2 s h ⟨x8,aK,hr2,hg⟩
 refine AB.ghost hg ?_
 clear hg hL2
 rw [jW] at hr2
 refine zz ?_
 refine AB.seq ?_
 refine zk hr2 rfl (fun h1 hr2 => ?_) (fun h1 hr2 => ?_)
 ·refine zz ?_
  refine AB.seq <| AB.block ?_
  obtain ⟨b8,h_2,hr2⟩ := aA hr2
  obtain ⟨bC,h_3,hr2⟩ := aA hr2
  refine zz ?_
  exact ⟨IntKind.i64.wrap (x8 + 1),bC,hr2,(zG [1])⟩
 ·refine zz ?_
  obtain rfl := sj hr2
  refine zz ?_
  exact hG1 _ _ _ _ (zG [0]) (J1 aK hr)
theorem aC0 {N : Nat} {vm : Int} {vn : Int} {r : Bool} (hr : pF N vm vn = some r) :
  Vm.Fn Tryz.prog 53 [] [(eI .i64 vm),(eI .i64 vn)] (eB r) [] := by
 refine zf Tryz.func53 Tryz.ntmps53 ?_
 unfold pF at hr
 refine zz ?_
 refine AB.seq_g fun K1 hK1 hG1 => ?_
 have J1 : ∀ (x4 : Bool),hZ N x4 = some r → K1 (aE 20 [(4,(eB x4))]) [] := by
  intro x4 hr
  unfold hZ at hr
  refine hK1 _ _ ?_
  refine zz ?_
  obtain rfl := sj hr
  exact bH Tryz.results53 []
 rcases Bool.eq_false_or_eq_true (decide (1 ≤ vn)) with h1 | h1
 ·replace hr := cV hr h1
  rcases Bool.eq_false_or_eq_true (decide (vn ≤ 15)) with h2 | h2
  ·replace hr := cV hr h2
   rcases Bool.eq_false_or_eq_true (decide (1 ≤ vm)) with h3 | h3
   ·replace hr := cV hr h3
    refine xr ?_
    refine zz ?_
    exact hG1 _ _ _ _ (zG []) (J1 (decide (vm ≤ vn)) hr)
   ·replace hr := cU hr h3
    refine xr ?_
    refine zz ?_
    exact hG1 _ _ _ _ (zG []) (J1 false hr)
  ·replace hr := cU hr h2
   refine xr ?_
   refine zz ?_
   refine xX rfl <| xX rfl <| xX rfl ?_
   refine zz ?_
   exact hG1 _ _ _ _ (zG []) (J1 false hr)
 ·replace hr := cU hr h1
  refine xr ?_
  refine zz ?_
  refine xX rfl <| xX rfl ?_
  refine zz ?_
  refine xX rfl <| xX rfl <| xX rfl ?_
  refine zz ?_
  exact hG1 _ _ _ _ (zG []) (J1 false hr)
theorem aEy {N : Nat} {b : List Int} {r : Int × (List Int) × Int × Int × (List Int) × Int} (hr : tW N b = some r) :
  Vm.Fn Tryz.prog 35 [] [(.row none 1 (b.map (eI .u8)))] (.tup [(.agg [(eI .i64 r.1),(.sl 0 0 r.2.1.length 1 false),(eI .i64 r.2.2.1),(eI .i64 r.2.2.2.1)]),(.row none 1 (r.2.2.2.2.1.map (eI .u8))),(eI .i64 r.2.2.2.2.2)]) [some ⟨5,r.2.1.map (eI .u8)⟩] := by
 refine zf Tryz.func35 Tryz.ntmps35 ?_
 unfold tW at hr
 obtain ⟨x8,h_1,hr⟩ := aA hr
 refine zz ?_
 refine AB.seq ?_
 obtain ⟨bC,h_2,hr⟩ := aA hr
 refine zz ?_
 refine xp (aDY h_2) ?_
 refine zz ?_
 refine zk hr rfl (fun h3 hr => ?_) (fun h3 hr => ?_)
 ·refine zz ?_
  obtain rfl := sj hr
  exact rN Tryz.results35 aW aW aW (zW 5 [2])
 ·obtain ⟨x18,h_4,hr⟩ := aA hr
  refine zz ?_
  refine AB.seq_g fun K1 hK1 hG1 => ?_
  have J1 : ∀ (b_1 : List Int) (c1 : Int) (wR : Int) (l2 : List Int),kI N x8 b_1 c1 wR l2 = some r → K1 (aE 78 [(0,(.row none 1 (b_1.map (eI .u8)))),(2,(.ptr 0 0)),(5,(.ptr 1 0))]) [some ⟨46,[(eI .i64 0),(.row (some true) 1 []),(eI .i64 0),(eI .i64 0)]⟩,some ⟨46,[(eI .i64 (IntKind.i64.wrap x8)),(.sl 2 0 l2.length 1 false),(eI .i64 c1),(eI .i64 wR)]⟩,some ⟨5,l2.map (eI .u8)⟩] := by
   intro b_1 c1 wR l2 hr
   unfold kI at hr
   refine hK1 _ _ ?_
   refine zz ?_
   obtain rfl := sj hr
   exact rN Tryz.results35 aW aW aW (zG [2])
  refine zz ?_
  refine AB.block ?_
  refine zz ?_
  refine zk hr rfl (fun h5 hr => ?_) (fun h5 hr => ?_)
  ·refine AB.seq ?_
   refine AB.seq_g fun K2 hK2 hG2 => ?_
   have J2 : ∀ (x35 : Bool),pP N x8 x18 x35 = some r → K2 (aE 78 [(0,(.row none 1 (x18.map (eI .u8)))),(2,(.ptr 0 0)),(5,(.ptr 1 0)),(35,(eB x35))]) [some ⟨46,[(eI .i64 0),(.row (some true) 1 []),(eI .i64 0),(eI .i64 0)]⟩,some ⟨46,[(eI .i64 (IntKind.i64.wrap x8)),(.row (some true) 1 []),(eI .i64 0),(eI .i64 0)]⟩] := by
    intro x35 hr
    unfold pP at hr
    refine hK2 _ _ ?_
    refine zk hr rfl (fun h6 hr => ?_) (fun h6 hr => ?_)
    ·refine zz ?_
     obtain rfl := sj hr
     exact rN Tryz.results35 aW aW aW (zW 5 [2])
    ·obtain ⟨x38,h_7,hr⟩ := aA hr
     obtain ⟨x44,h_8,hr⟩ := aA hr
     obtain ⟨x46,h_9,hr⟩ := aA hr
     obtain ⟨x49,h_11,hr⟩ := aA hr
     refine zz ?_
     refine AB.rd (eC []) (eC [36]) mixed <| DrawG.pick (n := 10) (i := 0) (by decide +kernel) rfl (gS (v := (.row none 1 (x18.map (eI .u8)))) (sv (j8 rfl))) <| DrawG.pick (n := 9) (i := 1) (by decide +kernel) rfl (gS (v := (eI .i64 (IntKind.i64.wrap (1 + (IntKind.i64.wrap x38))))) (sv (j8 rfl))) <| DrawG.pick (n := 8) (i := 2) (by decide +kernel) rfl (gS (v := (.row none 1 (x44.map (eI .u8)))) (sv (b5 rfl rfl rfl (qM cG cZ rfl rfl h_8)))) <| DrawG.pick (n := 7) (i := 3) (by decide +kernel) rfl (gS (v := (.sl 2 0 1 1 false)) (h' := [some ⟨46,[(eI .i64 0),(.row (some true) 1 []),(eI .i64 0),(eI .i64 0)]⟩,some ⟨46,[(eI .i64 (IntKind.i64.wrap x8)),(.row (some true) 1 []),(eI .i64 0),(eI .i64 0)]⟩,some ⟨31,[x44].map (eL 1 (eI .u8))⟩]) (sv (qF rfl (aIY (xs := [x44].map (eL 1 (eI .u8))) yR cG zl zl rfl rfl rfl rfl rfl rfl rfl)))) ?_
     refine DrawG.pick (n := 6) (i := 4) (by decide +kernel) rfl (gC (v := (.sl 3 0 x46.length 1 false)) (h' := [some ⟨46,[(eI .i64 0),(.row (some true) 1 []),(eI .i64 0),(eI .i64 0)]⟩,some ⟨46,[(eI .i64 (IntKind.i64.wrap x8)),(.row (some true) 1 []),(eI .i64 0),(eI .i64 0)]⟩,some ⟨31,[x44].map (eL 1 (eI .u8))⟩,some ⟨5,x46.map (eI .u8)⟩]) (zL (aBQ h_9) [] [2]) rfl (fun _ => ⟨_,rfl⟩) (sv (mW rfl sP))) <| DrawG.pick (n := 5) (i := 5) (by decide +kernel) rfl (gS (v := (.row none 1 (x18.map (eI .u8)))) (sv (j8 rfl))) <| DrawG.pick (n := 4) (i := 6) (by decide +kernel) rfl (gS (v := (eI .i64 (IntKind.i64.wrap (1 + (IntKind.i64.wrap x38))))) (sv (j8 rfl))) ?_
     refine DrawG.pick (n := 3) (i := 8) (by decide +kernel) rfl (gS (v := (.ptr 1 1)) (sv (lI rfl (aEY ..)))) ?_
     refine DrawG.jn (m := 1) (L := lst [0,1,2,3,4,5,6,7,8,9] 11) (s1 := aE 78 [(0,(.row none 1 (x18.map (eI .u8)))),(2,(.ptr 0 0)),(5,(.ptr 1 0)),(49,(.row none 1 (x49.map (eI .u8))))]) (h1 := [some ⟨46,[(eI .i64 0),(.row (some true) 1 []),(eI .i64 0),(eI .i64 0)]⟩,some ⟨46,[(eI .i64 (IntKind.i64.wrap x8)),(.sl 2 0 x46.length 1 false),(eI .i64 0),(eI .i64 0)]⟩,some ⟨5,x46.map (eI .u8)⟩]) ?_ (fun J => ?_)
     ·refine DrawG.pick (n := 0) (i := 10) (by decide +kernel) rfl (gS (v := (.row none 1 (x49.map (eI .u8)))) (sv (pY rfl))) <| DrawG.nil (by decide +kernel) ?_
      refine zz ?_
      exact hG1 _ _ _ _ (zG [0,1,2]) (J1 x49 0 0 x46 hr)
     ·refine DrawG.fork (n := 2) [7,9] (by decide +kernel) (by decide) ?_
      refine (Fork.cons rfl (gS (v := (.row none 1 (x49.map (eI .u8)))) (sv (b5 rfl rfl rfl (qM cG cZ rfl rfl h_11)))) ?_ (Fork.cons rfl (gN (h' := [some ⟨46,[(eI .i64 0),(.row (some true) 1 []),(eI .i64 0),(eI .i64 0)]⟩,some ⟨46,[(eI .i64 (IntKind.i64.wrap x8)),(.sl 3 0 x46.length 1 false),(eI .i64 0),(eI .i64 0)]⟩,some ⟨31,[x44].map (eL 1 (eI .u8))⟩,some ⟨5,x46.map (eI .u8)⟩]) (sv (aY rfl rfl (fU cG rfl rfl rfl zl rfl)))) ?_ Fork.nil))
      ·refine DrawG.pick (n := 1) (i := 9) (by decide +kernel) rfl (gN (h' := [some ⟨46,[(eI .i64 0),(.row (some true) 1 []),(eI .i64 0),(eI .i64 0)]⟩,some ⟨46,[(eI .i64 (IntKind.i64.wrap x8)),(.sl 3 0 x46.length 1 false),(eI .i64 0),(eI .i64 0)]⟩,some ⟨31,[x44].map (eL 1 (eI .u8))⟩,some ⟨5,x46.map (eI .u8)⟩]) (sv (aY rfl rfl (fU cG rfl rfl rfl zl rfl)))) ?_
       exact DrawG.jg (by decide +kernel) (by decide +kernel) (zG [0,1,3]) J
      ·refine DrawG.pick (n := 1) (i := 7) (by decide +kernel) rfl (gS (v := (.row none 1 (x49.map (eI .u8)))) (sv (b5 rfl rfl rfl (qM cG cZ rfl rfl h_11)))) ?_
       exact DrawG.jg (by decide +kernel) (by decide +kernel) (zG [0,1,3]) J
   rcases Bool.eq_false_or_eq_true ((x18.length : Int) == 0) with h12 | h12
   ·replace hr := cV hr h12
    refine xr ?_
    refine zz ?_
    exact hG2 _ _ _ _ (zG [0,1]) (J2 true hr)
   ·replace hr := cU hr h12
    obtain ⟨dL,h_13,hr⟩ := aA hr
    refine xr ?_
    refine zz ?_
    exact hG2 _ _ _ _ (zG [0,1]) (J2 (decide ((IntKind.i64.wrap ((x18.length : Int) - 1)) < (IntKind.i64.wrap dL))) hr)
  ·refine zz ?_
   refine zk hr rfl (fun h14 hr => ?_) (fun h14 hr => ?_)
   ·refine AB.seq ?_
    refine zz ?_
    refine zk hr rfl (fun h15 hr => ?_) (fun h15 hr => ?_)
    ·refine zz ?_
     obtain rfl := sj hr
     exact rN Tryz.results35 aW aW aW (zW 5 [2])
    ·refine zz ?_
     refine AB.seq ?_
     obtain ⟨x58,h_16,hr⟩ := aA hr
     obtain ⟨x62,h_17,hr⟩ := aA hr
     obtain ⟨x66,h_18,hr⟩ := aA hr
     refine AB.rd (eC []) (eC []) mixed <| DrawG.pick (n := 14) (i := 0) (by decide +kernel) rfl (gS (v := (.row none 1 (x18.map (eI .u8)))) (sv (j8 rfl))) <| DrawG.pick (n := 13) (i := 1) (by decide +kernel) rfl (gS (sv (yS rfl rfl (iaR cG cZ h_16)))) <| DrawG.pick (n := 12) (i := 2) (by decide +kernel) rfl (gS (v := (eI .u8 x58)) (sv (bO rfl (ldR h_16 (nV cZ rfl rfl))))) <| DrawG.pick (n := 11) (i := 3) (by decide +kernel) rfl (gS (v := (eI .i64 (IntKind.i64.wrap x58))) (sv (f6 rfl (eV _ ⟨_,cZ⟩ cT rfl)))) <| DrawG.pick (n := 10) (i := 4) (by decide +kernel) rfl (gS (v := (.row none 1 (x18.map (eI .u8)))) (sv (j8 rfl))) ?_
     refine DrawG.pick (n := 9) (i := 5) (by decide +kernel) rfl (gS (sv (yS rfl rfl (iaR cG cZ h_17)))) <| DrawG.pick (n := 8) (i := 8) (by decide +kernel) rfl (gS (v := (.row none 1 (x18.map (eI .u8)))) (sv (j8 rfl))) <| DrawG.pick (n := 7) (i := 10) (by decide +kernel) rfl (gS (v := (.ptr 1 2)) (sv (lI rfl (aFi ..)))) ?_
     refine DrawG.jn (m := 1) (L := lst [0,1,2,3,4,5,6,7,8,9,10,11,12,13] 15) (s1 := aE 78 [(0,(.row none 1 (x18.map (eI .u8)))),(2,(.ptr 0 0)),(5,(.ptr 1 0)),(66,(.row none 1 (x66.map (eI .u8))))]) (h1 := [some ⟨46,[(eI .i64 0),(.row (some true) 1 []),(eI .i64 0),(eI .i64 0)]⟩,some ⟨46,[(eI .i64 (IntKind.i64.wrap x8)),(.row (some true) 1 []),(eI .i64 (IntKind.i64.wrap x58)),(eI .i64 (IntKind.i64.wrap x62))]⟩]) ?_ (fun J => ?_)
     ·refine DrawG.pick (n := 0) (i := 14) (by decide +kernel) rfl (gS (v := (.row none 1 (x66.map (eI .u8)))) (sv (pY rfl))) <| DrawG.nil (by decide +kernel) ?_
      obtain ⟨x73,h_19,hr⟩ := aA hr
      refine zz ?_
      refine xp (aC0 h_19) ?_
      refine zz ?_
      refine zk hr rfl (fun h20 hr => ?_) (fun h20 hr => ?_)
      ·refine zz ?_
       obtain rfl := sj hr
       exact rN Tryz.results35 aW aW aW (zW 5 [2])
      ·refine zz ?_
       exact hG1 _ _ _ _ (Ghost.trans (Ghost.virt (fr' := [(0,(.row none 1 (x66.map (eI .u8)))),(2,(.ptr 0 0)),(5,(.ptr 1 0))]) (h1 := [some ⟨46,[(eI .i64 0),(.row (some true) 1 []),(eI .i64 0),(eI .i64 0)]⟩,some ⟨46,[(eI .i64 (IntKind.i64.wrap x8)),(.sl 2 0 0 1 false),(eI .i64 (IntKind.i64.wrap x58)),(eI .i64 (IntKind.i64.wrap x62))]⟩]) 5 (FLe.same rfl (FLe.same rfl (FLe.same rfl FLe.nil))) (HLv.live (V.les_refl _ _) rfl (HLv.live (V.les_cons (V.le_refl _ _) (V.les_cons (V.le_virt rfl) (V.les_cons (V.le_refl _ _) (V.les_cons (V.le_refl _ _) V.les_nil)))) rfl HLv.nil))) (lT [0,1,2])) (J1 x66 (IntKind.i64.wrap x58) (IntKind.i64.wrap x62) [] hr)
     ·refine DrawG.fork (n := 6) [6,9,11] (by decide +kernel) (by decide) ?_
      refine (Fork.cons rfl (gS (v := (eI .u8 x62)) (sv (bO rfl (ldR h_17 (nV cZ rfl rfl))))) ?_ (Fork.cons rfl (gS (v := (.row none 1 (x66.map (eI .u8)))) (sv (b5 rfl rfl rfl (qM cG cZ rfl rfl h_18)))) ?_ (Fork.cons rfl (gN (h' := [some ⟨46,[(eI .i64 0),(.row (some true) 1 []),(eI .i64 0),(eI .i64 0)]⟩,some ⟨46,[(eI .i64 (IntKind.i64.wrap x8)),(.row (some true) 1 []),(eI .i64 (IntKind.i64.wrap x58)),(eI .i64 0)]⟩]) (sv (aY rfl rfl (fU cT rfl rfl rfl zl rfl)))) ?_ Fork.nil)))
      ·refine DrawG.fork (n := 5) [7,9,11] (by decide +kernel) (by decide) ?_
       refine (Fork.cons rfl (gS (v := (eI .i64 (IntKind.i64.wrap x62))) (sv (f6 rfl (eV _ ⟨_,cZ⟩ cT rfl)))) ?_ (Fork.cons rfl (gS (v := (.row none 1 (x66.map (eI .u8)))) (sv (b5 rfl rfl rfl (qM cG cZ rfl rfl h_18)))) ?_ (Fork.cons rfl (gN (h' := [some ⟨46,[(eI .i64 0),(.row (some true) 1 []),(eI .i64 0),(eI .i64 0)]⟩,some ⟨46,[(eI .i64 (IntKind.i64.wrap x8)),(.row (some true) 1 []),(eI .i64 (IntKind.i64.wrap x58)),(eI .i64 0)]⟩]) (sv (aY rfl rfl (fU cT rfl rfl rfl zl rfl)))) ?_ Fork.nil)))
       ·refine DrawG.fork (n := 4) [9,11] (by decide +kernel) (by decide) ?_
        refine (Fork.cons rfl (gS (v := (.row none 1 (x66.map (eI .u8)))) (sv (b5 rfl rfl rfl (qM cG cZ rfl rfl h_18)))) ?_ (Fork.cons rfl (gN (h' := [some ⟨46,[(eI .i64 0),(.row (some true) 1 []),(eI .i64 0),(eI .i64 0)]⟩,some ⟨46,[(eI .i64 (IntKind.i64.wrap x8)),(.row (some true) 1 []),(eI .i64 (IntKind.i64.wrap x58)),(eI .i64 0)]⟩]) (sv (aY rfl rfl (fU cT rfl rfl rfl zl rfl)))) ?_ Fork.nil))
        ·refine DrawG.pick (n := 3) (i := 11) (by decide +kernel) rfl (gN (h' := [some ⟨46,[(eI .i64 0),(.row (some true) 1 []),(eI .i64 0),(eI .i64 0)]⟩,some ⟨46,[(eI .i64 (IntKind.i64.wrap x8)),(.row (some true) 1 []),(eI .i64 (IntKind.i64.wrap x58)),(eI .i64 0)]⟩]) (sv (aY rfl rfl (fU cT rfl rfl rfl zl rfl)))) <| DrawG.pick (n := 2) (i := 12) (by decide +kernel) rfl (gS (v := (.ptr 1 3)) (sv (lI rfl (gR ..)))) <| DrawG.pick (n := 1) (i := 13) (by decide +kernel) rfl (gN (h' := [some ⟨46,[(eI .i64 0),(.row (some true) 1 []),(eI .i64 0),(eI .i64 0)]⟩,some ⟨46,[(eI .i64 (IntKind.i64.wrap x8)),(.row (some true) 1 []),(eI .i64 (IntKind.i64.wrap x58)),(eI .i64 (IntKind.i64.wrap x62))]⟩]) (sv (aY rfl rfl (fU cT rfl rfl rfl zl rfl)))) ?_
         exact DrawG.jg (by decide +kernel) (by decide +kernel) (zG [0,1]) J
        ·refine DrawG.pick (n := 3) (i := 12) (by decide +kernel) rfl (gS (v := (.ptr 1 3)) (sv (lI rfl (gR ..)))) <| DrawG.fork (n := 2) [9,13] (by decide +kernel) (by decide) ?_
         refine (Fork.cons rfl (gS (v := (.row none 1 (x66.map (eI .u8)))) (sv (b5 rfl rfl rfl (qM cG cZ rfl rfl h_18)))) ?_ (Fork.cons rfl (gN (h' := [some ⟨46,[(eI .i64 0),(.row (some true) 1 []),(eI .i64 0),(eI .i64 0)]⟩,some ⟨46,[(eI .i64 (IntKind.i64.wrap x8)),(.row (some true) 1 []),(eI .i64 (IntKind.i64.wrap x58)),(eI .i64 (IntKind.i64.wrap x62))]⟩]) (sv (aY rfl rfl (fU cT rfl rfl rfl zl rfl)))) ?_ Fork.nil))
         ·refine DrawG.pick (n := 1) (i := 13) (by decide +kernel) rfl (gN (h' := [some ⟨46,[(eI .i64 0),(.row (some true) 1 []),(eI .i64 0),(eI .i64 0)]⟩,some ⟨46,[(eI .i64 (IntKind.i64.wrap x8)),(.row (some true) 1 []),(eI .i64 (IntKind.i64.wrap x58)),(eI .i64 (IntKind.i64.wrap x62))]⟩]) (sv (aY rfl rfl (fU cT rfl rfl rfl zl rfl)))) ?_
          exact DrawG.jg (by decide +kernel) (by decide +kernel) (zG [0,1]) J
         ·refine DrawG.pick (n := 1) (i := 9) (by decide +kernel) rfl (gS (v := (.row none 1 (x66.map (eI .u8)))) (sv (b5 rfl rfl rfl (qM cG cZ rfl rfl h_18)))) ?_
          exact DrawG.jg (by decide +kernel) (by decide +kernel) (zG [0,1]) J
       ·refine DrawG.fork (n := 4) [7,11] (by decide +kernel) (by decide) ?_
        refine (Fork.cons rfl (gS (v := (eI .i64 (IntKind.i64.wrap x62))) (sv (f6 rfl (eV _ ⟨_,cZ⟩ cT rfl)))) ?_ (Fork.cons rfl (gN (h' := [some ⟨46,[(eI .i64 0),(.row (some true) 1 []),(eI .i64 0),(eI .i64 0)]⟩,some ⟨46,[(eI .i64 (IntKind.i64.wrap x8)),(.row (some true) 1 []),(eI .i64 (IntKind.i64.wrap x58)),(eI .i64 0)]⟩]) (sv (aY rfl rfl (fU cT rfl rfl rfl zl rfl)))) ?_ Fork.nil))
        ·refine DrawG.pick (n := 3) (i := 11) (by decide +kernel) rfl (gN (h' := [some ⟨46,[(eI .i64 0),(.row (some true) 1 []),(eI .i64 0),(eI .i64 0)]⟩,some ⟨46,[(eI .i64 (IntKind.i64.wrap x8)),(.row (some true) 1 []),(eI .i64 (IntKind.i64.wrap x58)),(eI .i64 0)]⟩]) (sv (aY rfl rfl (fU cT rfl rfl rfl zl rfl)))) <| DrawG.pick (n := 2) (i := 12) (by decide +kernel) rfl (gS (v := (.ptr 1 3)) (sv (lI rfl (gR ..)))) <| DrawG.pick (n := 1) (i := 13) (by decide +kernel) rfl (gN (h' := [some ⟨46,[(eI .i64 0),(.row (some true) 1 []),(eI .i64 0),(eI .i64 0)]⟩,some ⟨46,[(eI .i64 (IntKind.i64.wrap x8)),(.row (some true) 1 []),(eI .i64 (IntKind.i64.wrap x58)),(eI .i64 (IntKind.i64.wrap x62))]⟩]) (sv (aY rfl rfl (fU cT rfl rfl rfl zl rfl)))) ?_
         exact DrawG.jg (by decide +kernel) (by decide +kernel) (zG [0,1]) J
        ·refine DrawG.pick (n := 3) (i := 7) (by decide +kernel) rfl (gS (v := (eI .i64 (IntKind.i64.wrap x62))) (sv (f6 rfl (eV _ ⟨_,cZ⟩ cT rfl)))) <| DrawG.pick (n := 2) (i := 12) (by decide +kernel) rfl (gS (v := (.ptr 1 3)) (sv (lI rfl (gR ..)))) <| DrawG.pick (n := 1) (i := 13) (by decide +kernel) rfl (gN (h' := [some ⟨46,[(eI .i64 0),(.row (some true) 1 []),(eI .i64 0),(eI .i64 0)]⟩,some ⟨46,[(eI .i64 (IntKind.i64.wrap x8)),(.row (some true) 1 []),(eI .i64 (IntKind.i64.wrap x58)),(eI .i64 (IntKind.i64.wrap x62))]⟩]) (sv (aY rfl rfl (fU cT rfl rfl rfl zl rfl)))) ?_
         exact DrawG.jg (by decide +kernel) (by decide +kernel) (zG [0,1]) J
       ·refine DrawG.pick (n := 4) (i := 7) (by decide +kernel) rfl (gS (v := (eI .i64 (IntKind.i64.wrap x62))) (sv (f6 rfl (eV _ ⟨_,cZ⟩ cT rfl)))) <| DrawG.pick (n := 3) (i := 12) (by decide +kernel) rfl (gS (v := (.ptr 1 3)) (sv (lI rfl (gR ..)))) <| DrawG.fork (n := 2) [9,13] (by decide +kernel) (by decide) ?_
        refine (Fork.cons rfl (gS (v := (.row none 1 (x66.map (eI .u8)))) (sv (b5 rfl rfl rfl (qM cG cZ rfl rfl h_18)))) ?_ (Fork.cons rfl (gN (h' := [some ⟨46,[(eI .i64 0),(.row (some true) 1 []),(eI .i64 0),(eI .i64 0)]⟩,some ⟨46,[(eI .i64 (IntKind.i64.wrap x8)),(.row (some true) 1 []),(eI .i64 (IntKind.i64.wrap x58)),(eI .i64 (IntKind.i64.wrap x62))]⟩]) (sv (aY rfl rfl (fU cT rfl rfl rfl zl rfl)))) ?_ Fork.nil))
        ·refine DrawG.pick (n := 1) (i := 13) (by decide +kernel) rfl (gN (h' := [some ⟨46,[(eI .i64 0),(.row (some true) 1 []),(eI .i64 0),(eI .i64 0)]⟩,some ⟨46,[(eI .i64 (IntKind.i64.wrap x8)),(.row (some true) 1 []),(eI .i64 (IntKind.i64.wrap x58)),(eI .i64 (IntKind.i64.wrap x62))]⟩]) (sv (aY rfl rfl (fU cT rfl rfl rfl zl rfl)))) ?_
         exact DrawG.jg (by decide +kernel) (by decide +kernel) (zG [0,1]) J
        ·refine DrawG.pick (n := 1) (i := 9) (by decide +kernel) rfl (gS (v := (.row none 1 (x66.map (eI .u8)))) (sv (b5 rfl rfl rfl (qM cG cZ rfl rfl h_18)))) ?_
         exact DrawG.jg (by decide +kernel) (by decide +kernel) (zG [0,1]) J
      ·refine DrawG.fork (n := 5) [6,11] (by decide +kernel) (by decide) ?_
       refine (Fork.cons rfl (gS (v := (eI .u8 x62)) (sv (bO rfl (ldR h_17 (nV cZ rfl rfl))))) ?_ (Fork.cons rfl (gN (h' := [some ⟨46,[(eI .i64 0),(.row (some true) 1 []),(eI .i64 0),(eI .i64 0)]⟩,some ⟨46,[(eI .i64 (IntKind.i64.wrap x8)),(.row (some true) 1 []),(eI .i64 (IntKind.i64.wrap x58)),(eI .i64 0)]⟩]) (sv (aY rfl rfl (fU cT rfl rfl rfl zl rfl)))) ?_ Fork.nil))
       ·refine DrawG.fork (n := 4) [7,11] (by decide +kernel) (by decide) ?_
        refine (Fork.cons rfl (gS (v := (eI .i64 (IntKind.i64.wrap x62))) (sv (f6 rfl (eV _ ⟨_,cZ⟩ cT rfl)))) ?_ (Fork.cons rfl (gN (h' := [some ⟨46,[(eI .i64 0),(.row (some true) 1 []),(eI .i64 0),(eI .i64 0)]⟩,some ⟨46,[(eI .i64 (IntKind.i64.wrap x8)),(.row (some true) 1 []),(eI .i64 (IntKind.i64.wrap x58)),(eI .i64 0)]⟩]) (sv (aY rfl rfl (fU cT rfl rfl rfl zl rfl)))) ?_ Fork.nil))
        ·refine DrawG.pick (n := 3) (i := 11) (by decide +kernel) rfl (gN (h' := [some ⟨46,[(eI .i64 0),(.row (some true) 1 []),(eI .i64 0),(eI .i64 0)]⟩,some ⟨46,[(eI .i64 (IntKind.i64.wrap x8)),(.row (some true) 1 []),(eI .i64 (IntKind.i64.wrap x58)),(eI .i64 0)]⟩]) (sv (aY rfl rfl (fU cT rfl rfl rfl zl rfl)))) <| DrawG.pick (n := 2) (i := 12) (by decide +kernel) rfl (gS (v := (.ptr 1 3)) (sv (lI rfl (gR ..)))) <| DrawG.pick (n := 1) (i := 13) (by decide +kernel) rfl (gN (h' := [some ⟨46,[(eI .i64 0),(.row (some true) 1 []),(eI .i64 0),(eI .i64 0)]⟩,some ⟨46,[(eI .i64 (IntKind.i64.wrap x8)),(.row (some true) 1 []),(eI .i64 (IntKind.i64.wrap x58)),(eI .i64 (IntKind.i64.wrap x62))]⟩]) (sv (aY rfl rfl (fU cT rfl rfl rfl zl rfl)))) ?_
         exact DrawG.jg (by decide +kernel) (by decide +kernel) (zG [0,1]) J
        ·refine DrawG.pick (n := 3) (i := 7) (by decide +kernel) rfl (gS (v := (eI .i64 (IntKind.i64.wrap x62))) (sv (f6 rfl (eV _ ⟨_,cZ⟩ cT rfl)))) <| DrawG.pick (n := 2) (i := 12) (by decide +kernel) rfl (gS (v := (.ptr 1 3)) (sv (lI rfl (gR ..)))) <| DrawG.pick (n := 1) (i := 13) (by decide +kernel) rfl (gN (h' := [some ⟨46,[(eI .i64 0),(.row (some true) 1 []),(eI .i64 0),(eI .i64 0)]⟩,some ⟨46,[(eI .i64 (IntKind.i64.wrap x8)),(.row (some true) 1 []),(eI .i64 (IntKind.i64.wrap x58)),(eI .i64 (IntKind.i64.wrap x62))]⟩]) (sv (aY rfl rfl (fU cT rfl rfl rfl zl rfl)))) ?_
         exact DrawG.jg (by decide +kernel) (by decide +kernel) (zG [0,1]) J
       ·refine DrawG.pick (n := 4) (i := 6) (by decide +kernel) rfl (gS (v := (eI .u8 x62)) (sv (bO rfl (ldR h_17 (nV cZ rfl rfl))))) <| DrawG.pick (n := 3) (i := 7) (by decide +kernel) rfl (gS (v := (eI .i64 (IntKind.i64.wrap x62))) (sv (f6 rfl (eV _ ⟨_,cZ⟩ cT rfl)))) <| DrawG.pick (n := 2) (i := 12) (by decide +kernel) rfl (gS (v := (.ptr 1 3)) (sv (lI rfl (gR ..)))) <| DrawG.pick (n := 1) (i := 13) (by decide +kernel) rfl (gN (h' := [some ⟨46,[(eI .i64 0),(.row (some true) 1 []),(eI .i64 0),(eI .i64 0)]⟩,some ⟨46,[(eI .i64 (IntKind.i64.wrap x8)),(.row (some true) 1 []),(eI .i64 (IntKind.i64.wrap x58)),(eI .i64 (IntKind.i64.wrap x62))]⟩]) (sv (aY rfl rfl (fU cT rfl rfl rfl zl rfl)))) ?_
        exact DrawG.jg (by decide +kernel) (by decide +kernel) (zG [0,1]) J
      ·refine DrawG.pick (n := 5) (i := 6) (by decide +kernel) rfl (gS (v := (eI .u8 x62)) (sv (bO rfl (ldR h_17 (nV cZ rfl rfl))))) <| DrawG.pick (n := 4) (i := 7) (by decide +kernel) rfl (gS (v := (eI .i64 (IntKind.i64.wrap x62))) (sv (f6 rfl (eV _ ⟨_,cZ⟩ cT rfl)))) <| DrawG.pick (n := 3) (i := 12) (by decide +kernel) rfl (gS (v := (.ptr 1 3)) (sv (lI rfl (gR ..)))) <| DrawG.fork (n := 2) [9,13] (by decide +kernel) (by decide) ?_
       refine (Fork.cons rfl (gS (v := (.row none 1 (x66.map (eI .u8)))) (sv (b5 rfl rfl rfl (qM cG cZ rfl rfl h_18)))) ?_ (Fork.cons rfl (gN (h' := [some ⟨46,[(eI .i64 0),(.row (some true) 1 []),(eI .i64 0),(eI .i64 0)]⟩,some ⟨46,[(eI .i64 (IntKind.i64.wrap x8)),(.row (some true) 1 []),(eI .i64 (IntKind.i64.wrap x58)),(eI .i64 (IntKind.i64.wrap x62))]⟩]) (sv (aY rfl rfl (fU cT rfl rfl rfl zl rfl)))) ?_ Fork.nil))
       ·refine DrawG.pick (n := 1) (i := 13) (by decide +kernel) rfl (gN (h' := [some ⟨46,[(eI .i64 0),(.row (some true) 1 []),(eI .i64 0),(eI .i64 0)]⟩,some ⟨46,[(eI .i64 (IntKind.i64.wrap x8)),(.row (some true) 1 []),(eI .i64 (IntKind.i64.wrap x58)),(eI .i64 (IntKind.i64.wrap x62))]⟩]) (sv (aY rfl rfl (fU cT rfl rfl rfl zl rfl)))) ?_
        exact DrawG.jg (by decide +kernel) (by decide +kernel) (zG [0,1]) J
       ·refine DrawG.pick (n := 1) (i := 9) (by decide +kernel) rfl (gS (v := (.row none 1 (x66.map (eI .u8)))) (sv (b5 rfl rfl rfl (qM cG cZ rfl rfl h_18)))) ?_
        exact DrawG.jg (by decide +kernel) (by decide +kernel) (zG [0,1]) J
   ·refine zz ?_
    exact hG1 _ _ _ _ (Ghost.trans (Ghost.virt (fr' := [(0,(.row none 1 (x18.map (eI .u8)))),(2,(.ptr 0 0)),(5,(.ptr 1 0))]) (h1 := [some ⟨46,[(eI .i64 0),(.row (some true) 1 []),(eI .i64 0),(eI .i64 0)]⟩,some ⟨46,[(eI .i64 (IntKind.i64.wrap x8)),(.sl 2 0 0 1 false),(eI .i64 0),(eI .i64 0)]⟩]) 5 (FLe.same rfl (FLe.same rfl (FLe.same rfl FLe.nil))) (HLv.live (V.les_refl _ _) rfl (HLv.live (V.les_cons (V.le_refl _ _) (V.les_cons (V.le_virt rfl) (V.les_cons (V.le_refl _ _) (V.les_cons (V.le_refl _ _) V.les_nil)))) rfl HLv.nil))) (lT [0,1,2])) (J1 x18 0 0 [] hr)
theorem aDG {N : Nat} {b : List Int} {r : (List aM) × Int} (hr : rD N b = some r) :
  Vm.Fn Tryz.prog 18 [] [(.row none 1 (b.map (eI .u8)))] (.tup [(.sl 0 0 r.1.length 4 true),(eI .i64 r.2)]) [some ⟨46,r.1.flatMap bU⟩] := by
 refine zf Tryz.func18 Tryz.ntmps18 ?_
 unfold rD at hr
 refine zz ?_
 refine AB.seq ?_
 refine zz ?_
 refine zk hr rfl (fun h1 hr => ?_) (fun h1 hr => ?_)
 ·refine zz ?_
  obtain rfl := sj hr
  exact nQ Tryz.results18 aW aW (zW 46 [0])
 ·refine zz ?_
  refine AB.seq_g fun K1 hK1 hG1 => ?_
  have J1 : ∀ (l0 : List aM),vR N l0 = some r → K1 (aE 29 [(4,(.sl 0 0 l0.length 4 true))]) [some ⟨46,l0.flatMap bU⟩] := by
   intro l0 hr
   unfold vR at hr
   refine hK1 _ _ ?_
   refine zz ?_
   obtain rfl := sj hr
   exact v5 Tryz.results18 [0]
  obtain ⟨a9,hL2,hr⟩ := aA hr
  refine AB.block <| AB.loopN (fun m s h => ∃ (b_1 : List Int) (aK : List aM),jD N m b_1 aK = some a9 ∧ Ghost 0 s h (aE 29 [(0,(.row none 1 (b_1.map (eI .u8)))),(4,(.sl 0 0 aK.length 4 true))]) [some ⟨46,aK.flatMap bU⟩]) (n := N) ⟨b,[],hL2,(zW 46 [0])⟩ (by rintro s h ⟨_,_,h0,_⟩; simp [jD] at h0) ?_
  rintro m2 s h ⟨b_1,aK,hr2,hg⟩
  refine AB.ghost hg ?_
  clear hg hL2
  rw [jD] at hr2
  refine AB.seq ?_
  refine zz ?_
  refine zk hr2 rfl (fun h2 hr2 => ?_) (fun h2 hr2 => ?_)
  ·refine zz ?_
   refine AB.block ?_
   obtain ⟨x16,h_3,hr2⟩ := aA hr2
   refine zz ?_
   refine zc (aEy h_3) [] ?_
   refine zz ?_
   refine AB.seq ?_
   refine zz ?_
   refine zk hr2 rfl (fun h4 hr2 => ?_) (fun h4 hr2 => ?_)
   ·refine zz ?_
    obtain rfl := sj hr2
    obtain rfl := sj hr
    exact nQ Tryz.results18 aW aW (zW 46 [3])
   ·obtain ⟨x26,h_5,hr2⟩ := aA hr2
    refine zz ?_
    refine OpsX.ghost (Ghost.conv (fr' := [(0,(.row none 1 (b_1.map (eI .u8)))),(4,(.sl 0 0 aK.length 4 true)),(5,(.ptr 2 0)),(6,(.row none 1 (x16.2.2.2.2.1.map (eI .u8)))),(7,(eI .i64 x16.2.2.2.2.2)),(11,(.row none 1 (b_1.map (eI .u8)))),(12,(eI .i64 (b_1.length : Int))),(13,(eB (decide (0 < (b_1.length : Int))))),(14,(.tup [(.agg [(eI .i64 x16.1),(.row none 1 (x16.2.1.map (eI .u8))),(eI .i64 x16.2.2.1),(eI .i64 x16.2.2.2.1)]),(.row none 1 (x16.2.2.2.2.1.map (eI .u8))),(eI .i64 x16.2.2.2.2.2)])),(15,(.row none 1 (b_1.map (eI .u8)))),(16,(.tup [(.agg [(eI .i64 x16.1),(.row none 1 (x16.2.1.map (eI .u8))),(eI .i64 x16.2.2.1),(eI .i64 x16.2.2.2.1)]),(.row none 1 (x16.2.2.2.2.1.map (eI .u8))),(eI .i64 x16.2.2.2.2.2)])),(17,(.agg [(eI .i64 x16.1),(.row none 1 (x16.2.1.map (eI .u8))),(eI .i64 x16.2.2.1),(eI .i64 x16.2.2.2.1)])),(18,(.row none 1 (x16.2.2.2.2.1.map (eI .u8)))),(19,(eI .i64 x16.2.2.2.2.2)),(20,(eI .i64 x16.2.2.2.2.2)),(21,(eB (x16.2.2.2.2.2 != 0))),(23,(.sl 0 0 aK.length 4 true)),(24,(.agg [(eI .i64 x16.1),(.row none 1 (x16.2.1.map (eI .u8))),(eI .i64 x16.2.2.1),(eI .i64 x16.2.2.2.1)]))]) (h' := [some ⟨46,aK.flatMap bU⟩,none,some ⟨46,[(eI .i64 x16.1),(.row none 1 (x16.2.1.map (eI .u8))),(eI .i64 x16.2.2.1),(eI .i64 x16.2.2.2.1)]⟩]) (FCv.cons rfl (Conv.same (aI rfl)) (FCv.cons rfl (Conv.same (aI rfl)) (FCv.cons rfl (Conv.same (aI rfl)) (FCv.cons rfl (Conv.same (aI rfl)) (FCv.cons rfl (Conv.same (aI rfl)) (FCv.cons rfl (Conv.same (aI rfl)) (FCv.cons rfl (Conv.same (aI rfl)) (FCv.cons rfl (Conv.same (aI rfl)) (FCv.cons rfl (Conv.tup (Convs.cons (Conv.agg (Convs.cons (Conv.same (aI rfl)) (Convs.cons (Conv.row (aI rfl) rfl rfl (eJ (fun _ => rfl)) (by first | rfl | (simp only [List.length_map,bK,bJ]; done))) (Convs.cons (Conv.same (aI rfl)) (Convs.cons (Conv.same (aI rfl)) Convs.nil))))) (Convs.cons (Conv.same (aI rfl)) (Convs.cons (Conv.same (aI rfl)) Convs.nil)))) (FCv.cons rfl (Conv.same (aI rfl)) (FCv.cons rfl (Conv.tup (Convs.cons (Conv.agg (Convs.cons (Conv.same (aI rfl)) (Convs.cons (Conv.row (aI rfl) rfl rfl (eJ (fun _ => rfl)) (by first | rfl | (simp only [List.length_map,bK,bJ]; done))) (Convs.cons (Conv.same (aI rfl)) (Convs.cons (Conv.same (aI rfl)) Convs.nil))))) (Convs.cons (Conv.same (aI rfl)) (Convs.cons (Conv.same (aI rfl)) Convs.nil)))) (FCv.cons rfl (Conv.agg (Convs.cons (Conv.same (aI rfl)) (Convs.cons (Conv.row (aI rfl) rfl rfl (eJ (fun _ => rfl)) (by first | rfl | (simp only [List.length_map,bK,bJ]; done))) (Convs.cons (Conv.same (aI rfl)) (Convs.cons (Conv.same (aI rfl)) Convs.nil))))) (FCv.cons rfl (Conv.same (aI rfl)) (FCv.cons rfl (Conv.same (aI rfl)) (FCv.cons rfl (Conv.same (aI rfl)) (FCv.cons rfl (Conv.same (aI rfl)) (FCv.cons rfl (Conv.same (aI rfl)) (FCv.cons rfl (Conv.agg (Convs.cons (Conv.same (aI rfl)) (Convs.cons (Conv.row (aI rfl) rfl rfl (eJ (fun _ => rfl)) (by first | rfl | (simp only [List.length_map,bK,bJ]; done))) (Convs.cons (Conv.same (aI rfl)) (Convs.cons (Conv.same (aI rfl)) Convs.nil))))) FCv.nil)))))))))))))))))) (HCv.live (Convs.same (aI rfl)) (mQ (fun _ => rfl) _) (HCv.dead (HCv.live (Convs.cons (Conv.same (aI rfl)) (Convs.cons (Conv.row (aI rfl) rfl rfl (eJ (fun _ => rfl)) (by first | rfl | (simp only [List.length_map,bK,bJ]; done))) (Convs.cons (Conv.same (aI rfl)) (Convs.cons (Conv.same (aI rfl)) Convs.nil)))) rfl HCv.nil)))) ?_
    refine xw (v := (.sl 3 0 1 4 true)) (h' := [some ⟨46,aK.flatMap bU⟩,none,some ⟨46,[(eI .i64 x16.1),(.row none 1 (x16.2.1.map (eI .u8))),(eI .i64 x16.2.2.1),(eI .i64 x16.2.2.2.1)]⟩,some ⟨46,[(aM.mk x16.1 x16.2.1 x16.2.2.1 x16.2.2.2.1)].flatMap bU⟩]) (qF rfl (aCO (C := bU) (xs := [(aM.mk x16.1 x16.2.1 x16.2.2.1 x16.2.2.2.1)]) (K := 4) (fun _ => rfl) (fun _ => rfl) aKy wM ⟨zl,zl,zl⟩ rfl rfl rfl rfl rfl rfl)) ?_
    refine zz ?_
    exact ⟨x16.2.2.2.2.1,x26,hr2,(zG [4])⟩
  ·refine zz ?_
   obtain rfl := sj hr2
   refine zz ?_
   exact hG1 _ _ _ _ (zG [0]) (J1 aK hr)
theorem aDb {N : Nat} {l : List aM} {r : Bool} (hr : qK N l = some r) :
  Vm.Fn Tryz.prog 19 [] [(.row none 4 (l.map rJ))] (eB r) [] := by
 refine zf Tryz.func19 Tryz.ntmps19 ?_
 unfold qK at hr
 refine zz ?_
 refine AB.seq_g fun K1 hK1 hG1 => ?_
 have J1 : ∀ (l0 : List Bool),uM N l0 = some r → K1 (aE 47 [(3,(.sl 0 0 l0.length 1 false))]) [some ⟨4,l0.map eB⟩] := by
  intro l0 hr
  unfold uM at hr
  refine hK1 _ _ ?_
  refine zz ?_
  obtain rfl := sj hr
  exact bH Tryz.results19 []
 obtain ⟨a9,hL2,hr⟩ := aA hr
 refine zz ?_
 refine AB.block <| AB.loopN (fun m s h => ∃ (x9 : Int) (aK : List Bool),cW N l m x9 aK = some a9 ∧ Ghost 0 s h (aE 47 [(3,(.sl 0 0 aK.length 1 false)),(7,(.row none 4 (l.map rJ))),(8,(eI .i64 (l.length : Int))),(9,(eI .i64 x9))]) [some ⟨4,aK.map eB⟩]) (n := N) ⟨0,[],hL2,(zW 4 [0])⟩ (by rintro s h ⟨_,_,h0,_⟩; simp [cW] at h0) ?_
 rintro m2 s h ⟨x9,aK,hr2,hg⟩
 refine AB.ghost hg ?_
 clear hg hL2
 rw [cW] at hr2
 refine zz ?_
 refine AB.seq ?_
 refine zk hr2 rfl (fun h1 hr2 => ?_) (fun h1 hr2 => ?_)
 ·refine zz ?_
  refine AB.seq_g fun K3 hK3 hG3 => ?_
  have J3 : ∀ (iP : List Bool),iS N l x9 (cW N l m2) iP = some a9 → K3 (aE 47 [(3,(.sl 0 0 iP.length 1 false)),(7,(.row none 4 (l.map rJ))),(8,(eI .i64 (l.length : Int))),(9,(eI .i64 x9))]) [some ⟨4,iP.map eB⟩] := by
   intro iP hr2
   unfold iS at hr2
   refine hK3 _ _ ?_
   refine zz ?_
   exact ⟨IntKind.i64.wrap (x9 + 1),iP,hr2,(zG [0])⟩
  refine AB.block ?_
  obtain ⟨bX,h_2,hr2⟩ := aA hr2
  refine zz ?_
  refine AB.block ?_
  refine zz ?_
  refine zk hr2 rfl (fun h3 hr2 => ?_) (fun h3 hr2 => ?_)
  ·obtain ⟨bN,h_4,hr2⟩ := aA hr2
   refine zz ?_
   exact hG3 _ _ _ _ (zG [3]) (J3 bN hr2)
  ·refine zz ?_
   refine zk hr2 rfl (fun h5 hr2 => ?_) (fun h5 hr2 => ?_)
   ·refine AB.seq ?_
    refine AB.seq_g fun K4 hK4 hG4 => ?_
    have J4 : ∀ (pK : Bool),mJ N l x9 aK (cW N l m2) pK = some a9 → K4 (aE 47 [(3,(.sl 0 0 aK.length 1 false)),(6,(eI .i64 (IntKind.i64.wrap ((aK.length : Int) - 1)))),(7,(.row none 4 (l.map rJ))),(8,(eI .i64 (l.length : Int))),(9,(eI .i64 x9)),(32,(eB pK))]) [some ⟨4,aK.map eB⟩] := by
     intro pK hr2
     unfold mJ at hr2
     refine hK4 _ _ ?_
     refine zk hr2 rfl (fun h6 hr2 => ?_) (fun h6 hr2 => ?_)
     ·refine zz ?_
      obtain rfl := sj hr2
      obtain rfl := sj hr
      exact bH Tryz.results19 []
     ·obtain ⟨x35,h_7,hr2⟩ := aA hr2
      refine zz ?_
      exact hG3 _ _ _ _ (lT [0]) (J3 (aK.set (Int.toNat (IntKind.i64.wrap ((aK.length : Int) - 1))) true) hr2)
    rcases Bool.eq_false_or_eq_true (decide ((IntKind.i64.wrap ((aK.length : Int) - 1)) < 0)) with h8 | h8
    ·replace hr2 := cV hr2 h8
     refine xr ?_
     refine zz ?_
     exact hG4 _ _ _ _ (zG [0]) (J4 true hr2)
    ·replace hr2 := cU hr2 h8
     obtain ⟨lA,h_9,hr2⟩ := aA hr2
     refine xr ?_
     refine zz ?_
     exact hG4 _ _ _ _ (zG [0]) (J4 lA hr2)
   ·refine zz ?_
    refine zk hr2 rfl (fun h10 hr2 => ?_) (fun h10 hr2 => ?_)
    ·refine AB.seq ?_
     refine zz ?_
     refine zk hr2 rfl (fun h11 hr2 => ?_) (fun h11 hr2 => ?_)
     ·refine zz ?_
      obtain rfl := sj hr2
      obtain rfl := sj hr
      exact bH Tryz.results19 []
     ·obtain ⟨x42,h_12,hr2⟩ := aA hr2
      refine zz ?_
      refine xw (v := (.sl 0 0 x42.length 1 false)) (b5 rfl rfl rfl (aD8 (l := aK) rfl aKM yA rfl rfl rfl h_12)) ?_
      refine OpsX.ghost (Ghost.cutM (t := 42) (E := eB) (l := aK) (h' := [some ⟨4,x42.map eB⟩,some ⟨46,[(eI .i64 bX.Code),(.row none 1 (bX.Data.map (eI .u8))),(eI .i64 bX.M),(eI .i64 bX.N)]⟩]) rfl rfl h_12 rfl) ?_
      refine zz ?_
      exact hG3 _ _ _ _ (zG [0]) (J3 x42 hr2)
    ·refine zz ?_
     exact hG3 _ _ _ _ (zG [0]) (J3 aK hr2)
 ·refine zz ?_
  obtain rfl := sj hr2
  refine zz ?_
  exact hG1 _ _ _ _ (zG [0]) (J1 aK hr)
theorem aCX {N : Nat} {stack : List (List Int)} {r : Bool} (hr : pT N stack = some r) :
  Vm.Fn Tryz.prog 20 [] [(.row none 1 (stack.map (eL 1 (eI .u8))))] (eB r) [] := by
 refine zf Tryz.func20 Tryz.ntmps20 ?_
 unfold pT at hr
 refine zz ?_
 refine AB.seq ?_
 refine zz ?_
 refine zk hr rfl (fun h1 hr => ?_) (fun h1 hr => ?_)
 ·refine zz ?_
  obtain rfl := sj hr
  exact bH Tryz.results20 []
 ·refine zz ?_
  refine AB.seq_g fun K1 hK1 hG1 => ?_
  have J1 : tE N = some r → K1 (aE 18 []) [] := by
   intro hr
   unfold tE at hr
   refine hK1 _ _ ?_
   refine zz ?_
   obtain rfl := sj hr
   exact bH Tryz.results20 []
  obtain ⟨a9,hL2,hr⟩ := aA hr
  refine zz ?_
  refine AB.block <| AB.loopN (fun m s h => ∃ (b8 : Int),fH N stack m b8 = some a9 ∧ Ghost 0 s h (aE 18 [(8,(.row none 1 (stack.map (eL 1 (eI .u8))))),(9,(eI .i64 (stack.length : Int))),(10,(eI .i64 b8))]) []) (n := N) ⟨0,hL2,(zG [])⟩ (by rintro s h ⟨_,h0,_⟩; simp [fH] at h0) ?_
  rintro m2 s h ⟨b8,hr2,hg⟩
  refine AB.ghost hg ?_
  clear hg hL2
  rw [fH] at hr2
  refine zz ?_
  refine AB.seq ?_
  refine zk hr2 rfl (fun h2 hr2 => ?_) (fun h2 hr2 => ?_)
  ·refine zz ?_
   refine AB.seq <| AB.block ?_
   obtain ⟨eE,h_3,hr2⟩ := aA hr2
   refine zz ?_
   refine zk hr2 rfl (fun h4 hr2 => ?_) (fun h4 hr2 => ?_)
   ·refine zz ?_
    obtain rfl := sj hr2
    obtain rfl := sj hr
    exact bH Tryz.results20 []
   ·refine zz ?_
    exact ⟨IntKind.i64.wrap (b8 + 1),hr2,(zG [])⟩
  ·refine zz ?_
   obtain rfl := sj hr2
   refine zz ?_
   exact hG1 _ _ _ _ (zG []) (J1 hr)
theorem uF {N : Nat} {stack : List (List Int)} {r : (List (List Int))} (hr : nC N stack = some r) :
  Vm.Fn Tryz.prog 21 [] [(.row none 1 (stack.map (eL 1 (eI .u8))))] (.sl 0 0 r.length 1 false) [some ⟨31,r.map (eL 1 (eI .u8))⟩] := by
 refine zf Tryz.func21 Tryz.ntmps21 ?_
 unfold nC at hr
 refine zz ?_
 refine AB.seq_g fun K1 hK1 hG1 => ?_
 have J1 : ∀ (l0 : List (List Int)),pW N l0 = some r → K1 (aE 20 [(3,(.sl 0 0 l0.length 1 false))]) [some ⟨31,l0.map (eL 1 (eI .u8))⟩] := by
  intro l0 hr
  unfold pW at hr
  refine hK1 _ _ ?_
  refine zz ?_
  obtain rfl := sj hr
  exact bH Tryz.results21 [0]
 obtain ⟨a9,hL2,hr⟩ := aA hr
 refine zz ?_
 refine AB.block <| AB.loopN (fun m s h => ∃ (x8 : Int) (aK : List (List Int)),iQ N stack m x8 aK = some a9 ∧ Ghost 0 s h (aE 20 [(3,(.sl 0 0 aK.length 1 false)),(6,(.row none 1 (stack.map (eL 1 (eI .u8))))),(7,(eI .i64 (stack.length : Int))),(8,(eI .i64 x8))]) [some ⟨31,aK.map (eL 1 (eI .u8))⟩]) (n := N) ⟨0,[],hL2,(zW 31 [0])⟩ (by rintro s h ⟨_,_,h0,_⟩; simp [iQ] at h0) ?_
 rintro m2 s h ⟨x8,aK,hr2,hg⟩
 refine AB.ghost hg ?_
 clear hg hL2
 rw [iQ] at hr2
 refine zz ?_
 refine AB.seq ?_
 refine zk hr2 rfl (fun h1 hr2 => ?_) (fun h1 hr2 => ?_)
 ·refine zz ?_
  refine AB.seq <| AB.block ?_
  obtain ⟨b8,h_2,hr2⟩ := aA hr2
  obtain ⟨x15,h_3,hr2⟩ := aA hr2
  obtain ⟨x17,h_4,hr2⟩ := aA hr2
  refine zz ?_
  refine zcL (aBQ h_3) [] [1] ?_
  refine OpsX.ghost (zv 2) ?_
  refine zz ?_
  exact ⟨IntKind.i64.wrap (x8 + 1),x17,hr2,(zG [4])⟩
 ·refine zz ?_
  obtain rfl := sj hr2
  refine zz ?_
  exact hG1 _ _ _ _ (zG [0]) (J1 aK hr)
theorem zO {N : Nat} {aB : List Int} {aD : Int} {aH : Int} {aF : List (List Int)} {aC : List aG} {aP : Int} {r : Bool} (hr : lG N aB aD aH aF aC aP = some r) :
  Vm.Fn Tryz.prog 37 [some ⟨56,(bL (eI .u8) aB [(eI .i64 aD),(eI .i64 aH),(.sl 1 0 aF.length 1 false),(.sl 2 0 aC.length 2 true),(eI .i64 aP)])⟩,some ⟨31,aF.map (eL 1 (eI .u8))⟩,some ⟨73,aC.flatMap aL⟩] [(.ptr 0 0)] (eB r) [some ⟨56,(bL (eI .u8) aB [(eI .i64 aD),(eI .i64 aH),(.sl 1 0 aF.length 1 false),(.sl 2 0 aC.length 2 true),(eI .i64 aP)])⟩,some ⟨31,aF.map (eL 1 (eI .u8))⟩,some ⟨73,aC.flatMap aL⟩] := by
 refine zf Tryz.func37 Tryz.ntmps37 ?_
 unfold lG at hr
 refine zz ?_
 refine AB.seq ?_
 refine zz ?_
 refine zk hr rfl (fun h1 hr => ?_) (fun h1 hr => ?_)
 ·refine zz ?_
  obtain rfl := sj hr
  exact bH Tryz.results37 [0,1,2]
 ·refine zz ?_
  refine AB.seq ?_
  obtain ⟨bE,h_2,hr⟩ := aA hr
  refine AB.rs mixed [] [] [[0,1,2,3,4,5,6,7,8,9,10,11,12,13]] ?_
  refine zz ?_
  refine xw (v := (.agg [(eB bE.outer),(eB bE.taken)])) (bO rfl (aIM (C := aL) (K := 2) (fun _ => rfl) rfl h_2 (aAp (ds := [(eB bE.outer),(eB bE.taken)]) aA9 rfl zl rfl))) ?_
  refine zz ?_
  refine AB.seq_g fun K1 hK1 hG1 => ?_
  have J1 : ∀ (x2 : Bool),gJ N aB aD aH aF aC aP x2 = some r → K1 (aE 28 [(2,(eB x2))]) [some ⟨56,(bL (eI .u8) aB [(eI .i64 aD),(eI .i64 aH),(.sl 1 0 aF.length 1 false),(.sl 2 0 aC.length 2 true),(eI .i64 aP)])⟩,some ⟨31,aF.map (eL 1 (eI .u8))⟩,some ⟨73,aC.flatMap aL⟩] := by
   intro x2 hr
   unfold gJ at hr
   refine hK1 _ _ ?_
   refine zz ?_
   obtain rfl := sj hr
   exact bH Tryz.results37 [0,1,2]
  rcases Bool.eq_false_or_eq_true bE.outer with h3 | h3
  ·replace hr := cV hr h3
   refine xr ?_
   refine zz ?_
   exact hG1 _ _ _ _ (zG [0,1,2]) (J1 bE.taken hr)
  ·replace hr := cU hr h3
   refine xr ?_
   refine zz ?_
   exact hG1 _ _ _ _ (zG [0,1,2]) (J1 false hr)
theorem aDU {N : Nat} {aQ : Int} {bM : List Int} {dG : Int} {cY : Int} {r : Int} (hr : r9 N aQ bM dG cY = some r) :
  Vm.Fn Tryz.prog 38 [] [(.agg [(eI .i64 aQ),(.row none 1 (bM.map (eI .u8))),(eI .i64 dG),(eI .i64 cY)])] (eI .i64 r) [] := by
 refine zf Tryz.func38 Tryz.ntmps38 ?_
 unfold r9 at hr
 refine zz ?_
 refine AB.seq ?_
 refine zz ?_
 refine AB.block ?_
 refine zz ?_
 refine zk hr rfl (fun h1 hr => ?_) (fun h1 hr => ?_)
 ·refine zz ?_
  obtain rfl := sj hr
  exact bH Tryz.results38 []
 ·refine zz ?_
  refine zk hr rfl (fun h2 hr => ?_) (fun h2 hr => ?_)
  ·refine zz ?_
   obtain rfl := sj hr
   exact bH Tryz.results38 []
  ·refine zz ?_
   refine zk hr rfl (fun h3 hr => ?_) (fun h3 hr => ?_)
   ·refine zz ?_
    obtain rfl := sj hr
    exact bH Tryz.results38 []
   ·refine zz ?_
    obtain rfl := sj hr
    exact bH Tryz.results38 []
theorem aEk {N : Nat} {aQ : Int} {bM : List Int} {dG : Int} {cY : Int} {r : Int} (hr : sG N aQ bM dG cY = some r) :
  Vm.Fn Tryz.prog 39 [] [(.agg [(eI .i64 aQ),(.row none 1 (bM.map (eI .u8))),(eI .i64 dG),(eI .i64 cY)])] (eI .i64 r) [] := by
 refine zf Tryz.func39 Tryz.ntmps39 ?_
 unfold sG at hr
 refine zz ?_
 refine AB.seq ?_
 refine zz ?_
 refine AB.block ?_
 refine AB.seq_g fun K1 hK1 hG1 => ?_
 have J1 : ∀ (x5 : Bool),jK N aQ bM dG cY x5 = some r → K1 (aE 19 [(1,(.ptr 0 0)),(4,(eI .i64 aQ)),(5,(eB x5))]) [some ⟨46,[(eI .i64 aQ),(.row none 1 (bM.map (eI .u8))),(eI .i64 dG),(eI .i64 cY)]⟩] := by
  intro x5 hr
  unfold jK at hr
  refine hK1 _ _ ?_
  refine zk hr rfl (fun h1 hr => ?_) (fun h1 hr => ?_)
  ·refine zz ?_
   obtain rfl := sj hr
   exact bH Tryz.results39 []
  ·refine AB.seq_g fun K2 hK2 hG2 => ?_
   have J2 : ∀ (b8 : Bool),lH N aQ bM dG cY b8 = some r → K2 (aE 19 [(1,(.ptr 0 0)),(4,(eI .i64 aQ)),(10,(eB b8))]) [some ⟨46,[(eI .i64 aQ),(.row none 1 (bM.map (eI .u8))),(eI .i64 dG),(eI .i64 cY)]⟩] := by
    intro b8 hr
    unfold lH at hr
    refine hK2 _ _ ?_
    refine zk hr rfl (fun h2 hr => ?_) (fun h2 hr => ?_)
    ·refine zz ?_
     obtain rfl := sj hr
     exact bH Tryz.results39 []
    ·refine zz ?_
     refine zk hr rfl (fun h3 hr => ?_) (fun h3 hr => ?_)
     ·refine zz ?_
      obtain rfl := sj hr
      exact bH Tryz.results39 []
     ·refine zz ?_
      obtain rfl := sj hr
      exact bH Tryz.results39 []
   refine zz ?_
   refine zk hr rfl (fun h4 hr => ?_) (fun h4 hr => ?_)
   ·refine zz ?_
    exact hG2 _ _ _ _ (zG [0]) (J2 (aQ == 4) hr)
   ·refine zz ?_
    refine zk hr rfl (fun h5 hr => ?_) (fun h5 hr => ?_)
    ·refine zz ?_
     exact hG2 _ _ _ _ (zG [0]) (J2 (aQ == 5) hr)
    ·refine zz ?_
     exact hG2 _ _ _ _ (zG [0]) (J2 (aQ == 10) hr)
 refine zz ?_
 refine zk hr rfl (fun h6 hr => ?_) (fun h6 hr => ?_)
 ·refine zz ?_
  exact hG1 _ _ _ _ (zG [0]) (J1 (aQ == 1) hr)
 ·refine zz ?_
  refine zk hr rfl (fun h7 hr => ?_) (fun h7 hr => ?_)
  ·refine zz ?_
   exact hG1 _ _ _ _ (zG [0]) (J1 (aQ == 15) hr)
  ·refine zz ?_
   refine zk hr rfl (fun h8 hr => ?_) (fun h8 hr => ?_)
   ·refine zz ?_
    exact hG1 _ _ _ _ (zG [0]) (J1 (aQ == 16) hr)
   ·refine zz ?_
    exact hG1 _ _ _ _ (zG [0]) (J1 (aQ == 17) hr)
theorem dC {N : Nat} {aB : List Int} {aD : Int} {aH : Int} {aF : List (List Int)} {aC : List aG} {aP : Int} {r : (List Int)} (hr : bZ N aB aD aH aF aC aP = some r) :
  Vm.Fn Tryz.prog 40 [some ⟨56,(bL (eI .u8) aB [(eI .i64 aD),(eI .i64 aH),(.sl 1 0 aF.length 1 false),(.sl 2 0 aC.length 2 true),(eI .i64 aP)])⟩,some ⟨31,aF.map (eL 1 (eI .u8))⟩,some ⟨73,aC.flatMap aL⟩] [(.ptr 0 0)] (.row none 1 (r.map (eI .u8))) [some ⟨56,(bL (eI .u8) aB [(eI .i64 aD),(eI .i64 aH),(.sl 1 0 aF.length 1 false),(.sl 2 0 aC.length 2 true),(eI .i64 aP)])⟩,some ⟨31,aF.map (eL 1 (eI .u8))⟩,some ⟨73,aC.flatMap aL⟩] := by
 refine zf Tryz.func40 Tryz.ntmps40 ?_
 unfold bZ at hr
 refine zz ?_
 refine AB.seq ?_
 obtain ⟨cD,h_1,hr⟩ := aA hr
 refine AB.rs mixed [] [] [[0,1,2,3,4,5,6,7,8,9,10,11,12]] ?_
 refine zz ?_
 obtain rfl := sj hr
 exact bH Tryz.results40 [0,1,2]
theorem rA {N : Nat} {eF : List Int} {r : Bool} (hr : iH N eF = some r) :
  Vm.Fn Tryz.prog 33 [] [(.row none 1 (eF.map (eI .u8)))] (eB r) [] := by
 refine zf Tryz.func33 Tryz.ntmps33 ?_
 unfold iH at hr
 refine zz ?_
 refine AB.seq_g fun K1 hK1 hG1 => ?_
 have J1 : vX N = some r → K1 (aE 14 []) [] := by
  intro hr
  unfold vX at hr
  refine hK1 _ _ ?_
  refine zz ?_
  obtain rfl := sj hr
  exact bH Tryz.results33 []
 obtain ⟨a9,hL2,hr⟩ := aA hr
 refine zz ?_
 refine AB.block <| AB.loopN (fun m s h => ∃ (x7 : Int),eQ N eF m x7 = some a9 ∧ Ghost 0 s h (aE 14 [(5,(.row none 1 (eF.map (eI .u8)))),(6,(eI .i64 (eF.length : Int))),(7,(eI .i64 x7))]) []) (n := N) ⟨0,hL2,(zG [])⟩ (by rintro s h ⟨_,h0,_⟩; simp [eQ] at h0) ?_
 rintro m2 s h ⟨x7,hr2,hg⟩
 refine AB.ghost hg ?_
 clear hg hL2
 rw [eQ] at hr2
 refine zz ?_
 refine AB.seq ?_
 refine zk hr2 rfl (fun h1 hr2 => ?_) (fun h1 hr2 => ?_)
 ·refine zz ?_
  refine AB.seq <| AB.block ?_
  obtain ⟨x9,h_2,hr2⟩ := aA hr2
  refine zz ?_
  refine zk hr2 rfl (fun h3 hr2 => ?_) (fun h3 hr2 => ?_)
  ·refine zz ?_
   obtain rfl := sj hr2
   obtain rfl := sj hr
   exact bH Tryz.results33 []
  ·refine zz ?_
   exact ⟨IntKind.i64.wrap (x7 + 1),hr2,(zG [])⟩
 ·refine zz ?_
  obtain rfl := sj hr2
  refine zz ?_
  exact hG1 _ _ _ _ (zG []) (J1 hr)
theorem kP {N : Nat} {aB : List Int} {aD : Int} {aH : Int} {aF : List (List Int)} {aC : List aG} {aP : Int} {vn : Int} {r : (List Int) × Int × Int × (List (List Int)) × (List aG) × Int} (hr : dE N aB aD aH aF aC aP vn = some r) :
  Vm.Fn Tryz.prog 41 [some ⟨56,(bL (eI .u8) aB [(eI .i64 aD),(eI .i64 aH),(.sl 1 0 aF.length 1 false),(.sl 2 0 aC.length 2 true),(eI .i64 aP)])⟩,some ⟨31,aF.map (eL 1 (eI .u8))⟩,some ⟨73,aC.flatMap aL⟩] [(.ptr 0 0),(eI .i64 vn)] (.tup []) [some ⟨56,(bL (eI .u8) r.1 [(eI .i64 r.2.1),(eI .i64 r.2.2.1),(.sl 3 0 r.2.2.2.1.length 1 false),(.sl 4 0 r.2.2.2.2.1.length 2 true),(eI .i64 r.2.2.2.2.2)])⟩,none,none,some ⟨31,r.2.2.2.1.map (eL 1 (eI .u8))⟩,some ⟨73,r.2.2.2.2.1.flatMap aL⟩] := by
 refine zf Tryz.func41 Tryz.ntmps41 ?_
 unfold dE at hr
 obtain ⟨x16,h_1,hr⟩ := aA hr
 refine AB.rs mixed [] [] [[0,1,2,3,4,5,6,7,8,9,10,11,12],[13,14,15]] ?_
 refine zz ?_
 refine xw (v := (.sl 1 0 x16.length 1 false)) (b5 rfl rfl rfl (aD8 (l := aF) rfl yR cG rfl rfl rfl h_1)) ?_
 refine zz ?_
 refine ⟨_,_,(Ghost.cutM (t := 16) (E := (eL 1 (eI .u8))) (l := aF) (h' := [some ⟨56,(bL (eI .u8) aB [(eI .i64 aD),(eI .i64 aH),(.sl 1 0 aF.length 1 false),(.sl 2 0 aC.length 2 true),(eI .i64 aP)])⟩,some ⟨31,x16.map (eL 1 (eI .u8))⟩,some ⟨73,aC.flatMap aL⟩]) rfl rfl h_1 rfl), ?_⟩
 refine zz ?_
 obtain rfl := sj hr
 exact zn0 Tryz.results41 (zG [0,1,2,1,2])
theorem oL {N : Nat} {aB : List Int} {aD : Int} {aH : Int} {aF : List (List Int)} {aC : List aG} {aP : Int} {eF : List Int} {r : Int × (List Int) × Int × Int × (List (List Int)) × (List aG) × Int} (hr : fM N aB aD aH aF aC aP eF = some r) :
  Vm.Fn Tryz.prog 54 [some ⟨56,(bL (eI .u8) aB [(eI .i64 aD),(eI .i64 aH),(.sl 1 0 aF.length 1 false),(.sl 2 0 aC.length 2 true),(eI .i64 aP)])⟩,some ⟨31,aF.map (eL 1 (eI .u8))⟩,some ⟨73,aC.flatMap aL⟩] [(.ptr 0 0),(.row none 1 (eF.map (eI .u8)))] (eI .i64 r.1) [some ⟨56,(bL (eI .u8) r.2.1 [(eI .i64 r.2.2.1),(eI .i64 r.2.2.2.1),(.sl 3 0 r.2.2.2.2.1.length 1 false),(.sl 4 0 r.2.2.2.2.2.1.length 2 true),(eI .i64 r.2.2.2.2.2.2)])⟩,none,none,some ⟨31,r.2.2.2.2.1.map (eL 1 (eI .u8))⟩,some ⟨73,r.2.2.2.2.2.1.flatMap aL⟩] := by
 refine zf Tryz.func54 Tryz.ntmps54 ?_
 unfold fM at hr
 refine zz ?_
 refine AB.seq ?_
 refine zz ?_
 refine zk hr rfl (fun h1 hr => ?_) (fun h1 hr => ?_)
 ·refine zz ?_
  obtain rfl := sj hr
  exact bH Tryz.results54 [0,1,2,1,2]
 ·obtain ⟨x18,h_2,hr⟩ := aA hr
  refine zz ?_
  obtain rfl := sj hr
  exact bH Tryz.results54 [0,1,2,4,2]
theorem aEI {N : Nat} {va : List Int} {b : List Int} {r : Bool} (hr : wZ N va b = some r) :
  Vm.Fn Tryz.prog 57 [] [(.row none 1 (va.map (eI .u8))),(.row none 1 (b.map (eI .u8)))] (eB r) [] := by
 refine zf Tryz.func57 Tryz.ntmps57 ?_
 unfold wZ at hr
 refine zz ?_
 refine xw (v := (eS (nS va))) (f6 rfl (aGd cG ti9 cZ (aAJ (fun _ => rfl)))) ?_
 refine zz ?_
 refine xw (v := (eS (nS b))) (f6 rfl (aGd cG ti9 cZ (aAJ (fun _ => rfl)))) <| xw (xE rfl rfl (aGV ..)) ?_
 refine zz ?_
 obtain rfl := sj hr
 exact bH Tryz.results57 []
theorem sU {N : Nat} {vn : Int} {r : (List Int)} (hr : eR N vn = some r) :
  Vm.Fn Tryz.prog 15 [] [(eI .u32 vn)] (.sl 0 0 r.length 1 false) [some ⟨5,r.map (eI .u8)⟩] := by
 refine zf Tryz.func15 Tryz.ntmps15 ?_
 unfold eR at hr
 refine zz ?_
 refine AB.seq_g fun K1 hK1 hG1 => ?_
 have J1 : ∀ (l0 : List Int),sS N l0 = some r → K1 (aE 14 [(3,(.sl 0 0 l0.length 1 false))]) [some ⟨5,l0.map (eI .u8)⟩] := by
  intro l0 hr
  unfold sS at hr
  refine hK1 _ _ ?_
  refine zz ?_
  obtain rfl := sj hr
  exact bH Tryz.results15 [0]
 obtain ⟨a9,hL2,hr⟩ := aA hr
 refine AB.block <| AB.loopN (fun m s h => ∃ (cX : Int) (aK : List Int),dM N m cX aK = some a9 ∧ Ghost 0 s h (aE 14 [(0,(eI .u32 cX)),(3,(.sl 0 0 aK.length 1 false))]) [some ⟨5,aK.map (eI .u8)⟩]) (n := N) ⟨vn,[],hL2,(zW 5 [0])⟩ (by rintro s h ⟨_,_,h0,_⟩; simp [dM] at h0) ?_
 rintro m2 s h ⟨cX,aK,hr2,hg⟩
 refine AB.ghost hg ?_
 clear hg hL2
 rw [dM] at hr2
 refine AB.seq ?_
 refine zz ?_
 refine zk hr2 rfl (fun h1 hr2 => ?_) (fun h1 hr2 => ?_)
 ·refine zz ?_
  refine AB.seq <| AB.block ?_
  obtain ⟨eE,h_2,hr2⟩ := aA hr2
  obtain ⟨x7,h_3,hr2⟩ := aA hr2
  refine zz ?_
  exact ⟨x7,eE,hr2,(zG [2])⟩
 ·refine zz ?_
  obtain rfl := sj hr2
  refine zz ?_
  exact hG1 _ _ _ _ (zG [0]) (J1 aK hr)
theorem wO {N : Nat} {v : Bool} {r : (List Int)} (hr : i4 N v = some r) :
  Vm.Fn Tryz.prog 56 [] [(eB v)] (.sl 0 0 r.length 1 false) [some ⟨5,r.map (eI .u8)⟩] := by
 refine zf Tryz.func56 Tryz.ntmps56 ?_
 unfold i4 at hr
 refine zz ?_
 refine AB.seq ?_
 refine zz ?_
 refine zk hr rfl (fun h1 hr => ?_) (fun h1 hr => ?_)
 ·obtain ⟨x4,h_2,hr⟩ := aA hr
  refine zz ?_
  refine zc (sU h_2) [] ?_
  refine zz ?_
  obtain rfl := sj hr
  exact bH Tryz.results56 [0]
 ·obtain ⟨x5,h_3,hr⟩ := aA hr
  refine zz ?_
  refine zc (sU h_3) [] ?_
  refine zz ?_
  obtain rfl := sj hr
  exact bH Tryz.results56 [0]
theorem i0 {N : Nat} {aB : List Int} {aD : Int} {aH : Int} {aF : List (List Int)} {aC : List aG} {aP : Int} {vn : Int} {eF : List Int} {r : (List Int) × Int × Int × (List (List Int)) × (List aG) × Int} (hr : cH N aB aD aH aF aC aP vn eF = some r) :
  Vm.Fn Tryz.prog 55 [some ⟨56,(bL (eI .u8) aB [(eI .i64 aD),(eI .i64 aH),(.sl 1 0 aF.length 1 false),(.sl 2 0 aC.length 2 true),(eI .i64 aP)])⟩,some ⟨31,aF.map (eL 1 (eI .u8))⟩,some ⟨73,aC.flatMap aL⟩] [(.ptr 0 0),(eI .i64 vn),(.row none 1 (eF.map (eI .u8)))] (.tup []) [some ⟨56,(bL (eI .u8) r.1 [(eI .i64 r.2.1),(eI .i64 r.2.2.1),(.sl 3 0 r.2.2.2.1.length 1 false),(.sl 4 0 r.2.2.2.2.1.length 2 true),(eI .i64 r.2.2.2.2.2)])⟩,none,none,some ⟨31,r.2.2.2.1.map (eL 1 (eI .u8))⟩,some ⟨73,r.2.2.2.2.1.flatMap aL⟩] := by
 refine zf Tryz.func55 Tryz.ntmps55 ?_
 unfold cH at hr
 obtain ⟨x8,h_1,hr⟩ := aA hr
 refine zz ?_
 refine zc (kP h_1) [0,1,2] ?_
 obtain ⟨x16,h_2,hr⟩ := aA hr
 refine zz ?_
 obtain rfl := sj hr
 exact zn0 Tryz.results55 (zG [0,1,2,6,4])
theorem aI1 {N : Nat} {vn : Int} {r : (List Int)} (hr : aAT N vn = some r) :
  Vm.Fn Tryz.prog 70 [] [(eI .u64 vn)] (.sl 0 0 r.length 1 false) [some ⟨5,r.map (eI .u8)⟩] := by
 refine zf Tryz.func70 Tryz.ntmps70 ?_
 unfold aAT at hr
 obtain ⟨x15,h_1,hr⟩ := aA hr
 refine zz ?_
 refine xw (v := (.sl 0 0 x15.length 1 false)) (h' := [some ⟨5,x15.map (eI .u8)⟩]) (aK8 rfl rfl (mkL (E := (eI .u8)) (y := 0) cG cZ ⟨zl,rfl,rfl⟩ rfl rfl rfl h_1 rfl rfl)) ?_
 obtain ⟨x17,h_2,hr⟩ := aA hr
 refine zz ?_
 refine AB.seq_g fun K1 hK1 hG1 => ?_
 have J1 : ∀ (l0 : List Int),aBJ N l0 = some r → K1 (aE 33 [(4,(.sl 0 0 l0.length 1 false))]) [some ⟨5,l0.map (eI .u8)⟩] := by
  intro l0 hr
  unfold aBJ at hr
  refine hK1 _ _ ?_
  refine zz ?_
  obtain rfl := sj hr
  exact bH Tryz.results70 [0]
 obtain ⟨a9,hL2,hr⟩ := aA hr
 refine zz ?_
 refine AB.block <| AB.loopN (fun m s h => ∃ (x18 : Int) (aK : List Int),n9 N vn m x18 aK = some a9 ∧ Ghost 0 s h (aE 33 [(0,(eI .u64 vn)),(4,(.sl 0 0 aK.length 1 false)),(18,(eI .i64 x18))]) [some ⟨5,aK.map (eI .u8)⟩]) (n := N) ⟨0,x15.set (Int.toNat 0) 128,hL2,(lT [0])⟩ (by rintro s h ⟨_,_,h0,_⟩; simp [n9] at h0) ?_
 rintro m2 s h ⟨x18,aK,hr2,hg⟩
 refine AB.ghost hg ?_
 clear hg hL2
 rw [n9] at hr2
 refine zz ?_
 refine AB.seq ?_
 refine zk hr2 rfl (fun h3 hr2 => ?_) (fun h3 hr2 => ?_)
 ·refine zz ?_
  refine AB.seq <| AB.block ?_
  obtain ⟨x27,h_4,hr2⟩ := aA hr2
  obtain ⟨lA,h_5,hr2⟩ := aA hr2
  refine zz ?_
  exact ⟨IntKind.i64.wrap (x18 + 1),lA,hr2,(zG [2])⟩
 ·refine zz ?_
  obtain rfl := sj hr2
  refine zz ?_
  exact hG1 _ _ _ _ (zG [0]) (J1 aK hr)
theorem aD7 {N : Nat} {parts : List (List Int)} {r : (List Int)} (hr : zJ N parts = some r) :
  Vm.Fn Tryz.prog 69 [] [(.row none 1 (parts.map (eL 1 (eI .u8))))] (.sl 0 0 r.length 1 false) [some ⟨5,r.map (eI .u8)⟩] := by
 refine zf Tryz.func69 Tryz.ntmps69 ?_
 unfold zJ at hr
 refine zz ?_
 refine AB.seq_g fun K1 hK1 hG1 => ?_
 have J1 : ∀ (l0 : List Int),aBr N l0 = some r → K1 (aE 17 [(3,(.sl 0 0 l0.length 1 false))]) [some ⟨5,l0.map (eI .u8)⟩] := by
  intro l0 hr
  unfold aBr at hr
  refine hK1 _ _ ?_
  refine zz ?_
  obtain rfl := sj hr
  exact bH Tryz.results69 [0]
 obtain ⟨a9,hL2,hr⟩ := aA hr
 refine zz ?_
 refine AB.block <| AB.loopN (fun m s h => ∃ (x8 : Int) (aK : List Int),oA N parts m x8 aK = some a9 ∧ Ghost 0 s h (aE 17 [(3,(.sl 0 0 aK.length 1 false)),(6,(.row none 1 (parts.map (eL 1 (eI .u8))))),(7,(eI .i64 (parts.length : Int))),(8,(eI .i64 x8))]) [some ⟨5,aK.map (eI .u8)⟩]) (n := N) ⟨0,[],hL2,(zW 5 [0])⟩ (by rintro s h ⟨_,_,h0,_⟩; simp [oA] at h0) ?_
 rintro m2 s h ⟨x8,aK,hr2,hg⟩
 refine AB.ghost hg ?_
 clear hg hL2
 rw [oA] at hr2
 refine zz ?_
 refine AB.seq ?_
 refine zk hr2 rfl (fun h1 hr2 => ?_) (fun h1 hr2 => ?_)
 ·refine zz ?_
  refine AB.seq <| AB.block ?_
  obtain ⟨b8,h_2,hr2⟩ := aA hr2
  obtain ⟨bC,h_3,hr2⟩ := aA hr2
  refine zz ?_
  exact ⟨IntKind.i64.wrap (x8 + 1),bC,hr2,(zG [1])⟩
 ·refine zz ?_
  obtain rfl := sj hr2
  refine zz ?_
  exact hG1 _ _ _ _ (zG [0]) (J1 aK hr)
theorem q9 {N : Nat} {x : Int} {k : Int} {r : Int} (hr : iD N x k = some r) :
  Vm.Fn Tryz.prog 91 [] [(eI .u32 x),(eI .i64 k)] (eI .u32 r) [] := by
 refine zf Tryz.func91 Tryz.ntmps91 ?_
 unfold iD at hr
 obtain ⟨bX,h_1,hr⟩ := aA hr
 obtain ⟨x15,h_2,hr⟩ := aA hr
 refine zz ?_
 obtain rfl := sj hr
 exact bH Tryz.results91 []
theorem i5 {N : Nat} {x : Int} {vn : Int} {r : Int} (hr : cL N x vn = some r) :
  Vm.Fn Tryz.prog 86 [] [(eI .u32 x),(eI .i64 vn)] (eI .u32 r) [] := by
 refine zf Tryz.func86 Tryz.ntmps86 ?_
 unfold cL at hr
 obtain ⟨x8,h_1,hr⟩ := aA hr
 refine zz ?_
 refine xw (aGP rfl (aJk ..)) <| xp (q9 h_1) ?_
 refine zz ?_
 obtain rfl := sj hr
 exact bH Tryz.results86 []
theorem aD6 {N : Nat} {block : List Int} {r : (List Int)} (hr : mM N block = some r) :
  Vm.Fn Tryz.prog 85 [] [(.agg (block.map (eI .u8)))] (.agg (r.map (eI .u32))) [] := by
 refine zf Tryz.func85 Tryz.ntmps85 ?_
 unfold mM at hr
 refine zz ?_
 refine AB.seq_g fun K1 hK1 hG1 => ?_
 have J1 : ∀ (l1 : List Int),n6 N l1 = some r → K1 (aE 85 [(2,(.ptr 0 0)),(3,(.ptr 1 0))]) [some ⟨105,(List.replicate 64 0).map (eI .u32)⟩,some ⟨105,l1.map (eI .u32)⟩] := by
  intro l1 hr
  unfold n6 at hr
  refine hK1 _ _ ?_
  refine AB.seq_g fun K2 hK2 hG2 => ?_
  have J2 : ∀ (dV : List Int),nW N dV = some r → K2 (aE 85 [(2,(.ptr 0 0)),(3,(.ptr 1 0))]) [some ⟨105,(List.replicate 64 0).map (eI .u32)⟩,some ⟨105,dV.map (eI .u32)⟩] := by
   intro dV hr
   unfold nW at hr
   refine hK2 _ _ ?_
   obtain ⟨q,h_1,hr⟩ := aA hr
   refine zz ?_
   obtain rfl := sj hr
   exact eY Tryz.results85 aW (zG [])
  obtain ⟨tH,hL3,hr⟩ := aA hr
  refine zz ?_
  refine AB.block <| AB.loopN (fun m s h => ∃ (vi : Int) (l1_2 : List Int),fQ N m vi l1_2 = some tH ∧ Ghost 0 s h (aE 85 [(2,(.ptr 0 0)),(3,(.ptr 1 0)),(6,(eI .i64 vi))]) [some ⟨105,(List.replicate 64 0).map (eI .u32)⟩,some ⟨105,l1_2.map (eI .u32)⟩]) (n := N) ⟨16,l1,hL3,(zG [0,1])⟩ (by rintro s h ⟨_,_,h0,_⟩; simp [fQ] at h0) ?_
  rintro m3 s h ⟨vi,l1_2,hr3,hg⟩
  refine AB.ghost hg ?_
  clear hg hL3
  rw [fQ] at hr3
  refine AB.seq ?_
  refine zz ?_
  refine zk hr3 rfl (fun h2 hr3 => ?_) (fun h2 hr3 => ?_)
  ·refine zz ?_
   refine AB.seq <| AB.block <| AB.seq ?_
   obtain ⟨x37,h_3,hr3⟩ := aA hr3
   obtain ⟨x39,h_4,hr3⟩ := aA hr3
   obtain ⟨x44,h_6,hr3⟩ := aA hr3
   obtain ⟨x50,h_8,hr3⟩ := aA hr3
   refine AB.rs mixed [86] [] [[0,1,2,3,4,5,6,7,8,9,10,11,12,13,14,15,16,17]] ?_
   refine zz ?_
   refine xu (i5 h_4) ?_
   refine zz ?_
   refine xu (i5 h_6) ?_
   refine zz ?_
   refine AB.seq ?_
   obtain ⟨x54,h_9,hr3⟩ := aA hr3
   obtain ⟨x56,h_10,hr3⟩ := aA hr3
   obtain ⟨x61,h_12,hr3⟩ := aA hr3
   obtain ⟨x67,h_14,hr3⟩ := aA hr3
   refine AB.rs mixed [86] [] [[0,1,2,3,4,5,6,7,8,9,10,11,12,13,14,15,16,17]] ?_
   refine zz ?_
   refine xu (i5 h_10) ?_
   refine zz ?_
   refine xu (i5 h_12) ?_
   obtain ⟨x72,h_15,hr3⟩ := aA hr3
   obtain ⟨x78,h_16,hr3⟩ := aA hr3
   obtain ⟨x83,h_17,hr3⟩ := aA hr3
   refine zz ?_
   refine AB.rs mixed [] [] [[0,1,2,3,4,5,6,7,8,9,10,11,12,13,14,15]] ?_
   refine zz ?_
   exact ⟨IntKind.i64.wrap (vi + 1),l1_2.set (Int.toNat vi) (IntKind.u32.wrap ((IntKind.u32.wrap ((IntKind.u32.wrap (x72 + (bits .xor .u32 (bits .xor .u32 x39 x44) x50))) + x78)) + (bits .xor .u32 (bits .xor .u32 x56 x61) x67))),hr3,(zG [0,1])⟩
  ·refine zz ?_
   obtain rfl := sj hr3
   refine zz ?_
   exact hG2 _ _ _ _ (zG [0,1]) (J2 l1_2 hr)
 obtain ⟨res4,hL4,hr⟩ := aA hr
 refine zz ?_
 refine AB.block <| AB.loopN (fun m s h => ∃ (x9 : Int) (l2 : List Int),eT N block m x9 l2 = some res4 ∧ Ghost 0 s h (aE 85 [(1,(.ptr 0 0)),(2,(.ptr 1 0)),(3,(.ptr 2 0)),(9,(eI .i64 x9))]) [some ⟨93,block.map (eI .u8)⟩,some ⟨105,(List.replicate 64 0).map (eI .u32)⟩,some ⟨105,l2.map (eI .u32)⟩]) (n := N) ⟨0,List.replicate 64 0,hL4,(zG [0,1,2])⟩ (by rintro s h ⟨_,_,h0,_⟩; simp [eT] at h0) ?_
 rintro m4 s h ⟨x9,l2,hr4,hg⟩
 refine AB.ghost hg ?_
 clear hg hL4
 rw [eT] at hr4
 refine zz ?_
 refine AB.seq ?_
 refine zk hr4 rfl (fun h18 hr4 => ?_) (fun h18 hr4 => ?_)
 ·refine zz ?_
  refine AB.seq_g fun K5 hK5 hG5 => ?_
  have J5 : ∀ (fT : List Int),q8 N block x9 (eT N block m4) fT = some res4 → K5 (aE 85 [(1,(.ptr 0 0)),(2,(.ptr 1 0)),(3,(.ptr 2 0)),(9,(eI .i64 x9))]) [some ⟨93,block.map (eI .u8)⟩,some ⟨105,(List.replicate 64 0).map (eI .u32)⟩,some ⟨105,fT.map (eI .u32)⟩] := by
   intro fT hr4
   unfold q8 at hr4
   refine hK5 _ _ ?_
   refine zz ?_
   exact ⟨IntKind.i64.wrap (x9 + 1),fT,hr4,(zG [0,1,2])⟩
  refine AB.block ?_
  obtain ⟨res6,hL6,hr4⟩ := aA hr4
  refine zz ?_
  refine AB.block <| AB.loopN (fun m s h => ∃ (eE : Int) (gY : List Int),dB N block x9 m eE gY = some res6 ∧ Ghost 0 s h (aE 85 [(1,(.ptr 0 0)),(2,(.ptr 1 0)),(3,(.ptr 2 0)),(4,(eI .i64 x9)),(9,(eI .i64 x9)),(12,(eI .i64 eE))]) [some ⟨93,block.map (eI .u8)⟩,some ⟨105,(List.replicate 64 0).map (eI .u32)⟩,some ⟨105,gY.map (eI .u32)⟩]) (n := N) ⟨0,l2,hL6,(zG [0,1,2])⟩ (by rintro s h ⟨_,_,h0,_⟩; simp [dB] at h0) ?_
  rintro m6 s h ⟨eE,gY,hr6,hg⟩
  refine AB.ghost hg ?_
  clear hg hL6
  rw [dB] at hr6
  refine zz ?_
  refine AB.seq ?_
  refine zk hr6 rfl (fun h19 hr6 => ?_) (fun h19 hr6 => ?_)
  ·refine zz ?_
   refine AB.seq <| AB.block ?_
   obtain ⟨x17,h_20,hr6⟩ := aA hr6
   obtain ⟨x19,h_21,hr6⟩ := aA hr6
   obtain ⟨fO,h_22,hr6⟩ := aA hr6
   refine zz ?_
   refine AB.rs mixed [] [] [[0,1,2,3,4,5,6,7,8,9,10,11,12,13,14]] ?_
   refine zz ?_
   exact ⟨IntKind.i64.wrap (eE + 1),gY.set (Int.toNat x9) (bits .or .u32 x19 (IntKind.u32.wrap fO)),hr6,(zG [0,1,2])⟩
  ·refine zz ?_
   obtain rfl := sj hr6
   refine zz ?_
   exact hG5 _ _ _ _ (zG [0,1,2]) (J5 gY hr4)
 ·refine zz ?_
  obtain rfl := sj hr4
  refine zz ?_
  exact hG1 _ _ _ _ (zG [1,2]) (J1 l2 hr)
theorem aDH {N : Nat} {bY : List Int} {block : List Int} {r : (List Int)} (hr : jH N bY block = some r) :
  Vm.Fn Tryz.prog 71 [] [(.agg (bY.map (eI .u32))),(.agg (block.map (eI .u8)))] (.agg (r.map (eI .u32))) [] := by
 refine zf Tryz.func71 Tryz.ntmps71 ?_
 unfold jH at hr
 obtain ⟨q,h_1,hr⟩ := aA hr
 obtain ⟨x18,h_2,hr⟩ := aA hr
 obtain ⟨q_1,h_3,hr⟩ := aA hr
 refine zz ?_
 refine xp (aD6 h_2) ?_
 refine zz ?_
 refine AB.seq ?_
 obtain ⟨x19,h_4,hr⟩ := aA hr
 obtain ⟨dI,h_5,hr⟩ := aA hr
 obtain ⟨fN,h_6,hr⟩ := aA hr
 obtain ⟨x25,h_7,hr⟩ := aA hr
 refine AB.rs mixed [] [] [[0,1,2,3,4,5,6,7,8,9,10,11]] ?_
 refine zz ?_
 refine AB.seq ?_
 obtain ⟨x27,h_8,hr⟩ := aA hr
 obtain ⟨x29,h_9,hr⟩ := aA hr
 obtain ⟨dL,h_10,hr⟩ := aA hr
 obtain ⟨kY,h_11,hr⟩ := aA hr
 refine AB.rs mixed [] [] [[0,1,2,3,4,5,6,7,8,9,10,11]] ?_
 refine zz ?_
 refine AB.seq_g fun K1 hK1 hG1 => ?_
 have J1 : ∀ (va : Int) (b : Int) (c : Int) (d : Int) (ve : Int) (f : Int) (g : Int) (vh : Int),nD N bY va b c d ve f g vh = some r → K1 (aE 131 [(2,(.ptr 0 0)),(4,(.ptr 1 0)),(6,(eI .u32 va)),(7,(eI .u32 b)),(8,(eI .u32 c)),(9,(eI .u32 d)),(10,(eI .u32 ve)),(11,(eI .u32 f)),(12,(eI .u32 g)),(13,(eI .u32 vh))]) [some ⟨91,bY.map (eI .u32)⟩,some ⟨91,(List.replicate 8 0).map (eI .u32)⟩] := by
  intro va b c d ve f g vh hr
  unfold nD at hr
  refine hK1 _ _ ?_
  obtain ⟨x98,h_12,hr⟩ := aA hr
  obtain ⟨aE0,h_13,hr⟩ := aA hr
  obtain ⟨sB,h_14,hr⟩ := aA hr
  obtain ⟨aKH,h_15,hr⟩ := aA hr
  obtain ⟨aFj,h_16,hr⟩ := aA hr
  obtain ⟨yH,h_17,hr⟩ := aA hr
  obtain ⟨aKC,h_18,hr⟩ := aA hr
  obtain ⟨aCb,h_19,hr⟩ := aA hr
  refine zz ?_
  refine xw (v := (.agg ([IntKind.u32.wrap (x98 + va),IntKind.u32.wrap (aE0 + b),IntKind.u32.wrap (sB + c),IntKind.u32.wrap (aKH + d),IntKind.u32.wrap (aFj + ve),IntKind.u32.wrap (yH + f),IntKind.u32.wrap (aKC + g),IntKind.u32.wrap (aCb + vh)].map (eI .u32)))) (cF rfl (lO aFa aCl rfl)) ?_
  refine zz ?_
  obtain rfl := sj hr
  exact eY Tryz.results71 aW (zG [])
 obtain ⟨a9,hL2,hr⟩ := aA hr
 refine zz ?_
 refine AB.block <| AB.loopN (fun m s h => ∃ (va_1 : Int) (b_1 : Int) (c_1 : Int) (d_1 : Int) (ve_1 : Int) (f_1 : Int) (g_1 : Int) (vh_1 : Int) (x35 : Int),fR N bY x18 m va_1 b_1 c_1 d_1 ve_1 f_1 g_1 vh_1 x35 = some a9 ∧ Ghost 0 s h (aE 131 [(2,(.ptr 0 0)),(4,(.ptr 1 0)),(5,(.ptr 2 0)),(6,(eI .u32 va_1)),(7,(eI .u32 b_1)),(8,(eI .u32 c_1)),(9,(eI .u32 d_1)),(10,(eI .u32 ve_1)),(11,(eI .u32 f_1)),(12,(eI .u32 g_1)),(13,(eI .u32 vh_1)),(35,(eI .i64 x35))]) [some ⟨91,bY.map (eI .u32)⟩,some ⟨91,(List.replicate 8 0).map (eI .u32)⟩,some ⟨105,x18.map (eI .u32)⟩]) (n := N) ⟨x19,dI,fN,x25,x27,x29,dL,kY,0,hL2,(zG [0,2,3])⟩ (by rintro s h ⟨_,_,_,_,_,_,_,_,_,h0,_⟩; simp [fR] at h0) ?_
 rintro m2 s h ⟨va_1,b_1,c_1,d_1,ve_1,f_1,g_1,vh_1,x35,hr2,hg⟩
 refine AB.ghost hg ?_
 clear hg hL2
 rw [fR] at hr2
 refine zz ?_
 refine AB.seq ?_
 refine zk hr2 rfl (fun h20 hr2 => ?_) (fun h20 hr2 => ?_)
 ·refine zz ?_
  refine AB.seq <| AB.block ?_
  refine zz ?_
  refine AB.seq ?_
  obtain ⟨x40,h_21,hr2⟩ := aA hr2
  obtain ⟨x42,h_23,hr2⟩ := aA hr2
  obtain ⟨x45,h_25,hr2⟩ := aA hr2
  obtain ⟨x58,h_27,hr2⟩ := aA hr2
  obtain ⟨x62,h_28,hr2⟩ := aA hr2
  refine AB.rs mixed [86] [] [[0,1,2,3,4,5,6,7,8,9,10,11,12,13,14,15,16,17,18,19,20,21,22,23,24,25,26,27]] ?_
  refine zz ?_
  refine xu (i5 h_21) ?_
  refine zz ?_
  refine xu (i5 h_23) ?_
  refine zz ?_
  refine xu (i5 h_25) ?_
  refine zz ?_
  refine xw (v := (eI .u32 (bits .xor .u32 (IntKind.max .u32) ve_1))) (aGP rfl (aIe rfl _)) ?_
  refine zz ?_
  refine xw (v := (.eptr [(.agg (aAF.map (eI .u32)))] 0 (Int.toNat x35))) (yS rfl rfl (iaG aIA aCl rfl h_27)) <| xw (v := (eI .u32 x58)) (bO rfl (ldG (E := (eI .u32)) (y := x58) aCl rfl (m8 h_27))) ?_
  obtain ⟨x66,h_29,hr2⟩ := aA hr2
  obtain ⟨x68,h_30,hr2⟩ := aA hr2
  obtain ⟨x71,h_31,hr2⟩ := aA hr2
  refine zz ?_
  refine xp (i5 h_29) ?_
  refine zz ?_
  refine xp (i5 h_30) ?_
  refine zz ?_
  refine xp (i5 h_31) ?_
  refine zz ?_
  exact ⟨IntKind.u32.wrap ((IntKind.u32.wrap ((IntKind.u32.wrap ((IntKind.u32.wrap ((IntKind.u32.wrap (vh_1 + (bits .xor .u32 (bits .xor .u32 x40 x42) x45))) + (bits .xor .u32 (bits .and .u32 ve_1 f_1) (bits .and .u32 (bits .xor .u32 (IntKind.max .u32) ve_1) g_1)))) + x58)) + x62)) + (IntKind.u32.wrap ((bits .xor .u32 (bits .xor .u32 x66 x68) x71) + (bits .xor .u32 (bits .xor .u32 (bits .and .u32 va_1 b_1) (bits .and .u32 va_1 c_1)) (bits .and .u32 b_1 c_1))))),va_1,b_1,c_1,IntKind.u32.wrap (d_1 + (IntKind.u32.wrap ((IntKind.u32.wrap ((IntKind.u32.wrap ((IntKind.u32.wrap (vh_1 + (bits .xor .u32 (bits .xor .u32 x40 x42) x45))) + (bits .xor .u32 (bits .and .u32 ve_1 f_1) (bits .and .u32 (bits .xor .u32 (IntKind.max .u32) ve_1) g_1)))) + x58)) + x62))),ve_1,f_1,g_1,IntKind.i64.wrap (x35 + 1),hr2,(zG [0,1,2])⟩
 ·refine zz ?_
  obtain rfl := sj hr2
  refine zz ?_
  exact hG1 _ _ _ _ (zG [0,1]) (J1 va_1 b_1 c_1 d_1 ve_1 f_1 g_1 vh_1 hr)
theorem aBj {N : Nat} {b : List Int} {r : (List Int)} (hr : wL N b = some r) :
  Vm.Fn Tryz.prog 58 [] [(.row none 1 (b.map (eI .u8)))] (.agg (r.map (eI .u8))) [] := by
 refine zf Tryz.func58 Tryz.ntmps58 ?_
 unfold wL at hr
 obtain ⟨eE,h_1,hr⟩ := aA hr
 obtain ⟨bC,h_2,hr⟩ := aA hr
 refine zz ?_
 refine zc (aI1 h_1) [] ?_
 refine OpsX.ghost (zv 1) ?_
 refine zz ?_
 refine zcL (aD7 h_2) [] [2] ?_
 refine zz ?_
 refine xw (v := (.agg (tG.map (eI .u32)))) (bO rfl (aHi (E := (eI .u32)) (l := tG) aFa rfl rfl)) ?_
 refine zz ?_
 refine AB.seq_g fun K1 hK1 hG1 => ?_
 have J1 : ∀ (l1 : List Int),y4 N l1 = some r → K1 (aE 48 [(2,(.ptr 0 0)),(4,(.ptr 1 0))]) [some ⟨25,(List.replicate 32 0).map (eI .u8)⟩,some ⟨91,l1.map (eI .u32)⟩] := by
  intro l1 hr
  unfold y4 at hr
  refine hK1 _ _ ?_
  refine zz ?_
  refine AB.seq_g fun K2 hK2 hG2 => ?_
  have J2 : ∀ (dV : List Int),yX N dV = some r → K2 (aE 48 [(2,(.ptr 0 0)),(6,(.ptr 1 0))]) [some ⟨25,(List.replicate 32 0).map (eI .u8)⟩,some ⟨25,dV.map (eI .u8)⟩] := by
   intro dV hr
   unfold yX at hr
   refine hK2 _ _ ?_
   obtain ⟨q,h_3,hr⟩ := aA hr
   refine zz ?_
   obtain rfl := sj hr
   exact eY Tryz.results58 aW (zG [])
  obtain ⟨tH,hL3,hr⟩ := aA hr
  refine zz ?_
  refine AB.block <| AB.loopN (fun m s h => ∃ (dL : Int) (l2 : List Int),qB N l1 m dL l2 = some tH ∧ Ghost 0 s h (aE 48 [(2,(.ptr 0 0)),(4,(.ptr 1 0)),(6,(.ptr 2 0)),(31,(eI .i64 dL))]) [some ⟨25,(List.replicate 32 0).map (eI .u8)⟩,some ⟨91,l1.map (eI .u32)⟩,some ⟨25,l2.map (eI .u8)⟩]) (n := N) ⟨0,List.replicate 32 0,hL3,(zG [0,1,2])⟩ (by rintro s h ⟨_,_,h0,_⟩; simp [qB] at h0) ?_
  rintro m3 s h ⟨dL,l2,hr3,hg⟩
  refine AB.ghost hg ?_
  clear hg hL3
  rw [qB] at hr3
  refine zz ?_
  refine AB.seq ?_
  refine zk hr3 rfl (fun h4 hr3 => ?_) (fun h4 hr3 => ?_)
  ·refine zz ?_
   refine AB.seq <| AB.block ?_
   obtain ⟨x37,h_5,hr3⟩ := aA hr3
   obtain ⟨x43,h_6,hr3⟩ := aA hr3
   obtain ⟨x45,h_7,hr3⟩ := aA hr3
   refine zz ?_
   exact ⟨IntKind.i64.wrap (dL + 1),l2.set (Int.toNat dL) (IntKind.u8.wrap x43),hr3,(zG [0,1,2])⟩
  ·refine zz ?_
   obtain rfl := sj hr3
   refine zz ?_
   exact hG2 _ _ _ _ (zG [0,2]) (J2 l2 hr)
 refine zz ?_
 refine AB.ghost (zv 3) ?_
 obtain ⟨res4,hL4,hr⟩ := aA hr
 refine AB.block <| AB.loopN (fun m s h => ∃ (x19 : Int) (l1_2 : List Int),pX N bC m x19 l1_2 = some res4 ∧ Ghost 0 s h (aE 48 [(2,(.ptr 0 0)),(3,(.row none 1 (bC.map (eI .u8)))),(4,(.ptr 1 0)),(18,(eI .i64 (IntKind.i64.wrap (Int.tdiv (bC.length : Int) 64)))),(19,(eI .i64 x19))]) [some ⟨25,(List.replicate 32 0).map (eI .u8)⟩,some ⟨91,l1_2.map (eI .u32)⟩]) (n := N) ⟨0,tG,hL4,(zG [0,4])⟩ (by rintro s h ⟨_,_,h0,_⟩; simp [pX] at h0) ?_
 rintro m4 s h ⟨x19,l1_2,hr4,hg⟩
 refine AB.ghost hg ?_
 clear hg hL4
 rw [pX] at hr4
 refine zz ?_
 refine AB.seq ?_
 refine zk hr4 rfl (fun h8 hr4 => ?_) (fun h8 hr4 => ?_)
 ·refine zz ?_
  refine AB.seq <| AB.block ?_
  obtain ⟨q_1,h_9,hr4⟩ := aA hr4
  obtain ⟨x26,h_10,hr4⟩ := aA hr4
  obtain ⟨x27,h_11,hr4⟩ := aA hr4
  obtain ⟨x29,h_12,hr4⟩ := aA hr4
  obtain ⟨q_2,h_14,hr4⟩ := aA hr4
  refine zz ?_
  refine AB.rs mixed [71] [] [[0,1,2,3,4,5,6,7,8]] ?_
  refine zz ?_
  refine xw (v := (.eptr [.agg (x27.map (eI .u8))] 0 0)) (aBo rfl (apR (E := (eI .u8)) aKv (fun _ => rfl) zl h_11)) <| xw (v := (.agg (x27.map (eI .u8)))) (bO rfl (aHi (E := (eI .u8)) (l := x27) aKv rfl (bW h_11))) <| xu (aDH h_12) ?_
  refine zz ?_
  exact ⟨IntKind.i64.wrap (x19 + 1),x29,hr4,(zG [0,1])⟩
 ·refine zz ?_
  obtain rfl := sj hr4
  refine zz ?_
  exact hG1 _ _ _ _ (zG [0,1]) (J1 l1_2 hr)
theorem oX {N : Nat} {vh : List Int} {r : (List Int)} (hr : dY N vh = some r) :
  Vm.Fn Tryz.prog 87 [] [(.agg (vh.map (eI .u8)))] (.agg (r.map (eI .u64))) [] := by
 refine zf Tryz.func87 Tryz.ntmps87 ?_
 unfold dY at hr
 refine zz ?_
 refine AB.seq_g fun K1 hK1 hG1 => ?_
 have J1 : ∀ (l1 : List Int),lN N l1 = some r → K1 (aE 26 [(2,(.ptr 0 0)),(3,(.ptr 1 0))]) [some ⟨96,(List.replicate 4 0).map (eI .u64)⟩,some ⟨96,l1.map (eI .u64)⟩] := by
  intro l1 hr
  unfold lN at hr
  refine hK1 _ _ ?_
  obtain ⟨q,h_1,hr⟩ := aA hr
  refine zz ?_
  obtain rfl := sj hr
  exact eY Tryz.results87 aW (zG [])
 obtain ⟨q_1,h_2,hr⟩ := aA hr
 obtain ⟨a9,hL2,hr⟩ := aA hr
 refine zz ?_
 refine AB.block <| AB.loopN (fun m s h => ∃ (x8 : Int) (dV : List Int),eM N vh m x8 dV = some a9 ∧ Ghost 0 s h (aE 26 [(2,(.ptr 0 0)),(3,(.ptr 1 0)),(7,(.agg (vh.map (eI .u8)))),(8,(eI .i64 x8))]) [some ⟨96,(List.replicate 4 0).map (eI .u64)⟩,some ⟨96,dV.map (eI .u64)⟩]) (n := N) ⟨0,List.replicate 4 0,hL2,(zG [1,2])⟩ (by rintro s h ⟨_,_,h0,_⟩; simp [eM] at h0) ?_
 rintro m2 s h ⟨x8,dV,hr2,hg⟩
 refine AB.ghost hg ?_
 clear hg hL2
 rw [eM] at hr2
 refine zz ?_
 refine AB.seq ?_
 refine zk hr2 rfl (fun h3 hr2 => ?_) (fun h3 hr2 => ?_)
 ·refine zz ?_
  refine AB.seq <| AB.block ?_
  obtain ⟨bX,h_4,hr2⟩ := aA hr2
  refine zz ?_
  refine xw (v := (eI .u8 bX)) (aKb rfl rfl (ixA (E := (eI .u8)) yO cZ rfl rfl h_4)) ?_
  obtain ⟨x17,h_5,hr2⟩ := aA hr2
  obtain ⟨x19,h_6,hr2⟩ := aA hr2
  refine zz ?_
  exact ⟨IntKind.i64.wrap (x8 + 1),dV.set (Int.toNat (IntKind.i64.wrap (3 - (IntKind.i64.wrap (Int.tdiv x8 8))))) (bits .or .u64 x19 (IntKind.u64.wrap bX)),hr2,(zG [0,1])⟩
 ·refine zz ?_
  obtain rfl := sj hr2
  refine zz ?_
  exact hG1 _ _ _ _ (zG [0,1]) (J1 dV hr)
theorem mE {N : Nat} {vn : Int} {r : (List Int)} (hr : d5 N vn = some r) :
  Vm.Fn Tryz.prog 103 [] [(eI .u64 vn)] (.agg (r.map (eI .u64))) [] := by
 refine zf Tryz.func103 Tryz.ntmps103 ?_
 unfold d5 at hr
 refine zz ?_
 refine xw (v := (.agg ([vn,0,0,0].map (eI .u64)))) (cF rfl (lO bV j7 rfl)) ?_
 refine zz ?_
 obtain rfl := sj hr
 exact eY Tryz.results103 aW (zG [])
theorem aAi {N : Nat} {r : (List Int)} (hr : m9 N = some r) :
  Vm.Fn Tryz.prog 120 [] [] (.agg (r.map (eI .u64))) [] := by
 refine zf Tryz.func120 Tryz.ntmps120 ?_
 unfold m9 at hr
 refine zz ?_
 refine xw (v := (.agg ([18446744073709515503,18446744073709551615,18446744073709551615,18446744073709551615].map (eI .u64)))) (cF rfl (lO bV j7 rfl)) ?_
 refine zz ?_
 obtain rfl := sj hr
 exact eY Tryz.results120 aW (zG [])
theorem qN {N : Nat} {va : List Int} {b : List Int} {r : Int} (hr : lK N va b = some r) :
  Vm.Fn Tryz.prog 119 [] [(.agg (va.map (eI .u64))),(.agg (b.map (eI .u64)))] (eI .i64 r) [] := by
 refine zf Tryz.func119 Tryz.ntmps119 ?_
 unfold lK at hr
 refine zz ?_
 refine AB.seq_g fun K1 hK1 hG1 => ?_
 have J1 : xM N = some r → K1 (aE 24 []) [] := by
  intro hr
  unfold xM at hr
  refine hK1 _ _ ?_
  refine zz ?_
  obtain rfl := sj hr
  exact bH Tryz.results119 []
 obtain ⟨a9,hL2,hr⟩ := aA hr
 refine zz ?_
 refine AB.block <| AB.loopN (fun m s h => ∃ (vi : Int),kN N va b m vi = some a9 ∧ Ghost 0 s h (aE 24 [(2,(.ptr 0 0)),(3,(.ptr 1 0)),(5,(eI .i64 vi))]) [some ⟨96,va.map (eI .u64)⟩,some ⟨96,b.map (eI .u64)⟩]) (n := N) ⟨3,hL2,(zG [0,1])⟩ (by rintro s h ⟨_,h0,_⟩; simp [kN] at h0) ?_
 rintro m2 s h ⟨vi,hr2,hg⟩
 refine AB.ghost hg ?_
 clear hg hL2
 rw [kN] at hr2
 refine AB.seq ?_
 refine zz ?_
 refine zk hr2 rfl (fun h1 hr2 => ?_) (fun h1 hr2 => ?_)
 ·refine zz ?_
  refine AB.seq <| AB.block <| AB.seq <| AB.seq ?_
  obtain ⟨bX,h_2,hr2⟩ := aA hr2
  obtain ⟨bC,h_3,hr2⟩ := aA hr2
  refine AB.rs mixed [] [] [[0,1,2,3,4,5,6]] ?_
  refine zz ?_
  refine zk hr2 rfl (fun h4 hr2 => ?_) (fun h4 hr2 => ?_)
  ·refine zz ?_
   obtain rfl := sj hr2
   obtain rfl := sj hr
   exact bH Tryz.results119 []
  ·refine zz ?_
   refine AB.seq <| AB.rs mixed [] [] [[0,1,2,3,4,5,6]] ?_
   refine zz ?_
   refine zk hr2 rfl (fun h5 hr2 => ?_) (fun h5 hr2 => ?_)
   ·refine zz ?_
    obtain rfl := sj hr2
    obtain rfl := sj hr
    exact bH Tryz.results119 []
   ·refine zz ?_
    exact ⟨IntKind.i64.wrap (vi - 1),hr2,(zG [0,1])⟩
 ·refine zz ?_
  obtain rfl := sj hr2
  refine zz ?_
  exact hG1 _ _ _ _ (zG []) (J1 hr)
theorem sQ {N : Nat} {r : (List Int)} (hr : lX N = some r) :
  Vm.Fn Tryz.prog 107 [] [] (.agg (r.map (eI .u64))) [] := by
 refine zf Tryz.func107 Tryz.ntmps107 ?_
 unfold lX at hr
 refine zz ?_
 refine xw (v := (.agg ([18446744073709533559,18446744073709551615,18446744073709551615,9223372036854775807].map (eI .u64)))) (cF rfl (lO bV j7 rfl)) ?_
 refine zz ?_
 obtain rfl := sj hr
 exact eY Tryz.results107 aW (zG [])
theorem aCu {N : Nat} {x : Int} {r : Int} (hr : oE N x = some r) :
  Vm.Fn Tryz.prog 134 [] [(eI .u64 x)] (eI .i64 r) [] := by
 refine zf Tryz.func134 Tryz.ntmps134 ?_
 unfold oE at hr
 refine zz ?_
 refine AB.seq_g fun K1 hK1 hG1 => ?_
 have J1 : ∀ (x_1 : Int) (vn : Int),iT N x_1 vn = some r → K1 (aE 25 [(0,(eI .u64 x_1)),(2,(eI .i64 vn))]) [] := by
  intro x_1 vn hr
  unfold iT at hr
  refine hK1 _ _ ?_
  refine AB.seq_g fun K2 hK2 hG2 => ?_
  have J2 : ∀ (x_2 : Int) (cX : Int),iY N x_2 cX = some r → K2 (aE 25 [(0,(eI .u64 x_2)),(2,(eI .i64 cX))]) [] := by
   intro x_2 cX hr
   unfold iY at hr
   refine hK2 _ _ ?_
   refine AB.seq_g fun K3 hK3 hG3 => ?_
   have J3 : ∀ (x_3 : Int) (yN : Int),gH N x_3 yN = some r → K3 (aE 25 [(0,(eI .u64 x_3)),(2,(eI .i64 yN))]) [] := by
    intro x_3 yN hr
    unfold gH at hr
    refine hK3 _ _ ?_
    obtain ⟨bN,h_1,hr⟩ := aA hr
    refine zz ?_
    refine xw (v := (eI .u8 bN)) (aKb rfl rfl (ixT ti9 h_1)) ?_
    refine zz ?_
    obtain rfl := sj hr
    exact bH Tryz.results134 []
   refine zz ?_
   refine zk hr rfl (fun h2 hr => ?_) (fun h2 hr => ?_)
   ·obtain ⟨x16,h_3,hr⟩ := aA hr
    refine zz ?_
    exact hG3 _ _ _ _ (zG []) (J3 x16 (IntKind.i64.wrap (cX + 8)) hr)
   ·refine zz ?_
    exact hG3 _ _ _ _ (zG []) (J3 x_2 cX hr)
  refine zz ?_
  refine zk hr rfl (fun h4 hr => ?_) (fun h4 hr => ?_)
  ·obtain ⟨b8,h_5,hr⟩ := aA hr
   refine zz ?_
   exact hG2 _ _ _ _ (zG []) (J2 b8 (IntKind.i64.wrap (vn + 16)) hr)
  ·refine zz ?_
   exact hG2 _ _ _ _ (zG []) (J2 x_1 vn hr)
 refine zz ?_
 refine zk hr rfl (fun h6 hr => ?_) (fun h6 hr => ?_)
 ·obtain ⟨x6,h_7,hr⟩ := aA hr
  refine zz ?_
  exact hG1 _ _ _ _ (zG []) (J1 x6 32 hr)
 ·refine zz ?_
  exact hG1 _ _ _ _ (zG []) (J1 x 0 hr)
theorem aHJ {N : Nat} {va : List Int} {r : Int} (hr : zZ N va = some r) :
  Vm.Fn Tryz.prog 122 [] [(.agg (va.map (eI .u64)))] (eI .i64 r) [] := by
 refine zf Tryz.func122 Tryz.ntmps122 ?_
 unfold zZ at hr
 refine zz ?_
 refine AB.seq_g fun K1 hK1 hG1 => ?_
 have J1 : wX N = some r → K1 (aE 19 []) [] := by
  intro hr
  unfold wX at hr
  refine hK1 _ _ ?_
  refine zz ?_
  obtain rfl := sj hr
  exact bH Tryz.results122 []
 obtain ⟨a9,hL2,hr⟩ := aA hr
 refine zz ?_
 refine AB.block <| AB.loopN (fun m s h => ∃ (vi : Int),oQ N va m vi = some a9 ∧ Ghost 0 s h (aE 19 [(1,(.ptr 0 0)),(3,(eI .i64 vi))]) [some ⟨96,va.map (eI .u64)⟩]) (n := N) ⟨3,hL2,(zG [0])⟩ (by rintro s h ⟨_,h0,_⟩; simp [oQ] at h0) ?_
 rintro m2 s h ⟨vi,hr2,hg⟩
 refine AB.ghost hg ?_
 clear hg hL2
 rw [oQ] at hr2
 refine AB.seq ?_
 refine zz ?_
 refine zk hr2 rfl (fun h1 hr2 => ?_) (fun h1 hr2 => ?_)
 ·refine zz ?_
  refine AB.seq <| AB.block ?_
  obtain ⟨x9,h_2,hr2⟩ := aA hr2
  refine zz ?_
  refine zk hr2 rfl (fun h3 hr2 => ?_) (fun h3 hr2 => ?_)
  ·obtain ⟨x17,h_4,hr2⟩ := aA hr2
   refine zz ?_
   refine xp (aCu h_4) ?_
   refine zz ?_
   obtain rfl := sj hr2
   obtain rfl := sj hr
   exact bH Tryz.results122 []
  ·refine zz ?_
   exact ⟨IntKind.i64.wrap (vi - 1),hr2,(zG [0])⟩
 ·refine zz ?_
  obtain rfl := sj hr2
  refine zz ?_
  exact hG1 _ _ _ _ (zG []) (J1 hr)
theorem yF {N : Nat} {x : Int} {y : Int} {r : Int × Int} (hr : i9 N x y = some r) :
  Vm.Fn Tryz.prog 127 [] [(eI .u64 x),(eI .u64 y)] (.tup [(eI .u64 r.1),(eI .u64 r.2)]) [] := by
 refine zf Tryz.func127 Tryz.ntmps127 ?_
 unfold i9 at hr
 obtain ⟨x17,h_1,hr⟩ := aA hr
 obtain ⟨dI,h_2,hr⟩ := aA hr
 obtain ⟨x29,h_3,hr⟩ := aA hr
 obtain ⟨e8,h_4,hr⟩ := aA hr
 obtain ⟨x46,h_5,hr⟩ := aA hr
 refine zz ?_
 obtain rfl := sj hr
 exact v5 Tryz.results127 []
theorem iU {N : Nat} {x y c : Int} {r : Int × Int} (hr : cS N x y c = some r) : Vm.Fn Tryz.prog 128 [] [(eI .u64 x),(eI .u64 y),(eI .u64 c)] (.tup [(eI .u64 r.1),(eI .u64 r.2)]) [] :=
 aKh Tryz.func128 (by kernel_rfl) (by kernel_rfl) (by kernel_rfl) (by kernel_rfl) hr
theorem aHT {N : Nat} {va : List Int} {b : List Int} {r : (List Int) × (List Int)} (hr : uL N va b = some r) :
  Vm.Fn Tryz.prog 131 [] [(.agg (va.map (eI .u64))),(.agg (b.map (eI .u64)))] (.tup [(.agg (r.1.map (eI .u64))),(.agg (r.2.map (eI .u64)))]) [] := by
 refine zf Tryz.func131 Tryz.ntmps131 ?_
 unfold uL at hr
 refine zz ?_
 refine AB.seq_g fun K1 hK1 hG1 => ?_
 have J1 : ∀ (l2 : List Int),tM N l2 = some r → K1 (aE 69 [(4,(.ptr 0 0)),(5,(.ptr 1 0)),(6,(.ptr 2 0))]) [some ⟨96,(List.replicate 4 0).map (eI .u64)⟩,some ⟨96,(List.replicate 4 0).map (eI .u64)⟩,some ⟨131,l2.map (eI .u64)⟩] := by
  intro l2 hr
  unfold tM at hr
  refine hK1 _ _ <| AB.seq ?_
  obtain ⟨q,h_1,hr⟩ := aA hr
  obtain ⟨x63,h_2,hr⟩ := aA hr
  obtain ⟨x64,h_3,hr⟩ := aA hr
  obtain ⟨x66,h_4,hr⟩ := aA hr
  obtain ⟨x67,h_5,hr⟩ := aA hr
  refine AB.rd (eC []) (eC []) mixed <| DrawG.pick (n := 7) (i := 0) (by decide +kernel) rfl (gS (v := (.sl 2 (Int.toNat 4 * 1) x63.length 1 false)) (sv (b5 rfl rfl rfl (aGS (E := (eI .u64)) (l := l2) aCE j7 rfl rfl rfl (aV h_1) zl rfl rfl h_2)))) <| DrawG.pick (n := 6) (i := 1) (by decide +kernel) rfl (gS (v := (.ptr 2 (Int.toNat 4 * 1))) (sv (aBo rfl (apS bV zl rfl h_3)))) <| DrawG.pick (n := 5) (i := 2) (by decide +kernel) rfl (gS (v := (.agg (x64.map (eI .u64)))) (sv (bO rfl (aI3 (E := (eI .u64)) (l := l2) bV rfl rfl h_2 h_3)))) ?_
  refine DrawG.jn (m := 1) (L := lst [0,1,2,3,4,5,6] 8) (s1 := aE 69 [(4,(.ptr 0 0)),(5,(.ptr 1 0)),(68,(.agg (x67.map (eI .u64))))]) (h1 := [some ⟨96,x64.map (eI .u64)⟩,some ⟨96,(List.replicate 4 0).map (eI .u64)⟩]) ?_ (fun J => ?_)
  ·refine DrawG.pick (n := 0) (i := 7) (by decide +kernel) rfl (gN (h' := [some ⟨96,x64.map (eI .u64)⟩,some ⟨96,x67.map (eI .u64)⟩]) (sv (aY rfl rfl (tK (E := (eI .u64)) (l := List.replicate 4 0) bV rfl rfl (fun _ => rfl) rfl (bW h_5) rfl)))) <| DrawG.nil (by decide +kernel) ?_
   refine zz ?_
   obtain rfl := sj hr
   exact nQ Tryz.results131 aW aW (lT [])
  ·refine DrawG.fork (n := 4) [3,6] (by decide +kernel) (by decide) ?_
   refine (Fork.cons rfl (gS (v := (.sl 2 (Int.toNat 0 * 1) x66.length 1 false)) (sv (b5 rfl rfl rfl (aGS (E := (eI .u64)) (l := l2) aCE j7 rfl rfl rfl (aV h_1) zl rfl rfl h_4)))) ?_ (Fork.cons rfl (gN (h' := [some ⟨96,x64.map (eI .u64)⟩,some ⟨96,(List.replicate 4 0).map (eI .u64)⟩,some ⟨131,l2.map (eI .u64)⟩]) (sv (aY rfl rfl (tK (E := (eI .u64)) (l := List.replicate 4 0) bV rfl rfl (fun _ => rfl) rfl (bW h_3) rfl)))) ?_ Fork.nil))
   ·refine DrawG.pick (n := 3) (i := 4) (by decide +kernel) rfl (gS (v := (.ptr 2 (Int.toNat 0 * 1))) (sv (aBo rfl (apS bV zl rfl h_5)))) <| DrawG.fork (n := 2) [5,6] (by decide +kernel) (by decide) ?_
    refine (Fork.cons rfl (gS (v := (.agg (x67.map (eI .u64)))) (sv (bO rfl (aI3 (E := (eI .u64)) (l := l2) bV rfl rfl h_4 h_5)))) ?_ (Fork.cons rfl (gN (h' := [some ⟨96,x64.map (eI .u64)⟩,some ⟨96,(List.replicate 4 0).map (eI .u64)⟩,some ⟨131,l2.map (eI .u64)⟩]) (sv (aY rfl rfl (tK (E := (eI .u64)) (l := List.replicate 4 0) bV rfl rfl (fun _ => rfl) rfl (bW h_3) rfl)))) ?_ Fork.nil))
    ·refine DrawG.pick (n := 1) (i := 6) (by decide +kernel) rfl (gN (h' := [some ⟨96,x64.map (eI .u64)⟩,some ⟨96,(List.replicate 4 0).map (eI .u64)⟩,some ⟨131,l2.map (eI .u64)⟩]) (sv (aY rfl rfl (tK (E := (eI .u64)) (l := List.replicate 4 0) bV rfl rfl (fun _ => rfl) rfl (bW h_3) rfl)))) ?_
     exact DrawG.jg (by decide +kernel) (by decide +kernel) (zG [0,1]) J
    ·refine DrawG.pick (n := 1) (i := 5) (by decide +kernel) rfl (gS (v := (.agg (x67.map (eI .u64)))) (sv (bO rfl (aI3 (E := (eI .u64)) (l := l2) bV rfl rfl h_4 h_5)))) ?_
     exact DrawG.jg (by decide +kernel) (by decide +kernel) (zG [0,1]) J
   ·refine DrawG.pick (n := 3) (i := 3) (by decide +kernel) rfl (gS (v := (.sl 2 (Int.toNat 0 * 1) x66.length 1 false)) (sv (b5 rfl rfl rfl (aGS (E := (eI .u64)) (l := l2) aCE j7 rfl rfl rfl (aV h_1) zl rfl rfl h_4)))) <| DrawG.pick (n := 2) (i := 4) (by decide +kernel) rfl (gS (v := (.ptr 2 (Int.toNat 0 * 1))) (sv (aBo rfl (apS bV zl rfl h_5)))) <| DrawG.pick (n := 1) (i := 5) (by decide +kernel) rfl (gS (v := (.agg (x67.map (eI .u64)))) (sv (bO rfl (aI3 (E := (eI .u64)) (l := l2) bV rfl rfl h_4 h_5)))) ?_
    exact DrawG.jg (by decide +kernel) (by decide +kernel) (zG [0,1]) J
 obtain ⟨a9,hL2,hr⟩ := aA hr
 refine zz ?_
 refine AB.block <| AB.loopN (fun m s h => ∃ (bC : Int) (l4 : List Int),iF N va b m bC l4 = some a9 ∧ Ghost 0 s h (aE 69 [(2,(.ptr 0 0)),(3,(.ptr 1 0)),(4,(.ptr 2 0)),(5,(.ptr 3 0)),(6,(.ptr 4 0)),(14,(eI .i64 bC))]) [some ⟨96,va.map (eI .u64)⟩,some ⟨96,b.map (eI .u64)⟩,some ⟨96,(List.replicate 4 0).map (eI .u64)⟩,some ⟨96,(List.replicate 4 0).map (eI .u64)⟩,some ⟨131,l4.map (eI .u64)⟩]) (n := N) ⟨0,List.replicate 8 0,hL2,(zG [0,1,2,3,4])⟩ (by rintro s h ⟨_,_,h0,_⟩; simp [iF] at h0) ?_
 rintro m2 s h ⟨bC,l4,hr2,hg⟩
 refine AB.ghost hg ?_
 clear hg hL2
 rw [iF] at hr2
 refine zz ?_
 refine AB.seq ?_
 refine zk hr2 rfl (fun h6 hr2 => ?_) (fun h6 hr2 => ?_)
 ·refine zz ?_
  refine AB.seq_g fun K3 hK3 hG3 => ?_
  have J3 : ∀ (oZ : List Int),t5 N va b bC (iF N va b m2) oZ = some a9 → K3 (aE 69 [(2,(.ptr 0 0)),(3,(.ptr 1 0)),(4,(.ptr 2 0)),(5,(.ptr 3 0)),(6,(.ptr 4 0)),(14,(eI .i64 bC))]) [some ⟨96,va.map (eI .u64)⟩,some ⟨96,b.map (eI .u64)⟩,some ⟨96,(List.replicate 4 0).map (eI .u64)⟩,some ⟨96,(List.replicate 4 0).map (eI .u64)⟩,some ⟨131,oZ.map (eI .u64)⟩] := by
   intro oZ hr2
   unfold t5 at hr2
   refine hK3 _ _ ?_
   refine zz ?_
   exact ⟨IntKind.i64.wrap (bC + 1),oZ,hr2,(zG [0,1,2,3,4])⟩
  refine AB.block ?_
  refine zz ?_
  refine AB.seq_g fun K4 hK4 hG4 => ?_
  have J4 : ∀ (iO : Int) (uG : List Int),t4 N va b bC (iF N va b m2) iO uG = some a9 → K4 (aE 69 [(2,(.ptr 0 0)),(3,(.ptr 1 0)),(4,(.ptr 2 0)),(5,(.ptr 3 0)),(6,(.ptr 4 0)),(7,(eI .i64 bC)),(8,(eI .u64 iO)),(14,(eI .i64 bC))]) [some ⟨96,va.map (eI .u64)⟩,some ⟨96,b.map (eI .u64)⟩,some ⟨96,(List.replicate 4 0).map (eI .u64)⟩,some ⟨96,(List.replicate 4 0).map (eI .u64)⟩,some ⟨131,uG.map (eI .u64)⟩] := by
   intro iO uG hr2
   unfold t4 at hr2
   refine hK4 _ _ ?_
   obtain ⟨x61,h_7,hr2⟩ := aA hr2
   refine zz ?_
   exact hG3 _ _ _ _ (zG [0,1,2,3,4]) (J3 (uG.set (Int.toNat (IntKind.i64.wrap (bC + 4))) iO) hr2)
  obtain ⟨res5,hL5,hr2⟩ := aA hr2
  refine zz ?_
  refine AB.block <| AB.loopN (fun m s h => ∃ (carry_1 : Int) (x17 : Int) (l4_3 : List Int),b9 N va b bC m carry_1 x17 l4_3 = some res5 ∧ Ghost 0 s h (aE 69 [(2,(.ptr 0 0)),(3,(.ptr 1 0)),(4,(.ptr 2 0)),(5,(.ptr 3 0)),(6,(.ptr 4 0)),(7,(eI .i64 bC)),(8,(eI .u64 carry_1)),(14,(eI .i64 bC)),(17,(eI .i64 x17))]) [some ⟨96,va.map (eI .u64)⟩,some ⟨96,b.map (eI .u64)⟩,some ⟨96,(List.replicate 4 0).map (eI .u64)⟩,some ⟨96,(List.replicate 4 0).map (eI .u64)⟩,some ⟨131,l4_3.map (eI .u64)⟩]) (n := N) ⟨0,0,l4,hL5,(zG [0,1,2,3,4])⟩ (by rintro s h ⟨_,_,_,h0,_⟩; simp [b9] at h0) ?_
  rintro m5 s h ⟨carry_1,x17,l4_3,hr5,hg⟩
  refine AB.ghost hg ?_
  clear hg hL5
  rw [b9] at hr5
  refine zz ?_
  refine AB.seq ?_
  refine zk hr5 rfl (fun h8 hr5 => ?_) (fun h8 hr5 => ?_)
  ·refine zz ?_
   refine AB.seq <| AB.block ?_
   refine zz ?_
   refine AB.seq ?_
   obtain ⟨bN,h_9,hr5⟩ := aA hr5
   obtain ⟨x25,h_10,hr5⟩ := aA hr5
   obtain ⟨x27,h_11,hr5⟩ := aA hr5
   refine AB.rs mixed [127] [] [[0,1,2,3,4,5,6,7,8,9,10,11]] ?_
   refine zz ?_
   refine xu (yF h_11) ?_
   obtain ⟨x35,h_13,hr5⟩ := aA hr5
   obtain ⟨x37,h_14,hr5⟩ := aA hr5
   refine zz ?_
   refine xp (iU h_14) ?_
   obtain ⟨x46,h_15,hr5⟩ := aA hr5
   refine zz ?_
   refine xp (iU h_15) ?_
   refine zz ?_
   exact ⟨IntKind.u64.wrap ((IntKind.u64.wrap (x27.1 + x37.2)) + x46.2),IntKind.i64.wrap (x17 + 1),l4_3.set (Int.toNat (IntKind.i64.wrap (bC + x17))) x46.1,hr5,(zG [0,1,2,3,4])⟩
  ·refine zz ?_
   obtain rfl := sj hr5
   refine zz ?_
   exact hG4 _ _ _ _ (zG [0,1,2,3,4]) (J4 carry_1 l4_3 hr2)
 ·refine zz ?_
  obtain rfl := sj hr2
  refine zz ?_
  exact hG1 _ _ _ _ (zG [2,3,4]) (J1 l4 hr)
theorem aAW {N : Nat} {va : List Int} {low : Int} {r : (List Int) × Int} (hr : oM N va low = some r) :
  Vm.Fn Tryz.prog 136 [] [(.agg (va.map (eI .u64))),(eI .u64 low)] (.tup [(.agg (r.1.map (eI .u64))),(eI .u64 r.2)]) [] := by
 refine zf Tryz.func136 Tryz.ntmps136 ?_
 unfold oM at hr
 refine zz ?_
 refine AB.seq_g fun K1 hK1 hG1 => ?_
 have J1 : ∀ (aD3 : Int) (l0 : List Int),s7 N aD3 l0 = some r → K1 (aE 25 [(1,(eI .u64 aD3)),(2,(.ptr 0 0)),(4,(.ptr 1 0))]) [some ⟨96,l0.map (eI .u64)⟩,some ⟨96,(List.replicate 4 0).map (eI .u64)⟩] := by
  intro aD3 l0 hr
  unfold s7 at hr
  refine hK1 _ _ ?_
  obtain ⟨q,h_1,hr⟩ := aA hr
  refine zz ?_
  obtain rfl := sj hr
  exact nQ Tryz.results136 aW aW (lT [])
 obtain ⟨a9,hL2,hr⟩ := aA hr
 refine zz ?_
 refine AB.block <| AB.loopN (fun m s h => ∃ (low_2 : Int) (x7 : Int) (aK : List Int),kK N m low_2 x7 aK = some a9 ∧ Ghost 0 s h (aE 25 [(1,(eI .u64 low_2)),(2,(.ptr 0 0)),(4,(.ptr 1 0)),(7,(eI .i64 x7))]) [some ⟨96,aK.map (eI .u64)⟩,some ⟨96,(List.replicate 4 0).map (eI .u64)⟩]) (n := N) ⟨low,0,va,hL2,(zG [0,1])⟩ (by rintro s h ⟨_,_,_,h0,_⟩; simp [kK] at h0) ?_
 rintro m2 s h ⟨low_2,x7,aK,hr2,hg⟩
 refine AB.ghost hg ?_
 clear hg hL2
 rw [kK] at hr2
 refine zz ?_
 refine AB.seq ?_
 refine zk hr2 rfl (fun h2 hr2 => ?_) (fun h2 hr2 => ?_)
 ·refine zz ?_
  refine AB.seq <| AB.block ?_
  obtain ⟨eE,h_3,hr2⟩ := aA hr2
  obtain ⟨bC,h_4,hr2⟩ := aA hr2
  obtain ⟨bE,h_5,hr2⟩ := aA hr2
  refine zz ?_
  refine AB.rs mixed [] [] [[0,1,2,3,4,5,6,7,8,9,10,11,12,13]] ?_
  refine zz ?_
  exact ⟨bE,IntKind.i64.wrap (x7 + 1),aK.set (Int.toNat x7) (bits .or .u64 bC low_2),hr2,(zG [0,1])⟩
 ·refine zz ?_
  obtain rfl := sj hr2
  refine zz ?_
  exact hG1 _ _ _ _ (zG [0,1]) (J1 low_2 aK hr)
theorem yB {N : Nat} {x y c : Int} {r : Int × Int} (hr : oB N x y c = some r) : Vm.Fn Tryz.prog 96 [] [(eI .u64 x),(eI .u64 y),(eI .u64 c)] (.tup [(eI .u64 r.1),(eI .u64 r.2)]) [] :=
 aKP Tryz.func96 (by kernel_rfl) (by kernel_rfl) (by kernel_rfl) (by kernel_rfl) hr
theorem aAE {N : Nat} {va : List Int} {b : List Int} {r : (List Int) × Bool} (hr : oG N va b = some r) :
  Vm.Fn Tryz.prog 106 [] [(.agg (va.map (eI .u64))),(.agg (b.map (eI .u64)))] (.tup [(.agg (r.1.map (eI .u64))),(eB r.2)]) [] := by
 refine zf Tryz.func106 Tryz.ntmps106 ?_
 unfold oG at hr
 refine zz ?_
 refine AB.seq_g fun K1 hK1 hG1 => ?_
 have J1 : ∀ (borrow : Int) (l1 : List Int),t3 N borrow l1 = some r → K1 (aE 29 [(4,(.ptr 0 0)),(6,(.ptr 1 0)),(7,(eI .u64 borrow))]) [some ⟨96,(List.replicate 4 0).map (eI .u64)⟩,some ⟨96,l1.map (eI .u64)⟩] := by
  intro borrow l1 hr
  unfold t3 at hr
  refine hK1 _ _ ?_
  obtain ⟨q,h_1,hr⟩ := aA hr
  refine zz ?_
  obtain rfl := sj hr
  exact nQ Tryz.results106 aW aW (lT [])
 obtain ⟨a9,hL2,hr⟩ := aA hr
 refine zz ?_
 refine AB.block <| AB.loopN (fun m s h => ∃ (borrow_1 : Int) (x9 : Int) (l3 : List Int),iJ N va b m borrow_1 x9 l3 = some a9 ∧ Ghost 0 s h (aE 29 [(2,(.ptr 0 0)),(3,(.ptr 1 0)),(4,(.ptr 2 0)),(6,(.ptr 3 0)),(7,(eI .u64 borrow_1)),(9,(eI .i64 x9))]) [some ⟨96,va.map (eI .u64)⟩,some ⟨96,b.map (eI .u64)⟩,some ⟨96,(List.replicate 4 0).map (eI .u64)⟩,some ⟨96,l3.map (eI .u64)⟩]) (n := N) ⟨0,0,List.replicate 4 0,hL2,(zG [0,1,2,3])⟩ (by rintro s h ⟨_,_,_,h0,_⟩; simp [iJ] at h0) ?_
 rintro m2 s h ⟨borrow_1,x9,l3,hr2,hg⟩
 refine AB.ghost hg ?_
 clear hg hL2
 rw [iJ] at hr2
 refine zz ?_
 refine AB.seq ?_
 refine zk hr2 rfl (fun h2 hr2 => ?_) (fun h2 hr2 => ?_)
 ·refine zz ?_
  refine AB.seq <| AB.block ?_
  obtain ⟨x15,h_3,hr2⟩ := aA hr2
  obtain ⟨x18,h_4,hr2⟩ := aA hr2
  obtain ⟨dI,h_5,hr2⟩ := aA hr2
  obtain ⟨fO,h_7,hr2⟩ := aA hr2
  refine zz ?_
  refine AB.rs mixed [96] [] [[0,1,2,3,4,5,6,7,8,9,10,11,12,13,14]] ?_
  refine zz ?_
  refine xu (yB h_5) ?_
  refine zz ?_
  exact ⟨dI.2,IntKind.i64.wrap (x9 + 1),l3.set (Int.toNat x9) dI.1,hr2,(zG [0,1,2,3])⟩
 ·refine zz ?_
  obtain rfl := sj hr2
  refine zz ?_
  exact hG1 _ _ _ _ (zG [2,3]) (J1 borrow_1 l3 hr)
theorem aC5 {N : Nat} {hi : List Int} {lo : List Int} {b : List Int} {r : (List Int) × (List Int) × Bool} (hr : wP N hi lo b = some r) :
  Vm.Fn Tryz.prog 132 [] [(.agg (hi.map (eI .u64))),(.agg (lo.map (eI .u64))),(.agg (b.map (eI .u64)))] (.tup [(.agg (r.1.map (eI .u64))),(.agg (r.2.1.map (eI .u64))),(eB r.2.2)]) [] := by
 refine zf Tryz.func132 Tryz.ntmps132 ?_
 unfold wP at hr
 refine zz ?_
 refine AB.scope <| AB.seq ?_
 obtain ⟨q,h_1,hr⟩ := aA hr
 obtain ⟨q_1,h_2,hr⟩ := aA hr
 obtain ⟨x16,h_3,hr⟩ := aA hr
 refine zz ?_
 refine xp (qN h_3) ?_
 refine zz ?_
 refine zk hr rfl (fun h4 hr => ?_) (fun h4 hr => ?_)
 ·refine zz ?_
  refine xw (v := (.agg ([0,0,0,0].map (eI .u64)))) (cF rfl (lO bV j7 rfl)) <| xw (v := (.agg ([0,0,0,0].map (eI .u64)))) (cF rfl (lO bV j7 rfl)) ?_
  refine zz ?_
  obtain rfl := sj hr
  exact rN Tryz.results132 aW aW aW (lT [])
 ·refine zz ?_
  refine xw (v := (.agg ([0,0,0,0].map (eI .u64)))) (cF rfl (lO bV j7 rfl)) ?_
  refine zz ?_
  refine AB.seq <| AB.label ?_
  refine zz ?_
  refine AB.seq_g fun K1 hK1 hG1 => ?_
  have J1 : ∀ (l0 : List Int) (l1 : List Int),xH N l0 l1 = some r → K1 (aE 72 [(6,(.ptr 0 0)),(7,(.ptr 1 0))]) [some ⟨96,l0.map (eI .u64)⟩,some ⟨96,l1.map (eI .u64)⟩] := by
   intro l0 l1 hr
   unfold xH at hr
   refine hK1 _ _ <| AB.seq ?_
   obtain ⟨q_2,h_5,hr⟩ := aA hr
   obtain ⟨q_3,h_6,hr⟩ := aA hr
   refine AB.rd (eC []) (eC []) mixed <| DrawG.pick (n := 4) (i := 0) (by decide +kernel) rfl (gS (v := (.agg (l0.map (eI .u64)))) (sv (bO rfl (vQ (E := (eI .u64)) (l := l0) bV rfl rfl (aV h_5))))) ?_
   refine DrawG.jn (m := 2) (L := lst [0,1,2] 5) (s1 := aE 72 [(6,(.ptr 0 0)),(7,(.ptr 1 0)),(71,(.agg (l1.map (eI .u64))))]) (h1 := [some ⟨96,l0.map (eI .u64)⟩,some ⟨96,l1.map (eI .u64)⟩]) ?_ (fun J => ?_)
   ·refine DrawG.pick (n := 1) (i := 3) (by decide +kernel) rfl (gN (h' := [some ⟨96,l0.map (eI .u64)⟩,some ⟨96,l1.map (eI .u64)⟩]) (sv (aY rfl rfl (tK (E := (eI .u64)) (l := l1) bV rfl rfl (fun _ => rfl) (aV h_6) (aV h_6) rfl)))) <| DrawG.pick (n := 0) (i := 4) (by decide +kernel) rfl (gS (v := (eB true)) (sv (pY rfl))) <| DrawG.nil (by decide +kernel) ?_
    refine zz ?_
    obtain rfl := sj hr
    exact rN Tryz.results132 aW aW aW (lT [])
   ·refine DrawG.fork (n := 3) [1,2] (by decide +kernel) (by decide) ?_
    refine (Fork.cons rfl (gS (v := (.agg (l1.map (eI .u64)))) (sv (bO rfl (vQ (E := (eI .u64)) (l := l1) bV rfl rfl (aV h_6))))) ?_ (Fork.cons rfl (gN (h' := [some ⟨96,l0.map (eI .u64)⟩,some ⟨96,l1.map (eI .u64)⟩]) (sv (aY rfl rfl (tK (E := (eI .u64)) (l := l0) bV rfl rfl (fun _ => rfl) (aV h_5) (aV h_5) rfl)))) ?_ Fork.nil))
    ·refine DrawG.pick (n := 2) (i := 2) (by decide +kernel) rfl (gN (h' := [some ⟨96,l0.map (eI .u64)⟩,some ⟨96,l1.map (eI .u64)⟩]) (sv (aY rfl rfl (tK (E := (eI .u64)) (l := l0) bV rfl rfl (fun _ => rfl) (aV h_5) (aV h_5) rfl)))) ?_
     exact DrawG.jg (by decide +kernel) (by decide +kernel) (zG [0,1]) J
    ·refine DrawG.pick (n := 2) (i := 1) (by decide +kernel) rfl (gS (v := (.agg (l1.map (eI .u64)))) (sv (bO rfl (vQ (E := (eI .u64)) (l := l1) bV rfl rfl (aV h_6))))) ?_
     exact DrawG.jg (by decide +kernel) (by decide +kernel) (zG [0,1]) J
  obtain ⟨a9,hL2,hr⟩ := aA hr
  refine zz ?_
  refine AB.block <| AB.loopN (fun m s h => ∃ (b6 : Int) (aK : List Int) (l2 : List Int) (l3 : List Int),kO N b m b6 aK l2 l3 = some a9 ∧ Ghost 0 s h (aE 72 [(4,(.ptr 0 0)),(5,(.ptr 1 0)),(6,(.ptr 2 0)),(7,(.ptr 3 0)),(9,(.ptr 4 0)),(10,(eI .i64 b6))]) [some ⟨96,aK.map (eI .u64)⟩,some ⟨96,b.map (eI .u64)⟩,some ⟨96,l2.map (eI .u64)⟩,some ⟨96,l3.map (eI .u64)⟩,some ⟨96,[0,0,0,0].map (eI .u64)⟩]) (n := N) ⟨3,lo,List.replicate 4 0,hi,hL2,(zG [1,2,3,4,5])⟩ (by rintro s h ⟨_,_,_,_,h0,_⟩; simp [kO] at h0) ?_
  rintro m2 s h ⟨b6,aK,l2,l3,hr2,hg⟩
  refine AB.ghost hg ?_
  clear hg hL2
  rw [kO] at hr2
  refine AB.seq ?_
  refine zz ?_
  refine zk hr2 rfl (fun h7 hr2 => ?_) (fun h7 hr2 => ?_)
  ·refine zz ?_
   refine AB.seq_g fun K3 hK3 hG3 => ?_
   have J3 : ∀ (iP : List Int) (fT : List Int) (jA : List Int),wY N b b6 (kO N b m2) iP fT jA = some a9 → K3 (aE 72 [(4,(.ptr 0 0)),(5,(.ptr 1 0)),(6,(.ptr 2 0)),(7,(.ptr 3 0)),(9,(.ptr 4 0)),(10,(eI .i64 b6))]) [some ⟨96,iP.map (eI .u64)⟩,some ⟨96,b.map (eI .u64)⟩,some ⟨96,fT.map (eI .u64)⟩,some ⟨96,jA.map (eI .u64)⟩,some ⟨96,[0,0,0,0].map (eI .u64)⟩] := by
    intro iP fT jA hr2
    unfold wY at hr2
    refine hK3 _ _ ?_
    refine zz ?_
    exact ⟨IntKind.i64.wrap (b6 - 1),iP,fT,jA,hr2,(zG [0,1,2,3,4])⟩
   refine AB.block ?_
   obtain ⟨res4,hL4,hr2⟩ := aA hr2
   refine zz ?_
   refine AB.block <| AB.loopN (fun m s h => ∃ (bit : Int) (kX : List Int) (gY : List Int) (f7 : List Int),cM N b b6 m bit kX gY f7 = some res4 ∧ Ghost 0 s h (aE 72 [(4,(.ptr 0 0)),(5,(.ptr 1 0)),(6,(.ptr 2 0)),(7,(.ptr 3 0)),(9,(.ptr 4 0)),(10,(eI .i64 b6)),(11,(eI .i64 bit))]) [some ⟨96,kX.map (eI .u64)⟩,some ⟨96,b.map (eI .u64)⟩,some ⟨96,gY.map (eI .u64)⟩,some ⟨96,f7.map (eI .u64)⟩,some ⟨96,[0,0,0,0].map (eI .u64)⟩]) (n := N) ⟨63,aK,l2,l3,hL4,(zG [0,1,2,3,4])⟩ (by rintro s h ⟨_,_,_,_,h0,_⟩; simp [cM] at h0) ?_
   rintro m4 s h ⟨bit,kX,gY,f7,hr4,hg⟩
   refine AB.ghost hg ?_
   clear hg hL4
   rw [cM] at hr4
   refine AB.seq ?_
   refine zz ?_
   refine zk hr4 rfl (fun h8 hr4 => ?_) (fun h8 hr4 => ?_)
   ·refine zz ?_
    refine AB.seq_g fun K5 hK5 hG5 => ?_
    have J5 : ∀ (aE8 : List Int) (aEM : List Int) (aE3 : List Int),qS N b b6 bit (cM N b b6 m4) aE8 aEM aE3 = some res4 → K5 (aE 72 [(4,(.ptr 0 0)),(5,(.ptr 1 0)),(6,(.ptr 2 0)),(7,(.ptr 3 0)),(9,(.ptr 4 0)),(10,(eI .i64 b6)),(11,(eI .i64 bit))]) [some ⟨96,aE8.map (eI .u64)⟩,some ⟨96,b.map (eI .u64)⟩,some ⟨96,aEM.map (eI .u64)⟩,some ⟨96,aE3.map (eI .u64)⟩,some ⟨96,[0,0,0,0].map (eI .u64)⟩] := by
     intro aE8 aEM aE3 hr4
     unfold qS at hr4
     refine hK5 _ _ ?_
     refine zz ?_
     exact ⟨IntKind.i64.wrap (bit - 1),aE8,aEM,aE3,hr4,(zG [0,1,2,3,4])⟩
    refine AB.block <| AB.seq ?_
    refine AB.seq_g fun K6 hK6 hG6 => ?_
    have J6 : ∀ (x37 : Bool),qO N b b6 bit kX gY f7 (cM N b b6 m4) x37 = some res4 → K6 (aE 72 [(4,(.ptr 0 0)),(5,(.ptr 1 0)),(6,(.ptr 2 0)),(7,(.ptr 3 0)),(9,(.ptr 4 0)),(10,(eI .i64 b6)),(11,(eI .i64 bit)),(37,(eB x37))]) [some ⟨96,kX.map (eI .u64)⟩,some ⟨96,b.map (eI .u64)⟩,some ⟨96,gY.map (eI .u64)⟩,some ⟨96,f7.map (eI .u64)⟩,some ⟨96,[0,0,0,0].map (eI .u64)⟩] := by
     intro x37 hr4
     unfold qO at hr4
     refine hK6 _ _ ?_
     refine zk hr4 rfl (fun h9 hr4 => ?_) (fun h9 hr4 => ?_)
     ·refine zz ?_
      obtain rfl := sj hr4
      obtain rfl := sj hr2
      refine zz ?_
      exact hG1 _ _ _ _ (zG [2,3]) (J1 gY f7 hr)
     ·obtain ⟨q_4,h_10,hr4⟩ := aA hr4
      obtain ⟨x40,h_11,hr4⟩ := aA hr4
      obtain ⟨q_5,h_12,hr4⟩ := aA hr4
      refine zz ?_
      refine xp (aAW h_11) ?_
      obtain ⟨q_6,h_13,hr4⟩ := aA hr4
      obtain ⟨x46,h_14,hr4⟩ := aA hr4
      obtain ⟨q_7,h_15,hr4⟩ := aA hr4
      refine zz ?_
      refine xp (aAW h_14) ?_
      refine zz ?_
      refine AB.seq_g fun K7 hK7 hG7 => ?_
      have J7 : ∀ (x56 : Bool),oJ N b b6 bit gY x40 x46 (cM N b b6 m4) x56 = some res4 → K7 (aE 72 [(4,(.ptr 0 0)),(5,(.ptr 1 0)),(6,(.ptr 2 0)),(7,(.ptr 3 0)),(9,(.ptr 4 0)),(10,(eI .i64 b6)),(11,(eI .i64 bit)),(56,(eB x56))]) [some ⟨96,x40.1.map (eI .u64)⟩,some ⟨96,b.map (eI .u64)⟩,some ⟨96,gY.map (eI .u64)⟩,some ⟨96,x46.1.map (eI .u64)⟩,some ⟨96,[0,0,0,0].map (eI .u64)⟩] := by
       intro x56 hr4
       unfold oJ at hr4
       refine hK7 _ _ ?_
       refine zk hr4 rfl (fun h16 hr4 => ?_) (fun h16 hr4 => ?_)
       ·obtain ⟨x60,h_17,hr4⟩ := aA hr4
        obtain ⟨q_8,h_18,hr4⟩ := aA hr4
        refine zz ?_
        refine xp (aAE h_17) ?_
        obtain ⟨x64,h_19,hr4⟩ := aA hr4
        obtain ⟨x67,h_20,hr4⟩ := aA hr4
        refine zz ?_
        refine AB.rs mixed [] [] [[0,1,2,3,4,5,6,7]] ?_
        refine zz ?_
        exact hG5 _ _ _ _ (zG [0,1,2,3,4]) (J5 x40.1 (gY.set (Int.toNat b6) (bits .or .u64 x64 x67)) x60.1 hr4)
       ·refine zz ?_
        exact hG5 _ _ _ _ (zG [0,1,2,3,4]) (J5 x40.1 gY x46.1 hr4)
      rcases Bool.eq_false_or_eq_true (x46.2 != 0) with h21 | h21
      ·replace hr4 := cV hr4 h21
       refine xr ?_
       refine zz ?_
       exact hG7 _ _ _ _ (zG [0,1,2,3,4]) (J7 true hr4)
      ·replace hr4 := cU hr4 h21
       obtain ⟨x54,h_22,hr4⟩ := aA hr4
       refine xr ?_
       refine zz ?_
       refine z8 (v := (eI .i64 x54)) (h' := [some ⟨96,x40.1.map (eI .u64)⟩,some ⟨96,b.map (eI .u64)⟩,some ⟨96,gY.map (eI .u64)⟩,some ⟨96,x46.1.map (eI .u64)⟩,some ⟨96,[0,0,0,0].map (eI .u64)⟩]) rfl rfl h21 rfl (Vm.Fn.pure (qN h_22) zR rfl) ?_
       refine zz ?_
       exact hG7 _ _ _ _ (zG [0,1,2,3,4]) (J7 (decide (0 ≤ x54)) hr4)
    obtain ⟨q_9,h_23,hr4⟩ := aA hr4
    rcases Bool.eq_false_or_eq_true (f7 == [0,0,0,0]) with h24 | h24
    ·replace hr4 := cV hr4 h24
     obtain ⟨aPh,h_25,hr4⟩ := aA hr4
     refine xr ?_
     refine zz ?_
     exact hG6 _ _ _ _ (zG [0,1,2,3,4]) (J6 (kX == [0,0,0,0]) hr4)
    ·replace hr4 := cU hr4 h24
     refine xr ?_
     refine zz ?_
     exact hG6 _ _ _ _ (zG [0,1,2,3,4]) (J6 false hr4)
   ·refine zz ?_
    obtain rfl := sj hr4
    refine zz ?_
    exact hG3 _ _ _ _ (zG [0,1,2,3,4]) (J3 kX gY f7 hr2)
  ·refine zz ?_
   obtain rfl := sj hr2
   refine zz ?_
   exact hG1 _ _ _ _ (zG [2,3]) (J1 l2 l3 hr)
theorem wQ {N : Nat} {va : List Int} {vm : List Int} {r : (List Int)} (hr : oP N va vm = some r) :
  Vm.Fn Tryz.prog 133 [] [(.agg (va.map (eI .u64))),(.agg (vm.map (eI .u64)))] (.agg (r.map (eI .u64))) [] := by
 refine zf Tryz.func133 Tryz.ntmps133 ?_
 unfold oP at hr
 refine zz ?_
 refine AB.seq ?_
 obtain ⟨q,h_1,hr⟩ := aA hr
 obtain ⟨q_1,h_2,hr⟩ := aA hr
 obtain ⟨b8,h_3,hr⟩ := aA hr
 refine zz ?_
 refine xp (qN h_3) ?_
 refine zz ?_
 refine zk hr rfl (fun h4 hr => ?_) (fun h4 hr => ?_)
 ·refine zz ?_
  obtain rfl := sj hr
  exact eY Tryz.results133 aW (zG [])
 ·obtain ⟨x17,h_5,hr⟩ := aA hr
  obtain ⟨q_2,h_6,hr⟩ := aA hr
  obtain ⟨q_3,h_7,hr⟩ := aA hr
  refine zz ?_
  refine xw (v := (.agg ([0,0,0,0].map (eI .u64)))) (cF rfl (lO bV j7 rfl)) ?_
  refine zz ?_
  refine xp (aC5 h_5) ?_
  refine zz ?_
  obtain rfl := sj hr
  exact eY Tryz.results133 aW (zG [])
theorem aFc {N : Nat} {va : List Int} {b : List Int} {vm : List Int} {r : (List Int)} (hr : tL N va b vm = some r) :
  Vm.Fn Tryz.prog 121 [] [(.agg (va.map (eI .u64))),(.agg (b.map (eI .u64))),(.agg (vm.map (eI .u64)))] (.agg (r.map (eI .u64))) [] := by
 refine zf Tryz.func121 Tryz.ntmps121 ?_
 unfold tL at hr
 refine zz ?_
 refine AB.seq ?_
 obtain ⟨q,h_1,hr⟩ := aA hr
 refine zz ?_
 refine xw (v := (.agg ([0,0,0,0].map (eI .u64)))) (cF rfl (lO bV j7 rfl)) ?_
 refine zz ?_
 refine zk hr rfl (fun h2 hr => ?_) (fun h2 hr => ?_)
 ·refine zz ?_
  refine xw (v := (.agg ([0,0,0,0].map (eI .u64)))) (cF rfl (lO bV j7 rfl)) ?_
  refine zz ?_
  obtain rfl := sj hr
  exact eY Tryz.results121 aW (zG [])
 ·obtain ⟨q_1,h_3,hr⟩ := aA hr
  obtain ⟨q_2,h_4,hr⟩ := aA hr
  obtain ⟨x19,h_5,hr⟩ := aA hr
  obtain ⟨q_3,h_6,hr⟩ := aA hr
  obtain ⟨q_4,h_7,hr⟩ := aA hr
  refine zz ?_
  refine xp (aHT h_5) ?_
  refine zz ?_
  refine AB.seq ?_
  obtain ⟨x25,h_8,hr⟩ := aA hr
  obtain ⟨x28,h_10,hr⟩ := aA hr
  obtain ⟨q_5,h_12,hr⟩ := aA hr
  obtain ⟨q_6,h_13,hr⟩ := aA hr
  refine AB.rd (eC [132,133]) (eC []) mixed <| DrawG.pick (n := 14) (i := 0) (by decide +kernel) rfl (gS (v := (.agg (x19.1.map (eI .u64)))) (sv (bO rfl (vQ (E := (eI .u64)) (l := x19.1) bV rfl rfl (aV h_6))))) <| DrawG.pick (n := 13) (i := 1) (by decide +kernel) rfl (gS (v := (.agg (vm.map (eI .u64)))) (sv (bO rfl (vQ (E := (eI .u64)) (l := vm) bV rfl rfl (aV h_1))))) <| DrawG.pick (n := 12) (i := 2) (by decide +kernel) rfl (gU (fun _ => (Vm.Fn.pure (wQ h_8) zR zR)) rfl (sv (mW rfl r8))) <| DrawG.pick (n := 11) (i := 3) (by decide +kernel) rfl (gS (v := (.agg (x19.2.map (eI .u64)))) (sv (bO rfl (vQ (E := (eI .u64)) (l := x19.2) bV rfl rfl (aV h_7))))) ?_
  refine DrawG.pick (n := 10) (i := 4) (by decide +kernel) rfl (gS (v := (.agg (vm.map (eI .u64)))) (sv (bO rfl (vQ (E := (eI .u64)) (l := vm) bV rfl rfl (aV h_1))))) <| DrawG.pick (n := 9) (i := 5) (by decide +kernel) rfl (gU (fun _ => (Vm.Fn.pure (aC5 h_10) zR zR)) rfl (sv (mW rfl r8))) <| DrawG.pick (n := 8) (i := 6) (by decide +kernel) rfl (gS (v := (.tup [(.agg (x28.1.map (eI .u64))),(.agg (x28.2.1.map (eI .u64))),(eB x28.2.2)])) (sv (j8 rfl))) <| DrawG.pick (n := 7) (i := 7) (by decide +kernel) rfl (gS (v := (.agg (x28.1.map (eI .u64)))) (sv (aCC rfl rfl))) <| DrawG.pick (n := 6) (i := 8) (by decide +kernel) rfl (gS (v := (.agg (x28.2.1.map (eI .u64)))) (sv (aCC rfl rfl))) ?_
  refine DrawG.pick (n := 5) (i := 9) (by decide +kernel) rfl (gS (v := (eB x28.2.2)) (sv (aCC rfl rfl))) ?_
  refine DrawG.jn (m := 1) (L := lst [0,1,2,3,4,5,6,7,8,9,10,11,12,13] 15) (s1 := aE 33 [(6,(.ptr 0 0)),(10,(.ptr 1 0)),(31,(eB x28.2.2))]) (h1 := [some ⟨96,(List.replicate 4 0).map (eI .u64)⟩,some ⟨96,x28.2.1.map (eI .u64)⟩]) ?_ (fun J => ?_)
  ·refine DrawG.pick (n := 0) (i := 14) (by decide +kernel) rfl (gS (v := (eB x28.2.2)) (sv (pY rfl))) <| DrawG.nil (by decide +kernel) ?_
   refine zz ?_
   obtain rfl := sj hr
   exact eY Tryz.results121 aW (zG [])
  ·refine DrawG.fork (n := 4) [10,11] (by decide +kernel) (by decide) ?_
   refine (Fork.cons rfl (gS (v := (.ptr 6 0)) (h' := [some ⟨96,va.map (eI .u64)⟩,some ⟨96,b.map (eI .u64)⟩,some ⟨96,vm.map (eI .u64)⟩,some ⟨96,(List.replicate 4 0).map (eI .u64)⟩,some ⟨96,x19.1.map (eI .u64)⟩,some ⟨96,x19.2.map (eI .u64)⟩,some ⟨96,(List.replicate 4 0).map (eI .u64)⟩]) (sv (iC bV rfl rfl rfl))) ?_ (Fork.cons rfl (gS (v := (.ptr 6 0)) (h' := [some ⟨96,va.map (eI .u64)⟩,some ⟨96,b.map (eI .u64)⟩,some ⟨96,vm.map (eI .u64)⟩,some ⟨96,(List.replicate 4 0).map (eI .u64)⟩,some ⟨96,x19.1.map (eI .u64)⟩,some ⟨96,x19.2.map (eI .u64)⟩,some ⟨96,(List.replicate 4 0).map (eI .u64)⟩]) (sv (iC bV rfl rfl rfl))) ?_ Fork.nil))
   ·refine DrawG.pick (n := 3) (i := 11) (by decide +kernel) rfl (gS (v := (.ptr 7 0)) (h' := [some ⟨96,va.map (eI .u64)⟩,some ⟨96,b.map (eI .u64)⟩,some ⟨96,vm.map (eI .u64)⟩,some ⟨96,(List.replicate 4 0).map (eI .u64)⟩,some ⟨96,x19.1.map (eI .u64)⟩,some ⟨96,x19.2.map (eI .u64)⟩,some ⟨96,(List.replicate 4 0).map (eI .u64)⟩,some ⟨96,(List.replicate 4 0).map (eI .u64)⟩]) (sv (iC bV rfl rfl rfl))) <| DrawG.pick (n := 2) (i := 12) (by decide +kernel) rfl (gN (h' := [some ⟨96,va.map (eI .u64)⟩,some ⟨96,b.map (eI .u64)⟩,some ⟨96,vm.map (eI .u64)⟩,some ⟨96,(List.replicate 4 0).map (eI .u64)⟩,some ⟨96,x19.1.map (eI .u64)⟩,some ⟨96,x19.2.map (eI .u64)⟩,some ⟨96,x28.1.map (eI .u64)⟩,some ⟨96,(List.replicate 4 0).map (eI .u64)⟩]) (sv (aY rfl rfl (tK (E := (eI .u64)) (l := List.replicate 4 0) bV rfl rfl (fun _ => rfl) rfl (aV h_12) rfl)))) ?_
    refine DrawG.pick (n := 1) (i := 13) (by decide +kernel) rfl (gN (h' := [some ⟨96,va.map (eI .u64)⟩,some ⟨96,b.map (eI .u64)⟩,some ⟨96,vm.map (eI .u64)⟩,some ⟨96,(List.replicate 4 0).map (eI .u64)⟩,some ⟨96,x19.1.map (eI .u64)⟩,some ⟨96,x19.2.map (eI .u64)⟩,some ⟨96,x28.1.map (eI .u64)⟩,some ⟨96,x28.2.1.map (eI .u64)⟩]) (sv (aY rfl rfl (tK (E := (eI .u64)) (l := List.replicate 4 0) bV rfl rfl (fun _ => rfl) rfl (aV h_13) rfl)))) ?_
    exact DrawG.jg (by decide +kernel) (by decide +kernel) (zG [3,7]) J
   ·refine DrawG.pick (n := 3) (i := 10) (by decide +kernel) rfl (gS (v := (.ptr 7 0)) (h' := [some ⟨96,va.map (eI .u64)⟩,some ⟨96,b.map (eI .u64)⟩,some ⟨96,vm.map (eI .u64)⟩,some ⟨96,(List.replicate 4 0).map (eI .u64)⟩,some ⟨96,x19.1.map (eI .u64)⟩,some ⟨96,x19.2.map (eI .u64)⟩,some ⟨96,(List.replicate 4 0).map (eI .u64)⟩,some ⟨96,(List.replicate 4 0).map (eI .u64)⟩]) (sv (iC bV rfl rfl rfl))) <| DrawG.pick (n := 2) (i := 12) (by decide +kernel) rfl (gN (h' := [some ⟨96,va.map (eI .u64)⟩,some ⟨96,b.map (eI .u64)⟩,some ⟨96,vm.map (eI .u64)⟩,some ⟨96,(List.replicate 4 0).map (eI .u64)⟩,some ⟨96,x19.1.map (eI .u64)⟩,some ⟨96,x19.2.map (eI .u64)⟩,some ⟨96,(List.replicate 4 0).map (eI .u64)⟩,some ⟨96,x28.1.map (eI .u64)⟩]) (sv (aY rfl rfl (tK (E := (eI .u64)) (l := List.replicate 4 0) bV rfl rfl (fun _ => rfl) rfl (aV h_12) rfl)))) ?_
    refine DrawG.pick (n := 1) (i := 13) (by decide +kernel) rfl (gN (h' := [some ⟨96,va.map (eI .u64)⟩,some ⟨96,b.map (eI .u64)⟩,some ⟨96,vm.map (eI .u64)⟩,some ⟨96,(List.replicate 4 0).map (eI .u64)⟩,some ⟨96,x19.1.map (eI .u64)⟩,some ⟨96,x19.2.map (eI .u64)⟩,some ⟨96,x28.2.1.map (eI .u64)⟩,some ⟨96,x28.1.map (eI .u64)⟩]) (sv (aY rfl rfl (tK (E := (eI .u64)) (l := List.replicate 4 0) bV rfl rfl (fun _ => rfl) rfl (aV h_13) rfl)))) ?_
    exact DrawG.jg (by decide +kernel) (by decide +kernel) (zG [3,6]) J
theorem zN {N : Nat} {va : List Int} {b : List Int} {r : (List Int)} (hr : rO N va b = some r) :
  Vm.Fn Tryz.prog 108 [] [(.agg (va.map (eI .u64))),(.agg (b.map (eI .u64)))] (.agg (r.map (eI .u64))) [] := by
 refine zf Tryz.func108 Tryz.ntmps108 ?_
 unfold rO at hr
 refine zz ?_
 refine AB.seq ?_
 obtain ⟨q,h_1,hr⟩ := aA hr
 obtain ⟨q_1,h_2,hr⟩ := aA hr
 obtain ⟨x7,h_3,hr⟩ := aA hr
 obtain ⟨x8,h_5,hr⟩ := aA hr
 obtain ⟨q_2,h_7,hr⟩ := aA hr
 refine AB.rs mixed [120,121] [] [[0,1,2,3,4]] ?_
 refine zz ?_
 refine xu (aAi h_3) <| xu (aFc h_5) ?_
 refine zz ?_
 obtain rfl := sj hr
 exact eY Tryz.results108 aW (zG [])
theorem zS {N : Nat} {va : List Int} {ve : List Int} {r : (List Int)} (hr : sN N va ve = some r) :
  Vm.Fn Tryz.prog 110 [] [(.agg (va.map (eI .u64))),(.agg (ve.map (eI .u64)))] (.agg (r.map (eI .u64))) [] := by
 refine zf Tryz.func110 Tryz.ntmps110 ?_
 unfold sN at hr
 obtain ⟨x9,h_1,hr⟩ := aA hr
 obtain ⟨q,h_2,hr⟩ := aA hr
 refine zz ?_
 refine xp (mE h_1) ?_
 obtain ⟨q_1,h_3,hr⟩ := aA hr
 obtain ⟨bX,h_4,hr⟩ := aA hr
 refine zz ?_
 refine xp (aHJ h_4) ?_
 refine zz ?_
 refine AB.seq_g fun K1 hK1 hG1 => ?_
 have J1 : ∀ (l1 : List Int),uU N l1 = some r → K1 (aE 37 [(4,(.ptr 0 0)),(5,(.ptr 1 0))]) [some ⟨96,(List.replicate 4 0).map (eI .u64)⟩,some ⟨96,l1.map (eI .u64)⟩] := by
  intro l1 hr
  unfold uU at hr
  refine hK1 _ _ ?_
  obtain ⟨q_2,h_5,hr⟩ := aA hr
  refine zz ?_
  obtain rfl := sj hr
  exact eY Tryz.results110 aW (zG [])
 obtain ⟨a9,hL2,hr⟩ := aA hr
 refine zz ?_
 refine AB.block <| AB.loopN (fun m s h => ∃ (cD : Int) (l3 : List Int),jN N va ve bX m cD l3 = some a9 ∧ Ghost 0 s h (aE 37 [(2,(.ptr 0 0)),(3,(.ptr 1 0)),(4,(.ptr 2 0)),(5,(.ptr 3 0)),(6,(eI .i64 bX)),(12,(eI .i64 bX)),(13,(eI .i64 cD))]) [some ⟨96,va.map (eI .u64)⟩,some ⟨96,ve.map (eI .u64)⟩,some ⟨96,(List.replicate 4 0).map (eI .u64)⟩,some ⟨96,l3.map (eI .u64)⟩]) (n := N) ⟨0,x9,hL2,(zG [0,1,2,3])⟩ (by rintro s h ⟨_,_,h0,_⟩; simp [jN] at h0) ?_
 rintro m2 s h ⟨cD,l3,hr2,hg⟩
 refine AB.ghost hg ?_
 clear hg hL2
 rw [jN] at hr2
 refine zz ?_
 refine AB.seq ?_
 refine zk hr2 rfl (fun h6 hr2 => ?_) (fun h6 hr2 => ?_)
 ·refine zz ?_
  refine AB.seq_g fun K3 hK3 hG3 => ?_
  have J3 : ∀ (jA : List Int),o9 N va ve bX cD (jN N va ve bX m2) jA = some a9 → K3 (aE 37 [(2,(.ptr 0 0)),(3,(.ptr 1 0)),(4,(.ptr 2 0)),(5,(.ptr 3 0)),(6,(eI .i64 bX)),(12,(eI .i64 bX)),(13,(eI .i64 cD))]) [some ⟨96,va.map (eI .u64)⟩,some ⟨96,ve.map (eI .u64)⟩,some ⟨96,(List.replicate 4 0).map (eI .u64)⟩,some ⟨96,jA.map (eI .u64)⟩] := by
   intro jA hr2
   unfold o9 at hr2
   refine hK3 _ _ ?_
   refine zz ?_
   exact ⟨IntKind.i64.wrap (cD + 1),jA,hr2,(zG [0,1,2,3])⟩
  refine AB.block ?_
  obtain ⟨q_3,h_7,hr2⟩ := aA hr2
  obtain ⟨bN,h_8,hr2⟩ := aA hr2
  obtain ⟨q_4,h_9,hr2⟩ := aA hr2
  refine zz ?_
  refine xp (zN h_8) ?_
  obtain ⟨x25,h_10,hr2⟩ := aA hr2
  obtain ⟨x29,h_11,hr2⟩ := aA hr2
  refine zz ?_
  refine zk hr2 rfl (fun h12 hr2 => ?_) (fun h12 hr2 => ?_)
  ·obtain ⟨q_5,h_13,hr2⟩ := aA hr2
   obtain ⟨e8,h_14,hr2⟩ := aA hr2
   obtain ⟨q_6,h_15,hr2⟩ := aA hr2
   refine zz ?_
   refine xp (zN h_14) ?_
   refine zz ?_
   exact hG3 _ _ _ _ (zG [0,1,2,3]) (J3 e8 hr2)
  ·refine zz ?_
   exact hG3 _ _ _ _ (zG [0,1,2,3]) (J3 bN hr2)
 ·refine zz ?_
  obtain rfl := sj hr2
  refine zz ?_
  exact hG1 _ _ _ _ (zG [2,3]) (J1 l3 hr)
theorem aEq {N : Nat} {va : List Int} {r : Bool} (hr : mO N va = some r) :
  Vm.Fn Tryz.prog 104 [] [(.agg (va.map (eI .u64)))] (eB r) [] := by
 refine zf Tryz.func104 Tryz.ntmps104 ?_
 unfold mO at hr
 refine zz ?_
 refine AB.seq ?_
 refine AB.seq_g fun K1 hK1 hG1 => ?_
 have J1 : ∀ (bX : Bool),i6 N va bX = some r → K1 (aE 17 [(1,(.ptr 0 0)),(11,(eB bX))]) [some ⟨96,va.map (eI .u64)⟩] := by
  intro bX hr
  unfold i6 at hr
  refine hK1 _ _ ?_
  refine zk hr rfl (fun h1 hr => ?_) (fun h1 hr => ?_)
  ·refine zz ?_
   obtain rfl := sj hr
   exact bH Tryz.results104 []
  ·refine zz ?_
   refine AB.seq ?_
   obtain ⟨q,h_2,hr⟩ := aA hr
   obtain ⟨cD,h_3,hr⟩ := aA hr
   obtain ⟨bC,h_5,hr⟩ := aA hr
   obtain ⟨x15,h_7,hr⟩ := aA hr
   obtain ⟨q_1,h_9,hr⟩ := aA hr
   obtain ⟨q_2,h_10,hr⟩ := aA hr
   refine AB.rs mixed [103,107,110] [] [[0,1,2,3,4,5]] ?_
   refine zz ?_
   refine xu (sQ h_3) <| xu (zS h_5) <| xu (mE h_7) ?_
   refine zz ?_
   obtain rfl := sj hr
   exact bH Tryz.results104 []
 obtain ⟨q_3,h_11,hr⟩ := aA hr
 rcases Bool.eq_false_or_eq_true (va == [0,0,0,0]) with h12 | h12
 ·replace hr := cV hr h12
  refine AB.rs mixed [119,120] [] [[0,1,2,3,4,5,6,7,8]] ?_
  refine zz ?_
  refine xw (v := (.agg ([0,0,0,0].map (eI .u64)))) (cF rfl (lO bV j7 rfl)) ?_
  refine zz ?_
  exact hG1 _ _ _ _ (zG [0]) (J1 true hr)
 ·replace hr := cU hr h12
  obtain ⟨x8,h_13,hr⟩ := aA hr
  obtain ⟨x9,h_15,hr⟩ := aA hr
  refine AB.rs mixed [119,120] [] [[0,1,2,3,4,5,6,7,8]] ?_
  refine zz ?_
  refine xw (v := (.agg ([0,0,0,0].map (eI .u64)))) (cF rfl (lO bV j7 rfl)) ?_
  refine zz ?_
  refine xu (aAi h_13) <| xu (qN h_15) ?_
  refine zz ?_
  exact hG1 _ _ _ _ (zG [0]) (J1 (decide (0 ≤ x9)) hr)
theorem aBR {N : Nat} {p : List Int} {r : Bool} (hr : oF N p = some r) :
  Vm.Fn Tryz.prog 88 [] [(.agg (p.map (eI .u64)))] (eB r) [] := by
 refine zf Tryz.func88 Tryz.ntmps88 ?_
 unfold oF at hr
 refine zz ?_
 refine AB.seq_g fun K1 hK1 hG1 => ?_
 have J1 : ∀ (x2 : Bool),t8 N x2 = some r → K1 (aE 10 [(2,(eB x2))]) [] := by
  intro x2 hr
  unfold t8 at hr
  refine hK1 _ _ ?_
  refine zz ?_
  obtain rfl := sj hr
  exact bH Tryz.results88 []
 obtain ⟨q,h_1,hr⟩ := aA hr
 obtain ⟨x4,h_2,hr⟩ := aA hr
 obtain ⟨q_1,h_4,hr⟩ := aA hr
 rcases Bool.eq_false_or_eq_true (!(p == x4)) with h5 | h5
 ·replace hr := cV hr h5
  obtain ⟨x8,h_6,hr⟩ := aA hr
  refine AB.rs mixed [103,104] [] [[0,1,2,3,4,5,6,7]] ?_
  refine zz ?_
  refine xu (mE h_2) ?_
  refine zz ?_
  refine xu (aEq h_6) ?_
  refine zz ?_
  exact hG1 _ _ _ _ (zG []) (J1 x8 hr)
 ·replace hr := cU hr h5
  refine AB.rs mixed [103,104] [] [[0,1,2,3,4,5,6,7]] ?_
  refine zz ?_
  refine xu (mE h_2) ?_
  refine zz ?_
  exact hG1 _ _ _ _ (zG []) (J1 false hr)
theorem iW {N : Nat} {va : List Int} {r : Bool} (hr : lU N va = some r) :
  Vm.Fn Tryz.prog 105 [] [(.agg (va.map (eI .u64)))] (eB r) [] := by
 refine zf Tryz.func105 Tryz.ntmps105 ?_
 unfold lU at hr
 refine zz ?_
 refine AB.seq ?_
 obtain ⟨q,h_1,hr⟩ := aA hr
 obtain ⟨x4,h_2,hr⟩ := aA hr
 obtain ⟨x5,h_4,hr⟩ := aA hr
 refine AB.rs mixed [107,119] [] [[0,1,2,3,4]] ?_
 refine zz ?_
 refine xu (sQ h_2) <| xu (qN h_4) ?_
 refine zz ?_
 obtain rfl := sj hr
 exact bH Tryz.results105 []
theorem aEV {N : Nat} {b : List Int} {r : (List Int) × (List Int) × Int} (hr : oI N b = some r) :
  Vm.Fn Tryz.prog 89 [] [(.row none 1 (b.map (eI .u8)))] (.tup [(.agg (cA (eI .u64) r.1 (cA (eI .u64) r.2.1 []))),(eI .i64 r.2.2)]) [] := by
 refine zf Tryz.func89 Tryz.ntmps89 ?_
 unfold oI at hr
 refine zz ?_
 refine xw (v := (.ptr 0 0)) (h' := [some ⟨100,(cA (eI .u64) (List.replicate 4 0) (cA (eI .u64) (List.replicate 4 0) []))⟩]) (iC nO rfl rfl rfl) ?_
 refine zz ?_
 refine AB.seq ?_
 refine zz ?_
 refine zk hr rfl (fun h1 hr => ?_) (fun h1 hr => ?_)
 ·refine zz ?_
  refine xw (v := (.agg (cA (eI .u64) (List.replicate 4 0) (cA (eI .u64) (List.replicate 4 0) [])))) (cF rfl (aAO nO aBv rfl)) ?_
  refine zz ?_
  obtain rfl := sj hr
  exact nQ Tryz.results89 aW aW (zG [])
 ·refine zz ?_
  refine AB.seq ?_
  obtain ⟨b8,h_2,hr⟩ := aA hr
  obtain ⟨bX,h_3,hr⟩ := aA hr
  obtain ⟨cD,h_4,hr⟩ := aA hr
  obtain ⟨x15,h_6,hr⟩ := aA hr
  obtain ⟨x16,h_7,hr⟩ := aA hr
  obtain ⟨x18,h_8,hr⟩ := aA hr
  obtain ⟨q,h_10,hr⟩ := aA hr
  obtain ⟨q_1,h_11,hr⟩ := aA hr
  refine AB.rs mixed [87] [] [[0,1,2,3,4,5,6,7,8,9,10,11,12]] ?_
  refine zz ?_
  refine xw (v := (.eptr [.agg (bX.map (eI .u8))] 0 0)) (aBo rfl (apR (E := (eI .u8)) yO (fun _ => rfl) zl h_3)) <| xw (v := (.agg (bX.map (eI .u8)))) (bO rfl (aHi (E := (eI .u8)) (l := bX) yO rfl (bW h_3))) <| xu (oX h_4) ?_
  refine zz ?_
  refine xw (v := (.eptr [.agg (x16.map (eI .u8))] 0 0)) (aBo rfl (apR (E := (eI .u8)) yO (fun _ => rfl) zl h_7)) <| xw (v := (.agg (x16.map (eI .u8)))) (bO rfl (aHi (E := (eI .u8)) (l := x16) yO rfl (bW h_7))) <| xu (oX h_8) <| xw (v := (.agg (cA (eI .u64) cD (cA (eI .u64) x18 [])))) (cF rfl (aNA (ps' := [(0,(.agg (cA (eI .u64) cD []))),(1,(.agg (cA (eI .u64) x18 [])))]) (by simp only [aA1 (l := cD) (aV h_10),aA1 (l := x18) (aV h_11)]) (aAO nO aBv rfl))) <| xw (v := (.ptr 1 0)) (h' := [some ⟨100,(cA (eI .u64) (List.replicate 4 0) (cA (eI .u64) (List.replicate 4 0) []))⟩,some ⟨100,(cA (eI .u64) (List.replicate 4 0) (cA (eI .u64) (List.replicate 4 0) []))⟩]) (iC nO rfl rfl rfl) ?_
  refine zz ?_
  refine AB.seq ?_
  refine AB.seq_g fun K1 hK1 hG1 => ?_
  have J1 : ∀ (x29 : Bool),lZ N cD x18 x29 = some r → K1 (aE 32 [(2,(.ptr 0 0)),(4,(.ptr 1 0)),(29,(eB x29))]) [some ⟨100,(cA (eI .u64) (List.replicate 4 0) (cA (eI .u64) (List.replicate 4 0) []))⟩,some ⟨100,(cA (eI .u64) cD (cA (eI .u64) x18 []))⟩] := by
   intro x29 hr
   unfold lZ at hr
   refine hK1 _ _ ?_
   refine zk hr rfl (fun h12 hr => ?_) (fun h12 hr => ?_)
   ·refine zz ?_
    refine xw (v := (.agg (cA (eI .u64) (List.replicate 4 0) (cA (eI .u64) (List.replicate 4 0) [])))) (cF rfl (aAO nO aBv rfl)) ?_
    refine zz ?_
    obtain rfl := sj hr
    exact nQ Tryz.results89 aW aW (zG [])
   ·refine zz ?_
    obtain rfl := sj hr
    exact nQ Tryz.results89 aW aW (zG [])
  obtain ⟨bN,h_13,hr⟩ := aA hr
  rcases Bool.eq_false_or_eq_true (!bN) with h14 | h14
  ·replace hr := cV hr h14
   refine xr ?_
   refine zz ?_
   refine xp (iW h_13) ?_
   refine zz ?_
   exact hG1 _ _ _ _ (zG [0,1]) (J1 true hr)
  ·replace hr := cU hr h14
   obtain ⟨x27,h_15,hr⟩ := aA hr
   refine xr ?_
   refine zz ?_
   refine xp (iW h_13) ?_
   refine zz ?_
   refine z8 (v := (eB x27)) (h' := [some ⟨100,(cA (eI .u64) (List.replicate 4 0) (cA (eI .u64) (List.replicate 4 0) []))⟩,some ⟨100,(cA (eI .u64) cD (cA (eI .u64) x18 []))⟩]) rfl rfl h14 rfl (Vm.Fn.pure (iW h_15) zR rfl) ?_
   refine zz ?_
   exact hG1 _ _ _ _ (zG [0,1]) (J1 (!x27) hr)
theorem aEG {N : Nat} {ve : List Int} {r : (List Int)} (hr : qQ N ve = some r) :
  Vm.Fn Tryz.prog 109 [] [(.agg (ve.map (eI .u64)))] (.agg (r.map (eI .u64))) [] := by
 refine zf Tryz.func109 Tryz.ntmps109 ?_
 unfold qQ at hr
 refine zz ?_
 refine AB.seq ?_
 obtain ⟨x3,h_1,hr⟩ := aA hr
 obtain ⟨q,h_3,hr⟩ := aA hr
 obtain ⟨x5,h_4,hr⟩ := aA hr
 obtain ⟨q_1,h_6,hr⟩ := aA hr
 refine AB.rs mixed [103,110] [] [[0,1,2,3]] <| xu (mE h_1) ?_
 refine zz ?_
 refine xu (zS h_4) ?_
 refine zz ?_
 obtain rfl := sj hr
 exact eY Tryz.results109 aW (zG [])
theorem aBL {N : Nat} {va : List Int} {r : (List Int)} (hr : qJ N va = some r) :
  Vm.Fn Tryz.prog 126 [] [(.agg (va.map (eI .u64)))] (.agg (r.map (eI .u8))) [] := by
 refine zf Tryz.func126 Tryz.ntmps126 ?_
 unfold qJ at hr
 refine zz ?_
 refine AB.seq_g fun K1 hK1 hG1 => ?_
 have J1 : ∀ (l1 : List Int),uD N l1 = some r → K1 (aE 23 [(2,(.ptr 0 0)),(3,(.ptr 1 0))]) [some ⟨25,(List.replicate 32 0).map (eI .u8)⟩,some ⟨25,l1.map (eI .u8)⟩] := by
  intro l1 hr
  unfold uD at hr
  refine hK1 _ _ ?_
  obtain ⟨q,h_1,hr⟩ := aA hr
  refine zz ?_
  obtain rfl := sj hr
  exact eY Tryz.results126 aW (zG [])
 obtain ⟨a9,hL2,hr⟩ := aA hr
 refine zz ?_
 refine AB.block <| AB.loopN (fun m s h => ∃ (x5 : Int) (l2 : List Int),iM N va m x5 l2 = some a9 ∧ Ghost 0 s h (aE 23 [(1,(.ptr 0 0)),(2,(.ptr 1 0)),(3,(.ptr 2 0)),(5,(eI .i64 x5))]) [some ⟨96,va.map (eI .u64)⟩,some ⟨25,(List.replicate 32 0).map (eI .u8)⟩,some ⟨25,l2.map (eI .u8)⟩]) (n := N) ⟨0,List.replicate 32 0,hL2,(zG [0,1,2])⟩ (by rintro s h ⟨_,_,h0,_⟩; simp [iM] at h0) ?_
 rintro m2 s h ⟨x5,l2,hr2,hg⟩
 refine AB.ghost hg ?_
 clear hg hL2
 rw [iM] at hr2
 refine zz ?_
 refine AB.seq ?_
 refine zk hr2 rfl (fun h2 hr2 => ?_) (fun h2 hr2 => ?_)
 ·refine zz ?_
  refine AB.seq <| AB.block ?_
  obtain ⟨eE,h_3,hr2⟩ := aA hr2
  obtain ⟨x18,h_4,hr2⟩ := aA hr2
  obtain ⟨bE,h_5,hr2⟩ := aA hr2
  refine zz ?_
  exact ⟨IntKind.i64.wrap (x5 + 1),l2.set (Int.toNat x5) (IntKind.u8.wrap x18),hr2,(zG [0,1,2])⟩
 ·refine zz ?_
  obtain rfl := sj hr2
  refine zz ?_
  exact hG1 _ _ _ _ (zG [1,2]) (J1 l2 hr)
theorem aHY {N : Nat} {parts : List (List Int)} {r : (List Int)} (hr : uI N parts = some r) :
  Vm.Fn Tryz.prog 125 [] [(.row none 32 (parts.map (eA (eI .u8))))] (.sl 0 0 r.length 1 false) [some ⟨5,r.map (eI .u8)⟩] := by
 refine zf Tryz.func125 Tryz.ntmps125 ?_
 unfold uI at hr
 refine zz ?_
 refine AB.seq_g fun K1 hK1 hG1 => ?_
 have J1 : ∀ (l0 : List Int),aAD N l0 = some r → K1 (aE 17 [(3,(.sl 0 0 l0.length 1 false))]) [some ⟨5,l0.map (eI .u8)⟩] := by
  intro l0 hr
  unfold aAD at hr
  refine hK1 _ _ ?_
  refine zz ?_
  obtain rfl := sj hr
  exact bH Tryz.results125 [0]
 obtain ⟨a9,hL2,hr⟩ := aA hr
 refine zz ?_
 refine AB.block <| AB.loopN (fun m s h => ∃ (x8 : Int) (aK : List Int),lS N parts m x8 aK = some a9 ∧ Ghost 0 s h (aE 17 [(3,(.sl 0 0 aK.length 1 false)),(6,(.row none 32 (parts.map (eA (eI .u8))))),(7,(eI .i64 (parts.length : Int))),(8,(eI .i64 x8))]) [some ⟨5,aK.map (eI .u8)⟩]) (n := N) ⟨0,[],hL2,(zW 5 [0])⟩ (by rintro s h ⟨_,_,h0,_⟩; simp [lS] at h0) ?_
 rintro m2 s h ⟨x8,aK,hr2,hg⟩
 refine AB.ghost hg ?_
 clear hg hL2
 rw [lS] at hr2
 refine zz ?_
 refine AB.seq ?_
 refine zk hr2 rfl (fun h1 hr2 => ?_) (fun h1 hr2 => ?_)
 ·refine zz ?_
  refine AB.seq <| AB.block ?_
  obtain ⟨b8,h_2,hr2⟩ := aA hr2
  obtain ⟨q,h_3,hr2⟩ := aA hr2
  refine zz ?_
  refine xw (v := (.agg (b8.map (eI .u8)))) (bO rfl (aPp (E := (eI .u8)) yO rfl h_2 (aV h_3))) ?_
  obtain ⟨bC,h_4,hr2⟩ := aA hr2
  refine zz ?_
  exact ⟨IntKind.i64.wrap (x8 + 1),bC,hr2,(zG [2])⟩
 ·refine zz ?_
  obtain rfl := sj hr2
  refine zz ?_
  exact hG1 _ _ _ _ (zG [0]) (J1 aK hr)
theorem aF3 {N : Nat} {tag : ByteArray} {b : List Int} {r : (List Int)} (hr : vN N tag b = some r) :
  Vm.Fn Tryz.prog 124 [] [(eS tag),(.row none 1 (b.map (eI .u8)))] (.agg (r.map (eI .u8))) [] := by
 refine zf Tryz.func124 Tryz.ntmps124 ?_
 unfold vN at hr
 obtain ⟨x7,h_1,hr⟩ := aA hr
 obtain ⟨x8,h_2,hr⟩ := aA hr
 obtain ⟨q,h_3,hr⟩ := aA hr
 refine zz ?_
 refine aNu (h' := [some ⟨25,(List.replicate 32 0).map (eI .u8)⟩,some ⟨5,x7.map (eI .u8)⟩]) rfl ti9 cG cZ h_1 rfl rfl <| zcL (aBj h_2) [] [1] ?_
 refine zz ?_
 refine AB.seq ?_
 obtain ⟨cD,h_4,hr⟩ := aA hr
 obtain ⟨bC,h_6,hr⟩ := aA hr
 obtain ⟨q_1,h_8,hr⟩ := aA hr
 refine AB.rs mixed [] [58,69] [[0,1,2],[3,4,5,6]] ?_
 refine zz ?_
 refine ⟨_,_,(zv 2), ?_⟩
 refine zz ?_
 refine zgL (aD7 h_4) [] [3] ?_
 refine zgL (aBj h_6) [] [4] ?_
 refine zz ?_
 obtain rfl := sj hr
 exact eY Tryz.results124 aW (zG [])
theorem aHN {N : Nat} {va : List Int} {b : List Int} {r : (List Int) × Bool} (hr : sA N va b = some r) :
  Vm.Fn Tryz.prog 138 [] [(.agg (va.map (eI .u64))),(.agg (b.map (eI .u64)))] (.tup [(.agg (r.1.map (eI .u64))),(eB r.2)]) [] := by
 refine zf Tryz.func138 Tryz.ntmps138 ?_
 unfold sA at hr
 refine zz ?_
 refine AB.seq_g fun K1 hK1 hG1 => ?_
 have J1 : ∀ (iO : Int) (l1 : List Int),tJ N iO l1 = some r → K1 (aE 29 [(4,(.ptr 0 0)),(6,(.ptr 1 0)),(7,(eI .u64 iO))]) [some ⟨96,(List.replicate 4 0).map (eI .u64)⟩,some ⟨96,l1.map (eI .u64)⟩] := by
  intro iO l1 hr
  unfold tJ at hr
  refine hK1 _ _ ?_
  obtain ⟨q,h_1,hr⟩ := aA hr
  refine zz ?_
  obtain rfl := sj hr
  exact nQ Tryz.results138 aW aW (lT [])
 obtain ⟨a9,hL2,hr⟩ := aA hr
 refine zz ?_
 refine AB.block <| AB.loopN (fun m s h => ∃ (carry_1 : Int) (x9 : Int) (l3 : List Int),iK N va b m carry_1 x9 l3 = some a9 ∧ Ghost 0 s h (aE 29 [(2,(.ptr 0 0)),(3,(.ptr 1 0)),(4,(.ptr 2 0)),(6,(.ptr 3 0)),(7,(eI .u64 carry_1)),(9,(eI .i64 x9))]) [some ⟨96,va.map (eI .u64)⟩,some ⟨96,b.map (eI .u64)⟩,some ⟨96,(List.replicate 4 0).map (eI .u64)⟩,some ⟨96,l3.map (eI .u64)⟩]) (n := N) ⟨0,0,List.replicate 4 0,hL2,(zG [0,1,2,3])⟩ (by rintro s h ⟨_,_,_,h0,_⟩; simp [iK] at h0) ?_
 rintro m2 s h ⟨carry_1,x9,l3,hr2,hg⟩
 refine AB.ghost hg ?_
 clear hg hL2
 rw [iK] at hr2
 refine zz ?_
 refine AB.seq ?_
 refine zk hr2 rfl (fun h2 hr2 => ?_) (fun h2 hr2 => ?_)
 ·refine zz ?_
  refine AB.seq <| AB.block ?_
  obtain ⟨x15,h_3,hr2⟩ := aA hr2
  obtain ⟨x18,h_4,hr2⟩ := aA hr2
  obtain ⟨dI,h_5,hr2⟩ := aA hr2
  obtain ⟨fO,h_7,hr2⟩ := aA hr2
  refine zz ?_
  refine AB.rs mixed [128] [] [[0,1,2,3,4,5,6,7,8,9,10,11,12,13,14]] ?_
  refine zz ?_
  refine xu (iU h_5) ?_
  refine zz ?_
  exact ⟨dI.2,IntKind.i64.wrap (x9 + 1),l3.set (Int.toNat x9) dI.1,hr2,(zG [0,1,2,3])⟩
 ·refine zz ?_
  obtain rfl := sj hr2
  refine zz ?_
  exact hG1 _ _ _ _ (zG [2,3]) (J1 carry_1 l3 hr)
theorem aFb {N : Nat} {va : List Int} {b : List Int} {vm : List Int} {r : (List Int)} (hr : tO N va b vm = some r) :
  Vm.Fn Tryz.prog 137 [] [(.agg (va.map (eI .u64))),(.agg (b.map (eI .u64))),(.agg (vm.map (eI .u64)))] (.agg (r.map (eI .u64))) [] := by
 refine zf Tryz.func137 Tryz.ntmps137 ?_
 unfold tO at hr
 refine zz ?_
 refine AB.seq ?_
 obtain ⟨q,h_1,hr⟩ := aA hr
 refine zz ?_
 refine xw (v := (.agg ([0,0,0,0].map (eI .u64)))) (cF rfl (lO bV j7 rfl)) ?_
 refine zz ?_
 refine zk hr rfl (fun h2 hr => ?_) (fun h2 hr => ?_)
 ·refine zz ?_
  refine xw (v := (.agg ([0,0,0,0].map (eI .u64)))) (cF rfl (lO bV j7 rfl)) ?_
  refine zz ?_
  obtain rfl := sj hr
  exact eY Tryz.results137 aW (zG [])
 ·refine zz ?_
  refine AB.seq ?_
  obtain ⟨q_1,h_3,hr⟩ := aA hr
  obtain ⟨x16,h_4,hr⟩ := aA hr
  obtain ⟨q_2,h_6,hr⟩ := aA hr
  obtain ⟨x19,h_7,hr⟩ := aA hr
  obtain ⟨bE,h_9,hr⟩ := aA hr
  obtain ⟨q_3,h_11,hr⟩ := aA hr
  refine AB.rs mixed [133,138] [] [[0,1,2,3,4,5,6,7,8,9,10,11,12]] ?_
  refine zz ?_
  refine xu (wQ h_4) ?_
  refine zz ?_
  refine xu (wQ h_7) <| xu (aHN h_9) ?_
  refine zz ?_
  refine AB.seq_g fun K1 hK1 hG1 => ?_
  have J1 : ∀ (l1 : List Int),kJ N l1 = some r → K1 (aE 37 [(6,(.ptr 0 0)),(7,(.ptr 1 0))]) [some ⟨96,(List.replicate 4 0).map (eI .u64)⟩,some ⟨96,l1.map (eI .u64)⟩] := by
   intro l1 hr
   unfold kJ at hr
   refine hK1 _ _ ?_
   obtain ⟨q_4,h_12,hr⟩ := aA hr
   refine zz ?_
   obtain rfl := sj hr
   exact eY Tryz.results137 aW (zG [])
  refine AB.seq_g fun K2 hK2 hG2 => ?_
  have J2 : ∀ (x29 : Bool),kG N vm bE x29 = some r → K2 (aE 37 [(5,(.ptr 0 0)),(6,(.ptr 1 0)),(7,(.ptr 2 0)),(29,(eB x29))]) [some ⟨96,vm.map (eI .u64)⟩,some ⟨96,(List.replicate 4 0).map (eI .u64)⟩,some ⟨96,bE.1.map (eI .u64)⟩] := by
   intro x29 hr
   unfold kG at hr
   refine hK2 _ _ ?_
   refine zk hr rfl (fun h13 hr => ?_) (fun h13 hr => ?_)
   ·obtain ⟨kY,h_14,hr⟩ := aA hr
    obtain ⟨q_5,h_15,hr⟩ := aA hr
    refine zz ?_
    refine xp (aAE h_14) ?_
    refine zz ?_
    exact hG1 _ _ _ _ (zG [1,2]) (J1 kY.1 hr)
   ·refine zz ?_
    exact hG1 _ _ _ _ (zG [1,2]) (J1 bE.1 hr)
  rcases Bool.eq_false_or_eq_true bE.2 with h16 | h16
  ·replace hr := cV hr h16
   refine xr ?_
   refine zz ?_
   exact hG2 _ _ _ _ (zG [2,3,4]) (J2 true hr)
  ·replace hr := cU hr h16
   obtain ⟨x27,h_17,hr⟩ := aA hr
   refine xr ?_
   refine zz ?_
   refine z8 (v := (eI .i64 x27)) (h' := [some ⟨96,va.map (eI .u64)⟩,some ⟨96,b.map (eI .u64)⟩,some ⟨96,vm.map (eI .u64)⟩,some ⟨96,(List.replicate 4 0).map (eI .u64)⟩,some ⟨96,bE.1.map (eI .u64)⟩]) rfl rfl h16 rfl (Vm.Fn.pure (qN h_17) zR rfl) ?_
   refine zz ?_
   exact hG2 _ _ _ _ (zG [2,3,4]) (J2 (decide (0 ≤ x27)) hr)
theorem aCf {N : Nat} {va : List Int} {b : List Int} {r : (List Int)} (hr : k9 N va b = some r) :
  Vm.Fn Tryz.prog 135 [] [(.agg (va.map (eI .u64))),(.agg (b.map (eI .u64)))] (.agg (r.map (eI .u64))) [] := by
 refine zf Tryz.func135 Tryz.ntmps135 ?_
 unfold k9 at hr
 refine zz ?_
 refine AB.seq ?_
 obtain ⟨q,h_1,hr⟩ := aA hr
 obtain ⟨q_1,h_2,hr⟩ := aA hr
 obtain ⟨x7,h_3,hr⟩ := aA hr
 obtain ⟨x8,h_5,hr⟩ := aA hr
 obtain ⟨q_2,h_7,hr⟩ := aA hr
 refine AB.rs mixed [107,137] [] [[0,1,2,3,4]] ?_
 refine zz ?_
 refine xu (sQ h_3) <| xu (aFb h_5) ?_
 refine zz ?_
 obtain rfl := sj hr
 exact eY Tryz.results135 aW (zG [])
theorem aDK {N : Nat} {vh : List Int} {r : (List Int)} (hr : l9 N vh = some r) :
  Vm.Fn Tryz.prog 123 [] [(.agg (vh.map (eI .u8)))] (.agg (r.map (eI .u64))) [] := by
 refine zf Tryz.func123 Tryz.ntmps123 ?_
 unfold l9 at hr
 obtain ⟨q,h_1,hr⟩ := aA hr
 obtain ⟨x4,h_2,hr⟩ := aA hr
 obtain ⟨x6,h_3,hr⟩ := aA hr
 obtain ⟨q_1,h_4,hr⟩ := aA hr
 refine zz ?_
 refine xp (oX h_2) <| xw (v := (.agg ([0,0,0,0].map (eI .u64)))) (cF rfl (lO bV j7 rfl)) <| xp (aCf h_3) ?_
 refine zz ?_
 obtain rfl := sj hr
 exact eY Tryz.results123 aW (zG [])
theorem aCV {N : Nat} {vr : List Int} {p : List Int} {vm : List Int} {r : (List Int)} (hr : kL N vr p vm = some r) :
  Vm.Fn Tryz.prog 111 [] [(.agg (vr.map (eI .u64))),(.agg (p.map (eI .u64))),(.agg (vm.map (eI .u8)))] (.agg (r.map (eI .u64))) [] := by
 refine zf Tryz.func111 Tryz.ntmps111 ?_
 unfold kL at hr
 refine zz ?_
 refine AB.seq ?_
 obtain ⟨q,h_1,hr⟩ := aA hr
 obtain ⟨x8,h_2,hr⟩ := aA hr
 obtain ⟨q_1,h_4,hr⟩ := aA hr
 obtain ⟨b8,h_5,hr⟩ := aA hr
 obtain ⟨q_2,h_7,hr⟩ := aA hr
 obtain ⟨q_3,h_8,hr⟩ := aA hr
 obtain ⟨q_4,h_9,hr⟩ := aA hr
 obtain ⟨cD,h_10,hr⟩ := aA hr
 obtain ⟨bC,h_12,hr⟩ := aA hr
 obtain ⟨x15,h_14,hr⟩ := aA hr
 obtain ⟨q_5,h_16,hr⟩ := aA hr
 refine AB.rs mixed [123,126] [124,125] [[0,1,2,3,4,5],[6,7,8,9]] ?_
 refine zz ?_
 refine xu (aBL h_2) ?_
 refine zz ?_
 refine xu (aBL h_5) ?_
 refine zz ?_
 refine xw (v := (.sl 4 0 3 32 true)) (h' := [some ⟨96,vr.map (eI .u64)⟩,some ⟨96,p.map (eI .u64)⟩,some ⟨25,vm.map (eI .u8)⟩,some ⟨96,(List.replicate 4 0).map (eI .u64)⟩,some ⟨25,[x8,b8,vm].flatMap (aBE (eI .u8))⟩]) (qF rfl (aN2 (ps' := [(0,.agg (aBE (eI .u8) x8)),(1,.agg (aBE (eI .u8) b8)),(2,.agg (aBE (eI .u8) vm))]) (by simp only [aKg,aBE,uK (l := x8) (aV h_8),uK (l := b8) (aV h_9),uK (l := vm) (aV h_7)]) (aCO (len := 3) (C := (aBE (eI .u8))) (xs := [x8,b8,vm]) (K := 32) (fun _ => rfl) (fun _ => rfl) aLw yO ⟨zl,zl,zl⟩ rfl rfl rfl rfl rfl rfl))) ?_
 refine zz ?_
 refine ⟨_,_,(Ghost.conv (fr' := [(0,(.agg (vr.map (eI .u64)))),(1,(.agg (p.map (eI .u64)))),(2,(.agg (vm.map (eI .u8)))),(3,(.ptr 0 0)),(4,(.ptr 1 0)),(5,(.ptr 2 0)),(6,(.ptr 3 0)),(7,(.agg (vr.map (eI .u64)))),(8,(.agg (x8.map (eI .u8)))),(9,(.agg (p.map (eI .u64)))),(10,(.agg (b8.map (eI .u8)))),(11,(.agg (vm.map (eI .u8)))),(12,(.row none 32 ([x8,b8,vm].map (eA (eI .u8)))))]) (h' := [some ⟨96,vr.map (eI .u64)⟩,some ⟨96,p.map (eI .u64)⟩,some ⟨25,vm.map (eI .u8)⟩,some ⟨96,(List.replicate 4 0).map (eI .u64)⟩,none]) (FCv.cons rfl (Conv.same (aI rfl)) (FCv.cons rfl (Conv.same (aI rfl)) (FCv.cons rfl (Conv.same (aI rfl)) (FCv.cons rfl (Conv.same (aI rfl)) (FCv.cons rfl (Conv.same (aI rfl)) (FCv.cons rfl (Conv.same (aI rfl)) (FCv.cons rfl (Conv.same (aI rfl)) (FCv.cons rfl (Conv.same (aI rfl)) (FCv.cons rfl (Conv.same (aI rfl)) (FCv.cons rfl (Conv.same (aI rfl)) (FCv.cons rfl (Conv.same (aI rfl)) (FCv.cons rfl (Conv.same (aI rfl)) (FCv.cons rfl (Conv.rowKA (C := (aBE (eI .u8))) (E := (eI .u8)) (fun _ => rfl) (fun _ => rfl) (fun _ => rfl) (List.forall_mem_cons.2 ⟨uK (aV h_8),List.forall_mem_cons.2 ⟨uK (aV h_9),List.forall_mem_cons.2 ⟨uK (aV h_7),List.forall_mem_nil _⟩⟩⟩) (aI rfl) rfl rfl rfl) FCv.nil))))))))))))) (HCv.live (Convs.same (aI rfl)) (all_map (fun _ => rfl) _) (HCv.live (Convs.same (aI rfl)) (all_map (fun _ => rfl) _) (HCv.live (Convs.same (aI rfl)) (all_map (fun _ => rfl) _) (HCv.live (Convs.same (aI rfl)) (all_map (fun _ => rfl) _) (HCv.dead HCv.nil)))))), ?_⟩
 refine zg (aHY h_10) [] ?_
 refine zgL (aF3 h_12) [] [5] ?_
 refine xu (aDK h_14) ?_
 refine zz ?_
 obtain rfl := sj hr
 exact eY Tryz.results111 aW (zG [])
theorem aES {N : Nat} {p : List Int} {vm : List Int} {s_E : List Int} {s_S : List Int} {r : Bool} (hr : oR N p vm s_E s_S = some r) :
  Vm.Fn Tryz.prog 90 [] [(.agg (p.map (eI .u64))),(.agg (vm.map (eI .u8))),(.agg (cA (eI .u64) s_E (cA (eI .u64) s_S [])))] (eB r) [] := by
 refine zf Tryz.func90 Tryz.ntmps90 ?_
 unfold oR at hr
 refine zz ?_
 refine AB.seq ?_
 refine AB.seq_g fun K1 hK1 hG1 => ?_
 have J1 : ∀ (fO : Bool),gX N p vm s_E s_S fO = some r → K1 (aE 46 [(3,(.ptr 0 0)),(4,(.ptr 1 0)),(5,(.ptr 2 0)),(24,(eB fO))]) [some ⟨96,p.map (eI .u64)⟩,some ⟨25,vm.map (eI .u8)⟩,some ⟨100,(cA (eI .u64) s_E (cA (eI .u64) s_S []))⟩] := by
  intro fO hr
  unfold gX at hr
  refine hK1 _ _ ?_
  refine zk hr rfl (fun h1 hr => ?_) (fun h1 hr => ?_)
  ·refine zz ?_
   obtain rfl := sj hr
   exact bH Tryz.results90 []
  ·refine zz ?_
   refine AB.seq ?_
   obtain ⟨x26,h_2,hr⟩ := aA hr
   obtain ⟨q,h_4,hr⟩ := aA hr
   obtain ⟨x29,h_5,hr⟩ := aA hr
   obtain ⟨q_1,h_7,hr⟩ := aA hr
   refine AB.rs mixed [106,107] [] [[0,1,2,3,4,5,6,7,8,9]] <| xu (sQ h_2) ?_
   refine zz ?_
   refine xu (aAE h_5) ?_
   refine zz ?_
   refine AB.seq ?_
   obtain ⟨q_2,h_8,hr⟩ := aA hr
   obtain ⟨e8,h_9,hr⟩ := aA hr
   obtain ⟨q_3,h_11,hr⟩ := aA hr
   obtain ⟨x37,h_12,hr⟩ := aA hr
   obtain ⟨x38,h_14,hr⟩ := aA hr
   obtain ⟨q_4,h_16,hr⟩ := aA hr
   refine AB.rs mixed [108,109,110] [] [[0,1,2,3,4,5,6,7,8]] ?_
   refine zz ?_
   refine xu (aEG h_9) ?_
   refine zz ?_
   refine xu (zS h_12) <| xu (zN h_14) ?_
   refine zz ?_
   refine AB.seq ?_
   obtain ⟨q_5,h_17,hr⟩ := aA hr
   obtain ⟨x44,h_18,hr⟩ := aA hr
   obtain ⟨q_6,h_20,hr⟩ := aA hr
   refine AB.rs mixed [111] [] [[0,1,2,3,4,5,6,7]] ?_
   refine zz ?_
   refine xu (aCV h_18) ?_
   refine zz ?_
   obtain rfl := sj hr
   exact bH Tryz.results90 []
 obtain ⟨q_7,h_21,hr⟩ := aA hr
 obtain ⟨eE,h_22,hr⟩ := aA hr
 rcases Bool.eq_false_or_eq_true (!eE) with h23 | h23
 ·replace hr := cV hr h23
  refine xr ?_
  refine zz ?_
  refine xp (iW h_22) ?_
  refine zz ?_
  refine xX rfl <| xX rfl <| xX rfl ?_
  refine zz ?_
  exact hG1 _ _ _ _ (zG [0,1,2]) (J1 true hr)
 ·replace hr := cU hr h23
  obtain ⟨q_8,h_24,hr⟩ := aA hr
  obtain ⟨x17,h_25,hr⟩ := aA hr
  rcases Bool.eq_false_or_eq_true (!x17) with h26 | h26
  ·replace hr := cV hr h26
   refine xr ?_
   refine zz ?_
   refine xp (iW h_22) ?_
   refine zz ?_
   refine z8 (v := (eB x17)) (h' := [some ⟨96,p.map (eI .u64)⟩,some ⟨25,vm.map (eI .u8)⟩,some ⟨100,(cA (eI .u64) s_E (cA (eI .u64) s_S []))⟩]) rfl rfl h23 rfl (Vm.Fn.pure (iW h_25) zR rfl) ?_
   refine zz ?_
   exact hG1 _ _ _ _ (zG [0,1,2]) (J1 true hr)
  ·replace hr := cU hr h26
   obtain ⟨q_9,h_27,hr⟩ := aA hr
   obtain ⟨bN,h_28,hr⟩ := aA hr
   refine xr ?_
   refine zz ?_
   refine xp (iW h_22) ?_
   refine zz ?_
   refine z8 (v := (eB x17)) (h' := [some ⟨96,p.map (eI .u64)⟩,some ⟨25,vm.map (eI .u8)⟩,some ⟨100,(cA (eI .u64) s_E (cA (eI .u64) s_S []))⟩]) rfl rfl h23 rfl (Vm.Fn.pure (iW h_25) zR rfl) ?_
   refine zz ?_
   refine z8 (v := (eB bN)) (h' := [some ⟨96,p.map (eI .u64)⟩,some ⟨25,vm.map (eI .u8)⟩,some ⟨100,(cA (eI .u64) s_E (cA (eI .u64) s_S []))⟩]) rfl rfl h26 rfl (Vm.Fn.pure (aBR h_28) zR rfl) ?_
   refine zz ?_
   exact hG1 _ _ _ _ (zG [0,1,2]) (J1 (!bN) hr)
theorem zU {N : Nat} {aB : List Int} {aD : Int} {aH : Int} {aF : List (List Int)} {aC : List aG} {aP : Int} {key : List Int} {xY : List Int} {r : Int} (hr : cE N aB aD aH aF aC aP key xY = some r) :
  Vm.Fn Tryz.prog 72 [some ⟨56,(bL (eI .u8) aB [(eI .i64 aD),(eI .i64 aH),(.sl 1 0 aF.length 1 false),(.sl 2 0 aC.length 2 true),(eI .i64 aP)])⟩,some ⟨31,aF.map (eL 1 (eI .u8))⟩,some ⟨73,aC.flatMap aL⟩] [(.ptr 0 0),(.row none 1 (key.map (eI .u8))),(.row none 1 (xY.map (eI .u8)))] (eI .i64 r) [some ⟨56,(bL (eI .u8) aB [(eI .i64 aD),(eI .i64 aH),(.sl 1 0 aF.length 1 false),(.sl 2 0 aC.length 2 true),(eI .i64 aP)])⟩,some ⟨31,aF.map (eL 1 (eI .u8))⟩,some ⟨73,aC.flatMap aL⟩] := by
 refine zf Tryz.func72 Tryz.ntmps72 ?_
 unfold cE at hr
 refine zz ?_
 refine AB.seq ?_
 refine zz ?_
 refine zk hr rfl (fun h1 hr => ?_) (fun h1 hr => ?_)
 ·refine zz ?_
  obtain rfl := sj hr
  exact bH Tryz.results72 [0,1,2]
 ·obtain ⟨bC,h_2,hr⟩ := aA hr
  obtain ⟨x16,h_3,hr⟩ := aA hr
  obtain ⟨q,h_4,hr⟩ := aA hr
  refine zz ?_
  refine xw (v := (.eptr [.agg (bC.map (eI .u8))] 0 0)) (aBo rfl (apR (E := (eI .u8)) yO (fun _ => rfl) zl h_2)) <| xw (v := (.agg (bC.map (eI .u8)))) (bO rfl (aHi (E := (eI .u8)) (l := bC) yO rfl (bW h_2))) <| xp (oX h_3) ?_
  refine zz ?_
  refine AB.seq ?_
  obtain ⟨x18,h_5,hr⟩ := aA hr
  refine zz ?_
  refine xp (aBR h_5) ?_
  refine zz ?_
  refine zk hr rfl (fun h6 hr => ?_) (fun h6 hr => ?_)
  ·refine zz ?_
   obtain rfl := sj hr
   exact bH Tryz.results72 [0,1,2]
  ·refine zz ?_
   refine AB.seq ?_
   refine zz ?_
   refine zk hr rfl (fun h7 hr => ?_) (fun h7 hr => ?_)
   ·refine zz ?_
    obtain rfl := sj hr
    exact bH Tryz.results72 [0,1,2]
   ·obtain ⟨x25,h_8,hr⟩ := aA hr
    refine zz ?_
    refine xp (aEV h_8) ?_
    refine zz ?_
    refine xw (v := (.ptr 4 0)) (h' := [some ⟨56,(bL (eI .u8) aB [(eI .i64 aD),(eI .i64 aH),(.sl 1 0 aF.length 1 false),(.sl 2 0 aC.length 2 true),(eI .i64 aP)])⟩,some ⟨31,aF.map (eL 1 (eI .u8))⟩,some ⟨73,aC.flatMap aL⟩,some ⟨96,x16.map (eI .u64)⟩,some ⟨100,(cA (eI .u64) (List.replicate 4 0) (cA (eI .u64) (List.replicate 4 0) []))⟩]) (iC nO rfl rfl rfl) ?_
    refine zz ?_
    refine AB.seq ?_
    refine AB.seq_g fun K1 hK1 hG1 => ?_
    have J1 : ∀ (x40 : Bool),eO N aB aD aH aF aC aP x40 = some r → K1 (aE 41 [(40,(eB x40))]) [some ⟨56,(bL (eI .u8) aB [(eI .i64 aD),(eI .i64 aH),(.sl 1 0 aF.length 1 false),(.sl 2 0 aC.length 2 true),(eI .i64 aP)])⟩,some ⟨31,aF.map (eL 1 (eI .u8))⟩,some ⟨73,aC.flatMap aL⟩] := by
     intro x40 hr
     unfold eO at hr
     refine hK1 _ _ ?_
     refine zk hr rfl (fun h9 hr => ?_) (fun h9 hr => ?_)
     ·refine zz ?_
      obtain rfl := sj hr
      exact bH Tryz.results72 [0,1,2]
     ·refine zz ?_
      obtain rfl := sj hr
      exact bH Tryz.results72 [0,1,2]
    rcases Bool.eq_false_or_eq_true (x25.2.2 != 0) with h10 | h10
    ·replace hr := cV hr h10
     refine AB.rs mixed [90] [] [[0,1,2,3,4,5,6,7,8,9,10,11,12]] ?_
     refine zz ?_
     exact hG1 _ _ _ _ (zG [0,1,2]) (J1 true hr)
    ·replace hr := cU hr h10
     obtain ⟨q_1,h_11,hr⟩ := aA hr
     obtain ⟨x38,h_12,hr⟩ := aA hr
     refine AB.rs mixed [90] [] [[0,1,2,3,4,5,6,7,8,9,10,11,12]] ?_
     refine zz ?_
     refine xu (aES h_12) ?_
     refine zz ?_
     exact hG1 _ _ _ _ (zG [0,1,2]) (J1 (!x38) hr)
theorem r5 {N : Nat} {aB : List Int} {aD : Int} {aH : Int} {aF : List (List Int)} {aC : List aG} {aP : Int} {dS : Int} {vn : Int} {r : Int × (List Int) × Int × Int × (List (List Int)) × (List aG) × Int} (hr : fX N aB aD aH aF aC aP dS vn = some r) :
  Vm.Fn Tryz.prog 59 [some ⟨56,(bL (eI .u8) aB [(eI .i64 aD),(eI .i64 aH),(.sl 1 0 aF.length 1 false),(.sl 2 0 aC.length 2 true),(eI .i64 aP)])⟩,some ⟨31,aF.map (eL 1 (eI .u8))⟩,some ⟨73,aC.flatMap aL⟩] [(.ptr 0 0),(eI .i64 dS),(eI .i64 vn)] (eI .i64 r.1) [some ⟨56,(bL (eI .u8) r.2.1 [(eI .i64 r.2.2.1),(eI .i64 r.2.2.2.1),(.sl 3 0 r.2.2.2.2.1.length 1 false),(.sl 4 0 r.2.2.2.2.2.1.length 2 true),(eI .i64 r.2.2.2.2.2.2)])⟩,none,none,some ⟨31,r.2.2.2.2.1.map (eL 1 (eI .u8))⟩,some ⟨73,r.2.2.2.2.2.1.flatMap aL⟩] := by
 refine zf Tryz.func59 Tryz.ntmps59 ?_
 unfold fX at hr
 refine zz ?_
 refine AB.seq ?_
 obtain ⟨fN,h_1,hr⟩ := aA hr
 refine AB.rs mixed [] [] [[0,1,2,3,4,5,6,7,8,9,10,11,12]] ?_
 refine zz ?_
 refine xw (v := (.sl 1 (Int.toNat (IntKind.i64.wrap ((aF.length : Int) - vn)) * 1) fN.length 1 false)) (b5 rfl rfl rfl (aNE (l := aF) rfl yR cG rfl rfl rfl h_1)) ?_
 refine zz ?_
 refine AB.seq ?_
 obtain ⟨x43,h_2,hr⟩ := aA hr
 refine AB.rs mixed [] [] [[0,1,2,3,4,5,6,7,8,9,10,11,12,13,14,15,16,17,18,19,20]] ?_
 refine zz ?_
 refine xw (v := (.sl 1 (Int.toNat (IntKind.i64.wrap ((aF.length : Int) - (IntKind.i64.wrap (2 * vn)))) * 1) x43.length 1 false)) (b5 rfl rfl rfl (aNE (l := aF) rfl yR cG rfl rfl rfl h_2)) ?_
 refine zz ?_
 refine AB.seq_g fun K1 hK1 hG1 => ?_
 have J1 : ∀ (count : Int),jO N aB aD aH aF aC aP dS vn count = some r → K1 (aE 78 [(0,(.ptr 0 0)),(1,(eI .i64 dS)),(2,(eI .i64 vn)),(9,(eI .i64 count))]) [some ⟨56,(bL (eI .u8) aB [(eI .i64 aD),(eI .i64 aH),(.sl 1 0 aF.length 1 false),(.sl 2 0 aC.length 2 true),(eI .i64 aP)])⟩,some ⟨31,aF.map (eL 1 (eI .u8))⟩,some ⟨73,aC.flatMap aL⟩] := by
  intro count hr
  unfold jO at hr
  refine hK1 _ _ ?_
  obtain ⟨x76,h_3,hr⟩ := aA hr
  obtain ⟨x77,h_4,hr⟩ := aA hr
  refine zz ?_
  refine zc (wO h_3) [] ?_
  refine OpsX.ghost (zv 3) ?_
  refine zc (i0 h_4) [0,1,2] ?_
  refine zz ?_
  obtain rfl := sj hr
  exact bH Tryz.results59 [0,1,2,4,5]
 obtain ⟨a9,hL2,hr⟩ := aA hr
 refine zz ?_
 refine AB.block <| AB.loopN (fun m s h => ∃ (count_1 : Int) (x45 : Int),cK N aB aD aH aF aC aP dS vn fN x43 m count_1 x45 = some a9 ∧ Ghost 3 s h (aE 78 [(0,(.ptr 0 0)),(1,(eI .i64 dS)),(2,(eI .i64 vn)),(7,(.sl 1 (Int.toNat (IntKind.i64.wrap ((aF.length : Int) - vn)) * 1) fN.length 1 false)),(8,(.sl 1 (Int.toNat (IntKind.i64.wrap ((aF.length : Int) - (IntKind.i64.wrap (2 * vn)))) * 1) x43.length 1 false)),(9,(eI .i64 count_1)),(44,(eI .i64 vn)),(45,(eI .i64 x45))]) [some ⟨56,(bL (eI .u8) aB [(eI .i64 aD),(eI .i64 aH),(.sl 1 0 aF.length 1 false),(.sl 2 0 aC.length 2 true),(eI .i64 aP)])⟩,some ⟨31,aF.map (eL 1 (eI .u8))⟩,some ⟨73,aC.flatMap aL⟩]) (n := N) ⟨0,0,hL2,(zG [0,1,2])⟩ (by rintro s h ⟨_,_,h0,_⟩; simp [cK] at h0) ?_
 rintro m2 s h ⟨count_1,x45,hr2,hg⟩
 refine AB.ghost hg ?_
 clear hg hL2
 rw [cK] at hr2
 refine zz ?_
 refine AB.seq ?_
 refine zk hr2 rfl (fun h5 hr2 => ?_) (fun h5 hr2 => ?_)
 ·refine zz ?_
  refine AB.seq_g fun K3 hK3 hG3 => ?_
  have J3 : ∀ (zC : Int),gB N aB aD aH aF aC aP dS vn fN x43 x45 (cK N aB aD aH aF aC aP dS vn fN x43 m2) zC = some a9 → K3 (aE 78 [(0,(.ptr 0 0)),(1,(eI .i64 dS)),(2,(eI .i64 vn)),(7,(.sl 1 (Int.toNat (IntKind.i64.wrap ((aF.length : Int) - vn)) * 1) fN.length 1 false)),(8,(.sl 1 (Int.toNat (IntKind.i64.wrap ((aF.length : Int) - (IntKind.i64.wrap (2 * vn)))) * 1) x43.length 1 false)),(9,(eI .i64 zC)),(44,(eI .i64 vn)),(45,(eI .i64 x45))]) [some ⟨56,(bL (eI .u8) aB [(eI .i64 aD),(eI .i64 aH),(.sl 1 0 aF.length 1 false),(.sl 2 0 aC.length 2 true),(eI .i64 aP)])⟩,some ⟨31,aF.map (eL 1 (eI .u8))⟩,some ⟨73,aC.flatMap aL⟩] := by
   intro zC hr2
   unfold gB at hr2
   refine hK3 _ _ ?_
   refine zz ?_
   exact ⟨zC,IntKind.i64.wrap (x45 + 1),hr2,(zG [0,1,2])⟩
  refine AB.block ?_
  refine zz ?_
  refine AB.seq <| AB.seq ?_
  obtain ⟨x51,h_6,hr2⟩ := aA hr2
  obtain ⟨x55,h_7,hr2⟩ := aA hr2
  obtain ⟨x57,h_8,hr2⟩ := aA hr2
  refine AB.rs mixed [] [72] [[0,1,2,3,4,5,6,7,8,9,10]] ?_
  refine zz ?_
  refine xw (v := (.ptr 1 (Int.toNat (IntKind.i64.wrap ((aF.length : Int) - vn)) + Int.toNat x45))) (yS rfl rfl (iaY rfl yR cG rfl h_6)) <| xw (v := (.row none 1 (x51.map (eI .u8)))) (bO rfl (ldY (E := (eL 1 (eI .u8))) (l := aF) (y := x51) cG rfl rfl h_1 h_6)) ?_
  refine zz ?_
  refine xw (v := (.ptr 1 (Int.toNat (IntKind.i64.wrap ((aF.length : Int) - (IntKind.i64.wrap (2 * vn)))) + Int.toNat x45))) (yS rfl rfl (iaY rfl yR cG rfl h_7)) <| xw (v := (.row none 1 (x55.map (eI .u8)))) (bO rfl (ldY (E := (eL 1 (eI .u8))) (l := aF) (y := x55) cG rfl rfl h_2 h_7)) <| zg (zU h_8) [0,1,2] ?_
  refine zz ?_
  refine zk hr2 rfl (fun h10 hr2 => ?_) (fun h10 hr2 => ?_)
  ·refine zz ?_
   obtain rfl := sj hr2
   obtain rfl := sj hr
   exact bH Tryz.results59 [0,1,2,1,2]
  ·refine zz ?_
   refine xw (v := (.ptr 1 (Int.toNat (IntKind.i64.wrap ((aF.length : Int) - (IntKind.i64.wrap (2 * vn)))) + Int.toNat x45))) (yS rfl rfl (iaY rfl yR cG rfl h_7)) <| xw (v := (.row none 1 (x55.map (eI .u8)))) (bO rfl (ldY (E := (eL 1 (eI .u8))) (l := aF) (y := x55) cG rfl rfl h_2 h_7)) ?_
   refine zz ?_
   refine zk hr2 rfl (fun h11 hr2 => ?_) (fun h11 hr2 => ?_)
   ·refine zz ?_
    exact hG3 _ _ _ _ (zG [0,1,2]) (J3 (IntKind.i64.wrap (count_1 + 1)) hr2)
   ·refine zz ?_
    exact hG3 _ _ _ _ (zG [0,1,2]) (J3 count_1 hr2)
 ·refine zz ?_
  obtain rfl := sj hr2
  refine zz ?_
  exact hG1 _ _ _ _ (zG [0,1,2]) (J1 count_1 hr)
theorem zM {N : Nat} {b : List Int} {r : Int × Int} (hr : gO N b = some r) :
  Vm.Fn Tryz.prog 14 [] [(.row none 1 (b.map (eI .u8)))] (.tup [(eI .u32 r.1),(eI .i64 r.2)]) [] := by
 refine zf Tryz.func14 Tryz.ntmps14 ?_
 unfold gO at hr
 refine zz ?_
 refine AB.seq ?_
 refine AB.seq_g fun K1 hK1 hG1 => ?_
 have J1 : ∀ (fN : Bool),eK N b fN = some r → K1 (aE 40 [(0,(.row none 1 (b.map (eI .u8)))),(23,(eB fN))]) [] := by
  intro fN hr
  unfold eK at hr
  refine hK1 _ _ ?_
  refine zk hr rfl (fun h1 hr => ?_) (fun h1 hr => ?_)
  ·refine zz ?_
   obtain rfl := sj hr
   exact v5 Tryz.results14 []
  ·refine zz ?_
   refine AB.seq_g fun K2 hK2 hG2 => ?_
   have J2 : ∀ (vn : Int),qG N vn = some r → K2 (aE 40 [(4,(eI .u32 vn))]) [] := by
    intro vn hr
    unfold qG at hr
    refine hK2 _ _ ?_
    refine zz ?_
    obtain rfl := sj hr
    exact v5 Tryz.results14 []
   obtain ⟨tH,hL3,hr⟩ := aA hr
   refine zz ?_
   refine AB.block <| AB.loopN (fun m s h => ∃ (cX : Int) (x26 : Int),eW N b m cX x26 = some tH ∧ Ghost 0 s h (aE 40 [(4,(eI .u32 cX)),(24,(.row none 1 (b.map (eI .u8)))),(25,(eI .i64 (b.length : Int))),(26,(eI .i64 x26))]) []) (n := N) ⟨0,0,hL3,(zG [])⟩ (by rintro s h ⟨_,_,h0,_⟩; simp [eW] at h0) ?_
   rintro m3 s h ⟨cX,x26,hr3,hg⟩
   refine AB.ghost hg ?_
   clear hg hL3
   rw [eW] at hr3
   refine zz ?_
   refine AB.seq ?_
   refine zk hr3 rfl (fun h2 hr3 => ?_) (fun h2 hr3 => ?_)
   ·refine zz ?_
    refine AB.seq <| AB.block ?_
    obtain ⟨x29,h_3,hr3⟩ := aA hr3
    obtain ⟨x36,h_4,hr3⟩ := aA hr3
    refine zz ?_
    exact ⟨bits .or .u32 cX x36,IntKind.i64.wrap (x26 + 1),hr3,(zG [])⟩
   ·refine zz ?_
    obtain rfl := sj hr3
    refine zz ?_
    exact hG2 _ _ _ _ (zG []) (J2 cX hr)
 rcases Bool.eq_false_or_eq_true (decide (4 < (b.length : Int))) with h5 | h5
 ·replace hr := cV hr h5
  refine xr ?_
  refine zz ?_
  exact hG1 _ _ _ _ (zG []) (J1 true hr)
 ·replace hr := cU hr h5
  rcases Bool.eq_false_or_eq_true (decide (0 < (b.length : Int))) with h6 | h6
  ·replace hr := cV hr h6
   obtain ⟨x19,h_7,hr⟩ := aA hr
   refine xr ?_
   refine zz ?_
   exact hG1 _ _ _ _ (zG []) (J1 (x19 == 0) hr)
  ·replace hr := cU hr h6
   refine xr ?_
   refine zz ?_
   exact hG1 _ _ _ _ (zG []) (J1 false hr)
theorem zQ {N : Nat} {eF : List Int} {now : Int} {r : Int} (hr : j4 N eF now = some r) :
  Vm.Fn Tryz.prog 60 [] [(.row none 1 (eF.map (eI .u8))),(eI .i64 now)] (eI .i64 r) [] := by
 refine zf Tryz.func60 Tryz.ntmps60 ?_
 unfold j4 at hr
 obtain ⟨x9,h_1,hr⟩ := aA hr
 refine zz ?_
 refine xp (zM h_1) ?_
 refine zz ?_
 refine AB.seq ?_
 refine zz ?_
 refine zk hr rfl (fun h2 hr => ?_) (fun h2 hr => ?_)
 ·refine zz ?_
  obtain rfl := sj hr
  exact bH Tryz.results60 []
 ·refine zz ?_
  refine AB.seq ?_
  refine zz ?_
  refine zk hr rfl (fun h3 hr => ?_) (fun h3 hr => ?_)
  ·refine zz ?_
   obtain rfl := sj hr
   exact bH Tryz.results60 []
  ·refine zz ?_
   obtain rfl := sj hr
   exact bH Tryz.results60 []
theorem aAn {N : Nat} {aB : List Int} {aD : Int} {aH : Int} {aF : List (List Int)} {aC : List aG} {aP : Int} {aQ : Int} {bM : List Int} {dG : Int} {cY : Int} {r : Int × (List Int) × Int × Int × (List (List Int)) × (List aG) × Int} (hr : jL N aB aD aH aF aC aP aQ bM dG cY = some r) :
  Vm.Fn Tryz.prog 42 [some ⟨56,(bL (eI .u8) aB [(eI .i64 aD),(eI .i64 aH),(.sl 1 0 aF.length 1 false),(.sl 2 0 aC.length 2 true),(eI .i64 aP)])⟩,some ⟨31,aF.map (eL 1 (eI .u8))⟩,some ⟨73,aC.flatMap aL⟩] [(.ptr 0 0),(.agg [(eI .i64 aQ),(.row none 1 (bM.map (eI .u8))),(eI .i64 dG),(eI .i64 cY)])] (eI .i64 r.1) [some ⟨56,(bL (eI .u8) r.2.1 [(eI .i64 r.2.2.1),(eI .i64 r.2.2.2.1),(.sl 3 0 r.2.2.2.2.1.length 1 false),(.sl 4 0 r.2.2.2.2.2.1.length 2 true),(eI .i64 r.2.2.2.2.2.2)])⟩,none,none,some ⟨31,r.2.2.2.2.1.map (eL 1 (eI .u8))⟩,some ⟨73,r.2.2.2.2.2.1.flatMap aL⟩] := by
 refine zf Tryz.func42 Tryz.ntmps42 ?_
 unfold jL at hr
 refine zz ?_
 refine AB.seq_g fun K1 hK1 hG1 => ?_
 have J1 : ∀ (c0 : List Int) (rZ : Int) (rV : Int) (qW : Int) (l3 : List (List Int)) (l4 : List aG),cO N c0 rZ rV qW l3 l4 = some r → K1 (aE 150 []) [some ⟨56,(bL (eI .u8) c0 [(eI .i64 rZ),(eI .i64 rV),(.sl 3 0 l3.length 1 false),(.sl 4 0 l4.length 2 true),(eI .i64 qW)])⟩,none,none,some ⟨31,l3.map (eL 1 (eI .u8))⟩,some ⟨73,l4.flatMap aL⟩] := by
  intro c0 rZ rV qW l3 l4 hr
  unfold cO at hr
  refine hK1 _ _ ?_
  refine zz ?_
  obtain rfl := sj hr
  exact bH Tryz.results42 [0,1,2,3,4]
 refine zz ?_
 refine AB.block ?_
 refine zz ?_
 refine zk hr rfl (fun h1 hr => ?_) (fun h1 hr => ?_)
 ·obtain ⟨bC,h_2,hr⟩ := aA hr
  refine zz ?_
  refine zc (oL h_2) [0,1,2] ?_
  refine zz ?_
  obtain rfl := sj hr
  exact bH Tryz.results42 [0,1,2,4,5]
 ·refine zz ?_
  refine zk hr rfl (fun h3 hr => ?_) (fun h3 hr => ?_)
  ·obtain ⟨x19,h_4,hr⟩ := aA hr
   obtain ⟨bE,h_5,hr⟩ := aA hr
   refine zz ?_
   refine zc (dC h_4) [0,1,2] ?_
   refine zc (oL h_5) [0,1,2] ?_
   refine zz ?_
   obtain rfl := sj hr
   exact bH Tryz.results42 [0,1,2,4,5]
  ·refine zz ?_
   refine zk hr rfl (fun h6 hr => ?_) (fun h6 hr => ?_)
   ·obtain ⟨fO,h_7,hr⟩ := aA hr
    refine zz ?_
    refine zc (kP h_7) [0,1,2] ?_
    refine zz ?_
    exact hG1 _ _ _ _ (zG [0,1,2,4,5]) (J1 fO.1 fO.2.1 fO.2.2.1 fO.2.2.2.2.2 fO.2.2.2.1 fO.2.2.2.2.1 hr)
   ·refine zz ?_
    refine zk hr rfl (fun h8 hr => ?_) (fun h8 hr => ?_)
    ·obtain ⟨x50,h_9,hr⟩ := aA hr
     obtain ⟨x58,h_10,hr⟩ := aA hr
     obtain ⟨x61,h_11,hr⟩ := aA hr
     refine zz ?_
     refine AB.rs mixed [] [] [[0,1,2,3,4,5,6,7,8,9,10,11,12,13,14,15,16,17,18,19,20,21,22,23,24,25,26,27,28,29,30,31]] ?_
     refine zz ?_
     exact hG1 _ _ _ _ (lT [0,1,2,1,2]) (J1 aB aD aH aP ((aF.set (Int.toNat (IntKind.i64.wrap ((aF.length : Int) - 1))) x50).set (Int.toNat (IntKind.i64.wrap ((aF.length : Int) - 2))) x58) aC hr)
    ·refine zz ?_
     refine zk hr rfl (fun h12 hr => ?_) (fun h12 hr => ?_)
     ·obtain ⟨x66,h_13,hr⟩ := aA hr
      obtain ⟨x77,h_15,hr⟩ := aA hr
      obtain ⟨x79,h_16,hr⟩ := aA hr
      obtain ⟨x80,h_18,hr⟩ := aA hr
      obtain ⟨x81,h_20,hr⟩ := aA hr
      refine AB.rs mixed [57] [40,56] [[0,1,2,3,4,5,6,7,8,9,10,11,12,13,14,15,16],[17]] ?_
      refine zz ?_
      refine zg (dC h_13) [0,1,2] ?_
      refine zz ?_
      refine xu (aEI h_16) <| zg (wO h_18) [] ?_
      refine zz ?_
      refine ⟨_,_,(zv 4), ?_⟩
      refine zg (i0 h_20) [0,1,2] ?_
      refine zz ?_
      exact hG1 _ _ _ _ (zG [0,1,2,5,6]) (J1 x81.1 x81.2.1 x81.2.2.1 x81.2.2.2.2.2 x81.2.2.2.1 x81.2.2.2.2.1 hr)
     ·refine zz ?_
      refine zk hr rfl (fun h22 hr => ?_) (fun h22 hr => ?_)
      ·obtain ⟨x86,h_23,hr⟩ := aA hr
       obtain ⟨x87,h_24,hr⟩ := aA hr
       obtain ⟨x89,h_25,hr⟩ := aA hr
       obtain ⟨x90,h_26,hr⟩ := aA hr
       refine zz ?_
       refine zc (dC h_23) [0,1,2] ?_
       refine xp (rA h_24) ?_
       refine zz ?_
       refine zc (wO h_25) [] ?_
       refine OpsX.ghost (zv 4) ?_
       refine zc (i0 h_26) [0,1,2] ?_
       refine zz ?_
       exact hG1 _ _ _ _ (zG [0,1,2,5,6]) (J1 x90.1 x90.2.1 x90.2.2.1 x90.2.2.2.2.2 x90.2.2.2.1 x90.2.2.2.2.1 hr)
      ·refine zz ?_
       refine zk hr rfl (fun h27 hr => ?_) (fun h27 hr => ?_)
       ·refine AB.seq ?_
        obtain ⟨x94,h_28,hr⟩ := aA hr
        obtain ⟨x95,h_29,hr⟩ := aA hr
        refine zz ?_
        refine zc (dC h_28) [0,1,2] ?_
        refine xp (rA h_29) ?_
        refine zz ?_
        refine zk hr rfl (fun h30 hr => ?_) (fun h30 hr => ?_)
        ·refine zz ?_
         obtain rfl := sj hr
         exact bH Tryz.results42 [0,1,2,1,2]
        ·obtain ⟨x98,h_31,hr⟩ := aA hr
         refine zz ?_
         refine zc (kP h_31) [0,1,2] ?_
         refine zz ?_
         exact hG1 _ _ _ _ (zG [0,1,2,4,5]) (J1 x98.1 x98.2.1 x98.2.2.1 x98.2.2.2.2.2 x98.2.2.2.1 x98.2.2.2.2.1 hr)
       ·refine zz ?_
        refine zk hr rfl (fun h32 hr => ?_) (fun h32 hr => ?_)
        ·obtain ⟨aE0,h_33,hr⟩ := aA hr
         obtain ⟨aDe,h_34,hr⟩ := aA hr
         obtain ⟨q,h_35,hr⟩ := aA hr
         refine zz ?_
         refine zc (dC h_33) [0,1,2] ?_
         refine xp (aBj h_34) ?_
         obtain ⟨sB,h_36,hr⟩ := aA hr
         refine zz ?_
         refine OpsX.ghost (zv 4) ?_
         refine zc (i0 h_36) [0,1,2] ?_
         refine zz ?_
         exact hG1 _ _ _ _ (zG [0,1,2,5,6]) (J1 sB.1 sB.2.1 sB.2.2.1 sB.2.2.2.2.2 sB.2.2.2.1 sB.2.2.2.2.1 hr)
        ·refine zz ?_
         refine zk hr rfl (fun h37 hr => ?_) (fun h37 hr => ?_)
         ·obtain ⟨aGM,h_38,hr⟩ := aA hr
          obtain ⟨aFj,h_39,hr⟩ := aA hr
          obtain ⟨aB9,h_40,hr⟩ := aA hr
          refine zz ?_
          refine zc (dC h_38) [0,1,2] ?_
          refine zz ?_
          refine zc (sU h_39) [] ?_
          refine OpsX.ghost (zv 4) ?_
          refine zc (oL h_40) [0,1,2] ?_
          refine zz ?_
          obtain rfl := sj hr
          exact bH Tryz.results42 [0,1,2,5,6]
         ·refine zz ?_
          refine zk hr rfl (fun h41 hr => ?_) (fun h41 hr => ?_)
          ·obtain ⟨aBW,h_42,hr⟩ := aA hr
           refine zz ?_
           refine zc (r5 h_42) [0,1,2] ?_
           refine zz ?_
           obtain rfl := sj hr
           exact bH Tryz.results42 [0,1,2,4,5]
          ·refine zz ?_
           refine zk hr rfl (fun h43 hr => ?_) (fun h43 hr => ?_)
           ·obtain ⟨aB6,h_44,hr⟩ := aA hr
            refine zz ?_
            refine zc (r5 h_44) [0,1,2] ?_
            refine zz ?_
            obtain rfl := sj hr
            exact bH Tryz.results42 [0,1,2,4,5]
           ·refine zz ?_
            refine zk hr rfl (fun h45 hr => ?_) (fun h45 hr => ?_)
            ·refine AB.seq ?_
             obtain ⟨aNq,h_46,hr⟩ := aA hr
             obtain ⟨aNj,h_48,hr⟩ := aA hr
             refine AB.rs mixed [60] [40] [[0,1,2,3,4,5,6,7,8]] ?_
             refine zz ?_
             refine zg (dC h_46) [0,1,2] ?_
             refine zz ?_
             refine xu (zQ h_48) ?_
             refine zz ?_
             obtain rfl := sj hr
             exact bH Tryz.results42 [0,1,2,1,2]
            ·refine zz ?_
             refine zk hr rfl (fun h50 hr => ?_) (fun h50 hr => ?_)
             ·refine AB.seq ?_
              obtain ⟨aM0,h_51,hr⟩ := aA hr
              obtain ⟨aB8,h_53,hr⟩ := aA hr
              refine AB.rs mixed [60] [40] [[0,1,2,3,4,5,6,7,8]] ?_
              refine zz ?_
              refine zg (dC h_51) [0,1,2] ?_
              refine zz ?_
              refine xu (zQ h_53) ?_
              refine zz ?_
              obtain rfl := sj hr
              exact bH Tryz.results42 [0,1,2,1,2]
             ·refine zz ?_
              refine zk hr rfl (fun h55 hr => ?_) (fun h55 hr => ?_)
              ·refine zz ?_
               obtain rfl := sj hr
               exact bH Tryz.results42 [0,1,2,1,2]
              ·refine zz ?_
               exact hG1 _ _ _ _ (zG [0,1,2,1,2]) (J1 aB aD aH aP aF aC hr)
theorem aAC {N : Nat} {aB : List Int} {aD : Int} {aH : Int} {aF : List (List Int)} {aC : List aG} {aP : Int} {aQ : Int} {bM : List Int} {dG : Int} {cY : Int} {r : Int × (List Int) × Int × Int × (List (List Int)) × (List aG) × Int} (hr : fJ N aB aD aH aF aC aP aQ bM dG cY = some r) :
  Vm.Fn Tryz.prog 22 [some ⟨56,(bL (eI .u8) aB [(eI .i64 aD),(eI .i64 aH),(.sl 1 0 aF.length 1 false),(.sl 2 0 aC.length 2 true),(eI .i64 aP)])⟩,some ⟨31,aF.map (eL 1 (eI .u8))⟩,some ⟨73,aC.flatMap aL⟩] [(.ptr 0 0),(.agg [(eI .i64 aQ),(.row none 1 (bM.map (eI .u8))),(eI .i64 dG),(eI .i64 cY)])] (eI .i64 r.1) [some ⟨56,(bL (eI .u8) r.2.1 [(eI .i64 r.2.2.1),(eI .i64 r.2.2.2.1),(.sl 3 0 r.2.2.2.2.1.length 1 false),(.sl 4 0 r.2.2.2.2.2.1.length 2 true),(eI .i64 r.2.2.2.2.2.2)])⟩,none,none,some ⟨31,r.2.2.2.2.1.map (eL 1 (eI .u8))⟩,some ⟨73,r.2.2.2.2.2.1.flatMap aL⟩] := by
 refine zf Tryz.func22 Tryz.ntmps22 ?_
 unfold fJ at hr
 obtain ⟨x8,h_1,hr⟩ := aA hr
 refine zz ?_
 refine zc (zO h_1) [0,1,2] ?_
 refine zz ?_
 refine AB.seq_g fun K1 hK1 hG1 => ?_
 have J1 : ∀ (counted : Bool),fF N aB aD aH aF aC aP aQ bM dG cY counted = some r → K1 (aE 116 [(0,(.ptr 0 0)),(3,(.ptr 3 0)),(5,(eB counted))]) [some ⟨56,(bL (eI .u8) aB [(eI .i64 aD),(eI .i64 aH),(.sl 1 0 aF.length 1 false),(.sl 2 0 aC.length 2 true),(eI .i64 aP)])⟩,some ⟨31,aF.map (eL 1 (eI .u8))⟩,some ⟨73,aC.flatMap aL⟩,some ⟨46,[(eI .i64 aQ),(.row none 1 (bM.map (eI .u8))),(eI .i64 dG),(eI .i64 cY)]⟩] := by
  intro counted hr
  unfold fF at hr
  refine hK1 _ _ ?_
  refine AB.seq_g fun K2 hK2 hG2 => ?_
  have J2 : ∀ (c0 : Int),fB N aB aD aH aF aC aQ bM dG cY counted c0 = some r → K2 (aE 116 [(0,(.ptr 0 0)),(3,(.ptr 3 0)),(5,(eB counted))]) [some ⟨56,(bL (eI .u8) aB [(eI .i64 aD),(eI .i64 aH),(.sl 1 0 aF.length 1 false),(.sl 2 0 aC.length 2 true),(eI .i64 c0)])⟩,some ⟨31,aF.map (eL 1 (eI .u8))⟩,some ⟨73,aC.flatMap aL⟩,some ⟨46,[(eI .i64 aQ),(.row none 1 (bM.map (eI .u8))),(eI .i64 dG),(eI .i64 cY)]⟩] := by
   intro c0 hr
   unfold fB at hr
   refine hK2 _ _ ?_
   refine zz ?_
   refine AB.seq_g fun K3 hK3 hG3 => ?_
   have J3 : ∀ (rZ : List Int) (rV : Int) (qW : Int) (wT : Int) (l3 : List (List Int)) (l4 : List aG),eG N rZ rV qW wT l3 l4 = some r → K3 (aE 116 []) [some ⟨56,(bL (eI .u8) rZ [(eI .i64 rV),(eI .i64 qW),(.sl 3 0 l3.length 1 false),(.sl 4 0 l4.length 2 true),(eI .i64 wT)])⟩,none,none,some ⟨31,l3.map (eL 1 (eI .u8))⟩,some ⟨73,l4.flatMap aL⟩] := by
    intro rZ rV qW wT l3 l4 hr
    unfold eG at hr
    refine hK3 _ _ ?_
    refine zz ?_
    obtain rfl := sj hr
    exact bH Tryz.results22 [0,1,2,3,4]
   refine zz ?_
   refine AB.block ?_
   refine zz ?_
   refine zk hr rfl (fun h2 hr => ?_) (fun h2 hr => ?_)
   ·refine AB.seq_g fun K4 hK4 hG4 => ?_
    have J4 : ∀ (jA : List aG),iE N aB aD aH aF counted c0 jA = some r → K4 (aE 116 [(0,(.ptr 0 0)),(5,(eB counted))]) [some ⟨56,(bL (eI .u8) aB [(eI .i64 aD),(eI .i64 aH),(.sl 1 0 aF.length 1 false),(.sl 3 0 jA.length 2 true),(eI .i64 c0)])⟩,some ⟨31,aF.map (eL 1 (eI .u8))⟩,none,some ⟨73,jA.flatMap aL⟩] := by
     intro jA hr
     unfold iE at hr
     refine hK4 _ _ ?_
     refine zz ?_
     refine zk hr rfl (fun h3 hr => ?_) (fun h3 hr => ?_)
     ·obtain ⟨x86,h_4,hr⟩ := aA hr
      refine zz ?_
      refine zc (kP h_4) [0,1,3] ?_
      refine zz ?_
      exact hG3 _ _ _ _ (zG [0,1,2,4,5]) (J3 x86.1 x86.2.1 x86.2.2.1 x86.2.2.2.2.2 x86.2.2.2.1 x86.2.2.2.2.1 hr)
     ·refine zz ?_
      exact hG3 _ _ _ _ (zG [0,1,2,1,3]) (J3 aB aD aH c0 aF jA hr)
    rcases Bool.eq_false_or_eq_true counted with h5 | h5
    ·replace hr := cV hr h5
     obtain ⟨x76,h_6,hr⟩ := aA hr
     obtain ⟨x77,h_8,hr⟩ := aA hr
     obtain ⟨x81,h_10,hr⟩ := aA hr
     refine AB.rs mixed [33] [40] [[0,1,2,3,4,5,6,7,8,9,10,11,12,13,14,15,16,17]] ?_
     refine zz ?_
     refine zg (dC h_6) [0,1,2] ?_
     refine xu (rA h_8) ?_
     refine zz ?_
     refine xw (v := (.sl 4 0 1 2 true)) (h' := [some ⟨56,(bL (eI .u8) aB [(eI .i64 aD),(eI .i64 aH),(.sl 1 0 aF.length 1 false),(.sl 2 0 aC.length 2 true),(eI .i64 c0)])⟩,some ⟨31,aF.map (eL 1 (eI .u8))⟩,some ⟨73,aC.flatMap aL⟩,some ⟨46,[(eI .i64 aQ),(.row none 1 (bM.map (eI .u8))),(eI .i64 dG),(eI .i64 cY)]⟩,some ⟨73,[(aG.mk counted x77)].flatMap aL⟩]) (qF rfl (aCO (C := aL) (xs := [(aG.mk counted x77)]) (K := 2) (fun _ => rfl) (fun _ => rfl) aFf aA9 ⟨zl,zl,zl⟩ rfl rfl rfl rfl rfl rfl)) ?_
     refine zz ?_
     exact hG4 _ _ _ _ (zG [0,1,2,5]) (J4 x81 hr)
    ·replace hr := cU hr h5
     obtain ⟨aIF,h_11,hr⟩ := aA hr
     refine AB.rs mixed [33] [40] [[0,1,2,3,4,5,6,7,8,9,10,11,12,13,14,15,16,17]] ?_
     refine zz ?_
     refine xw (v := (.sl 4 0 1 2 true)) (h' := [some ⟨56,(bL (eI .u8) aB [(eI .i64 aD),(eI .i64 aH),(.sl 1 0 aF.length 1 false),(.sl 2 0 aC.length 2 true),(eI .i64 c0)])⟩,some ⟨31,aF.map (eL 1 (eI .u8))⟩,some ⟨73,aC.flatMap aL⟩,some ⟨46,[(eI .i64 aQ),(.row none 1 (bM.map (eI .u8))),(eI .i64 dG),(eI .i64 cY)]⟩,some ⟨73,[(aG.mk counted false)].flatMap aL⟩]) (qF rfl (aCO (C := aL) (xs := [(aG.mk counted false)]) (K := 2) (fun _ => rfl) (fun _ => rfl) aFf aA9 ⟨zl,zl,zl⟩ rfl rfl rfl rfl rfl rfl)) ?_
     refine zz ?_
     exact hG4 _ _ _ _ (zG [0,1,2,5]) (J4 aIF hr)
   ·refine zz ?_
    refine zk hr rfl (fun h12 hr => ?_) (fun h12 hr => ?_)
    ·obtain ⟨x99,h_13,hr⟩ := aA hr
     refine AB.rs mixed [] [] [[0,1,2,3,4,5,6,7,8,9,10,11,12,13,14,15,16]] ?_
     refine zz ?_
     refine xw (v := (eB x99.taken)) (bO rfl (aGp (C := aL) (K := 2) (off := 1) (fun _ => rfl) rfl h_13 zl (nV yA rfl rfl))) ?_
     refine zz ?_
     refine xy (h' := [some ⟨56,(bL (eI .u8) aB [(eI .i64 aD),(eI .i64 aH),(.sl 1 0 aF.length 1 false),(.sl 2 0 aC.length 2 true),(eI .i64 c0)])⟩,some ⟨31,aF.map (eL 1 (eI .u8))⟩,some ⟨73,(aC.set (Int.toNat (IntKind.i64.wrap ((aC.length : Int) - 1))) (aG.mk x99.outer (!x99.taken))).flatMap aL⟩,some ⟨46,[(eI .i64 aQ),(.row none 1 (bM.map (eI .u8))),(eI .i64 dG),(eI .i64 cY)]⟩]) (aY rfl rfl (aNF (C := aL) (K := 2) (off := 1) (fun _ => rfl) yA rfl h_13 rfl rfl zl rfl rfl)) ?_
     refine zz ?_
     exact hG3 _ _ _ _ (lT [0,1,2,1,2]) (J3 aB aD aH c0 aF (aC.set (Int.toNat (IntKind.i64.wrap ((aC.length : Int) - 1))) (aG.mk x99.outer (!x99.taken))) hr)
    ·refine zz ?_
     refine zk hr rfl (fun h14 hr => ?_) (fun h14 hr => ?_)
     ·obtain ⟨aCi,h_15,hr⟩ := aA hr
      refine zz ?_
      refine xw (v := (.sl 2 0 aCi.length 2 true)) (b5 rfl rfl rfl (aD8 (l := aC) rfl aFf aA9 rfl rfl rfl h_15)) ?_
      refine OpsX.ghost (Ghost.cutF (t := 113) (C := aL) (l := aC) (K := 2) (h' := [some ⟨56,(bL (eI .u8) aB [(eI .i64 aD),(eI .i64 aH),(.sl 1 0 aF.length 1 false),(.sl 2 0 aC.length 2 true),(eI .i64 c0)])⟩,some ⟨31,aF.map (eL 1 (eI .u8))⟩,some ⟨73,aCi.flatMap aL⟩,some ⟨46,[(eI .i64 aQ),(.row none 1 (bM.map (eI .u8))),(eI .i64 dG),(eI .i64 cY)]⟩]) (fun _ => rfl) rfl rfl h_15 rfl) ?_
      refine zz ?_
      exact hG3 _ _ _ _ (zG [0,1,2,1,2]) (J3 aB aD aH c0 aF aCi hr)
     ·refine zz ?_
      refine zk hr rfl (fun h16 hr => ?_) (fun h16 hr => ?_)
      ·obtain ⟨x64,h_17,hr⟩ := aA hr
       refine zz ?_
       refine zc (aAn h_17) [0,1,2] ?_
       refine zz ?_
       obtain rfl := sj hr
       exact bH Tryz.results22 [0,1,2,4,5]
      ·refine zz ?_
       exact hG3 _ _ _ _ (zG [0,1,2,1,2]) (J3 aB aD aH c0 aF aC hr)
  refine zz ?_
  refine zk hr rfl (fun h18 hr => ?_) (fun h18 hr => ?_)
  ·refine AB.seq ?_
   obtain ⟨x36,h_19,hr⟩ := aA hr
   refine AB.rs mixed [38] [] [[0,1,2,3,4,5,6,7,8,9]] ?_
   refine zz ?_
   refine xu (aDU h_19) ?_
   refine zz ?_
   refine AB.seq ?_
   refine zz ?_
   refine zk hr rfl (fun h21 hr => ?_) (fun h21 hr => ?_)
   ·refine zz ?_
    obtain rfl := sj hr
    exact bH Tryz.results22 [0,1,2,1,2]
   ·refine zz ?_
    refine AB.seq ?_
    obtain ⟨x51,h_22,hr⟩ := aA hr
    refine AB.rs mixed [39] [] [[0,1,2,3,4,5,6,7]] ?_
    refine zz ?_
    refine xu (aEk h_22) ?_
    refine zz ?_
    refine zk hr rfl (fun h24 hr => ?_) (fun h24 hr => ?_)
    ·refine zz ?_
     obtain rfl := sj hr
     exact bH Tryz.results22 [0,1,2,1,2]
    ·refine zz ?_
     exact hG2 _ _ _ _ (zG [0,1,2,3]) (J2 (IntKind.i64.wrap (aP + x36)) hr)
  ·refine zz ?_
   exact hG2 _ _ _ _ (zG [0,1,2,3]) (J2 aP hr)
 refine AB.seq_g fun K5 hK5 hG5 => ?_
 have J5 : ∀ (x16 : Bool),fD N aB aD aH aF aC aP aQ bM dG cY x8 x16 = some r → K5 (aE 116 [(0,(.ptr 0 0)),(3,(.ptr 3 0)),(5,(eB x8)),(16,(eB x16))]) [some ⟨56,(bL (eI .u8) aB [(eI .i64 aD),(eI .i64 aH),(.sl 1 0 aF.length 1 false),(.sl 2 0 aC.length 2 true),(eI .i64 aP)])⟩,some ⟨31,aF.map (eL 1 (eI .u8))⟩,some ⟨73,aC.flatMap aL⟩,some ⟨46,[(eI .i64 aQ),(.row none 1 (bM.map (eI .u8))),(eI .i64 dG),(eI .i64 cY)]⟩] := by
  intro x16 hr
  unfold fD at hr
  refine hK5 _ _ ?_
  refine zk hr rfl (fun h25 hr => ?_) (fun h25 hr => ?_)
  ·obtain ⟨x27,h_26,hr⟩ := aA hr
   refine AB.rs mixed [] [] [[0,1,2,3,4,5,6,7,8,9,10,11,12,13]] ?_
   refine zz ?_
   refine xw (v := (eB x27.outer)) (bO rfl (aGp (C := aL) (K := 2) (off := 0) (fun _ => rfl) rfl h_26 zl (nV yA rfl rfl))) ?_
   refine zz ?_
   exact hG1 _ _ _ _ (zG [0,1,2,3]) (J1 x27.outer hr)
  ·refine zz ?_
   exact hG1 _ _ _ _ (zG [0,1,2,3]) (J1 x8 hr)
 rcases Bool.eq_false_or_eq_true (aQ == 15) with h27 | h27
 ·replace hr := cV hr h27
  refine xr ?_
  refine zz ?_
  exact hG5 _ _ _ _ (zG [0,1,2,3]) (J5 true hr)
 ·replace hr := cU hr h27
  refine xr ?_
  refine zz ?_
  exact hG5 _ _ _ _ (zG [0,1,2,3]) (J5 (aQ == 16) hr)
end Go.Proofs.YtnllpckhipmpgaaGreatDoor
