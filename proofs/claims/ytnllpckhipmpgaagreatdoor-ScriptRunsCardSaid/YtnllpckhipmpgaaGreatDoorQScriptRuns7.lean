/- Texts of ours, joined: Wk2, Wk3. -/
import Derived.Test.YtnllpckhipmpgaaGreatDoorQScriptRuns6
set_option linter.unusedVariables false
set_option linter.unusedSimpArgs false
set_option maxRecDepth 20000
set_option maxHeartbeats 1000000
namespace Go.Proofs.YtnllpckhipmpgaaGreatDoor
open Go Go.Vm
theorem yL {N : Nat} {b : List Int} {stack : List (List Int)} {dK : List Int} {eH : Int} {kR : Int} {r : (List (List Int)) × Int × Int} (hr : p9 N b stack dK eH kR = some r) :
  Vm.Fn Tryz.prog 9 [] [(.row none 1 (b.map (eI .u8))),(.row none 1 (stack.map (eL 1 (eI .u8)))),(.agg (bL (eI .u8) dK [(eI .i64 eH),(eI .i64 kR)]))] (.tup [(.sl 0 0 r.1.length 1 false),(eI .i64 r.2.1),(eI .i64 r.2.2)]) [some ⟨31,r.1.map (eL 1 (eI .u8))⟩] := by
 refine zf Tryz.func9 Tryz.ntmps9 ?_
 unfold p9 at hr
 obtain ⟨x17,h_1,hr⟩ := aA hr
 refine zz ?_
 refine zc (aDG h_1) [] ?_
 refine zz ?_
 refine AB.seq ?_
 refine zz ?_
 refine zk hr rfl (fun h2 hr => ?_) (fun h2 hr => ?_)
 ·refine zz ?_
  obtain rfl := sj hr
  exact rN Tryz.results9 aW aW aW (zW 31 [2])
 ·refine zz ?_
  refine AB.seq ?_
  obtain ⟨fO,h_3,hr⟩ := aA hr
  refine zz ?_
  refine zcL (aDb h_3) [] [1] ?_
  refine zz ?_
  refine zk hr rfl (fun h4 hr => ?_) (fun h4 hr => ?_)
  ·refine zz ?_
   obtain rfl := sj hr
   exact rN Tryz.results9 aW aW aW (zW 31 [2])
  ·refine zz ?_
   refine AB.seq ?_
   obtain ⟨x27,h_5,hr⟩ := aA hr
   refine zz ?_
   refine xp (aCX h_5) ?_
   refine zz ?_
   refine zk hr rfl (fun h6 hr => ?_) (fun h6 hr => ?_)
   ·refine zz ?_
    obtain rfl := sj hr
    exact rN Tryz.results9 aW aW aW (zW 31 [2])
   ·refine zz ?_
    refine AB.seq ?_
    obtain ⟨dL,h_7,hr⟩ := aA hr
    refine AB.rd (eC []) (eC [21]) mixed <| DrawG.pick (n := 5) (i := 0) (by decide +kernel) rfl (gS (v := (.agg (bL (eI .u8) dK [(eI .i64 eH),(eI .i64 kR)]))) (sv (bO rfl (ldP rfl (aAp (ds := (bL (eI .u8) dK [(eI .i64 eH),(eI .i64 kR)])) aAc rfl zl rfl))))) <| DrawG.pick (n := 4) (i := 1) (by decide +kernel) rfl (gS (v := (.row none 1 (stack.map (eL 1 (eI .u8))))) (sv (j8 rfl))) ?_
    refine DrawG.jn (m := 1) (L := lst [0,1,2,3,4] 6) (s1 := aE 50 [(9,(.sl 0 0 x17.1.length 4 true)),(11,(.ptr 1 0)),(32,(.agg (bL (eI .u8) dK [(eI .i64 eH),(eI .i64 kR),(.sl 2 0 dL.length 1 false),(.row (some true) 1 []),(eI .i64 0)])))]) (h1 := [some ⟨46,x17.1.flatMap bU⟩,some ⟨56,(bL (eI .u8) (List.replicate 32 0) [(eI .i64 0),(eI .i64 0),(.row (some true) 1 []),(.row (some true) 1 []),(eI .i64 0)])⟩,some ⟨31,dL.map (eL 1 (eI .u8))⟩]) ?_ (fun J => ?_)
    ·refine DrawG.pick (n := 0) (i := 5) (by decide +kernel) rfl (gN (h' := [some ⟨46,x17.1.flatMap bU⟩,some ⟨56,(bL (eI .u8) dK [(eI .i64 eH),(eI .i64 kR),(.sl 2 0 dL.length 1 false),(.row (some true) 1 []),(eI .i64 0)])⟩,some ⟨31,dL.map (eL 1 (eI .u8))⟩]) (sv (aY rfl rfl (fU v7 rfl rfl rfl zl rfl)))) <| DrawG.nil (by decide +kernel) ?_
     refine zz ?_
     refine AB.seq_g fun K1 hK1 hG1 => ?_
     have J1 : ∀ (c0 : List Int) (rZ : Int) (rV : Int) (qW : Int) (l1 : List (List Int)) (l2 : List aG),uB N c0 rZ rV qW l1 l2 = some r → K1 (aE 50 [(11,(.ptr 0 0))]) [some ⟨56,(bL (eI .u8) c0 [(eI .i64 rZ),(eI .i64 rV),(.sl 1 0 l1.length 1 false),(.sl 2 0 l2.length 2 true),(eI .i64 qW)])⟩,some ⟨31,l1.map (eL 1 (eI .u8))⟩,some ⟨73,l2.flatMap aL⟩] := by
      intro c0 rZ rV qW l1 l2 hr
      unfold uB at hr
      refine hK1 _ _ <| AB.seq <| AB.ghost (Ghost.conv (fr' := [(11,(.ptr 0 0))]) (h' := [some ⟨56,(bL (eI .u8) c0 [(eI .i64 rZ),(eI .i64 rV),(.row none 1 (l1.map (eL 1 (eI .u8)))),(.sl 2 0 l2.length 2 true),(eI .i64 qW)])⟩,none,some ⟨73,l2.flatMap aL⟩]) (FCv.cons rfl (Conv.same (aI rfl)) FCv.nil) (HCv.live (aKi (fun _ => Conv.same (aI rfl)) (Convs.cons (Conv.same (aI rfl)) (Convs.cons (Conv.same (aI rfl)) (Convs.cons (Conv.row (aI rfl) rfl rfl (eJ (fun _ => rfl)) (by first | rfl | (simp only [List.length_map,bK,bJ]; done))) (Convs.cons (Conv.same (aI rfl)) (Convs.cons (Conv.same (aI rfl)) Convs.nil)))))) rfl (HCv.dead (HCv.live (Convs.same (aI rfl)) (mQ (fun _ => rfl) _) HCv.nil)))) ?_
      obtain ⟨x47,h_9,hr⟩ := aA hr
      refine AB.rs mixed [] [21] [[0,1,2,3,4,5,6,7]] ?_
      refine zz ?_
      refine zg (uF h_9) [] ?_
      refine zz ?_
      obtain rfl := sj hr
      exact zd3 Tryz.results9 [3]
     obtain ⟨a9,hL2,hr⟩ := aA hr
     refine zz ?_
     refine AB.block <| AB.loopN (fun m s h => ∃ (x35 : Int) (wT : List Int) (c0_5 : Int) (c0_6 : Int) (c0_7 : Int) (fT : List (List Int)) (l3 : List aG),jU N x17 m x35 wT c0_5 c0_6 c0_7 fT l3 = some a9 ∧ Ghost 0 s h (aE 50 [(11,(.ptr 0 0)),(33,(.sl 1 0 x17.1.length 4 true)),(34,(eI .i64 (x17.1.length : Int))),(35,(eI .i64 x35))]) [some ⟨56,(bL (eI .u8) wT [(eI .i64 c0_5),(eI .i64 c0_6),(.sl 2 0 fT.length 1 false),(.sl 3 0 l3.length 2 true),(eI .i64 c0_7)])⟩,some ⟨46,x17.1.flatMap bU⟩,some ⟨31,fT.map (eL 1 (eI .u8))⟩,some ⟨73,l3.flatMap aL⟩]) (n := N) ⟨0,dK,eH,kR,0,dL,[],hL2,(Ghost.trans (Ghost.virt (fr' := [(11,(.ptr 1 0)),(33,(.sl 0 0 x17.1.length 4 true)),(34,(eI .i64 (x17.1.length : Int))),(35,(eI .i64 0))]) (h1 := [some ⟨46,x17.1.flatMap bU⟩,some ⟨56,(bL (eI .u8) dK [(eI .i64 eH),(eI .i64 kR),(.sl 2 0 dL.length 1 false),(.sl 3 0 0 2 true),(eI .i64 0)])⟩,some ⟨31,dL.map (eL 1 (eI .u8))⟩]) 73 (FLe.same rfl (FLe.same rfl (FLe.same rfl (FLe.same rfl FLe.nil)))) (HLv.live (V.les_refl _ _) (mQ (fun _ => rfl) _) (HLv.live (aJ7 (V.les_cons (V.le_refl _ _) (V.les_cons (V.le_refl _ _) (V.les_cons (V.le_refl _ _) (V.les_cons (V.le_virt rfl) (V.les_cons (V.le_refl _ _) V.les_nil)))))) rfl (HLv.live (V.les_refl _ _) (all_map (fun _ => rfl) _) HLv.nil)))) (lT [1,0,2,3]))⟩ (by rintro s h ⟨_,_,_,_,_,_,_,h0,_⟩; simp [jU] at h0) ?_
     rintro m2 s h ⟨x35,wT,c0_5,c0_6,c0_7,fT,l3,hr2,hg⟩
     refine AB.ghost hg ?_
     clear hg hL2
     rw [jU] at hr2
     refine zz ?_
     refine AB.seq ?_
     refine zk hr2 rfl (fun h11 hr2 => ?_) (fun h11 hr2 => ?_)
     ·refine zz ?_
      refine AB.seq <| AB.block ?_
      obtain ⟨x37,h_12,hr2⟩ := aA hr2
      refine zz ?_
      refine xw (v := (.agg [(eI .i64 x37.Code),(.row none 1 (x37.Data.map (eI .u8))),(eI .i64 x37.M),(eI .i64 x37.N)])) (bO rfl (aIM (C := bU) (K := 4) (fun _ => rfl) rfl h_12 (aAp (ds := [(eI .i64 x37.Code),(.row none 1 (x37.Data.map (eI .u8))),(eI .i64 x37.M),(eI .i64 x37.N)]) wM rfl zl rfl))) ?_
      obtain ⟨x40,h_13,hr2⟩ := aA hr2
      refine zz ?_
      refine zc (aAC h_13) [0,2,3] ?_
      refine zz ?_
      refine zk hr2 rfl (fun h14 hr2 => ?_) (fun h14 hr2 => ?_)
      ·refine zz ?_
       obtain rfl := sj hr2
       obtain rfl := sj hr
       exact rN Tryz.results9 aW aW aW (zW 31 [7])
      ·refine zz ?_
       exact ⟨IntKind.i64.wrap (x35 + 1),x40.2.1,x40.2.2.1,x40.2.2.2.1,x40.2.2.2.2.2.2,x40.2.2.2.2.1,x40.2.2.2.2.2.1,hr2,(zG [0,1,5,6])⟩
     ·refine zz ?_
      obtain rfl := sj hr2
      refine zz ?_
      exact hG1 _ _ _ _ (zG [0,2,3]) (J1 wT c0_5 c0_6 c0_7 fT l3 hr)
    ·refine DrawG.fork (n := 3) [2,4] (by decide +kernel) (by decide) ?_
     refine (Fork.cons rfl (gC (v := (.sl 2 0 dL.length 1 false)) (h' := [some ⟨27,(bL (eI .u8) dK [(eI .i64 eH),(eI .i64 kR)])⟩,some ⟨46,x17.1.flatMap bU⟩,some ⟨31,dL.map (eL 1 (eI .u8))⟩]) (zB (uF h_7) []) rfl (fun _ => ⟨_,rfl⟩) (sv (mW rfl sP))) ?_ (Fork.cons rfl (gS (v := (.ptr 2 0)) (h' := [some ⟨27,(bL (eI .u8) dK [(eI .i64 eH),(eI .i64 kR)])⟩,some ⟨46,x17.1.flatMap bU⟩,some ⟨56,(bL (eI .u8) (List.replicate 32 0) [(eI .i64 0),(eI .i64 0),(.row (some true) 1 []),(.row (some true) 1 []),(eI .i64 0)])⟩]) (sv (iC v7 rfl rfl rfl))) ?_ Fork.nil))
     ·refine DrawG.pick (n := 2) (i := 3) (by decide +kernel) rfl (gS (v := (.agg (bL (eI .u8) dK [(eI .i64 eH),(eI .i64 kR),(.sl 2 0 dL.length 1 false),(.row (some true) 1 []),(eI .i64 0)]))) (sv (cF rfl (aAO v7 aK9 rfl)))) <| DrawG.pick (n := 1) (i := 4) (by decide +kernel) rfl (gS (v := (.ptr 3 0)) (h' := [some ⟨27,(bL (eI .u8) dK [(eI .i64 eH),(eI .i64 kR)])⟩,some ⟨46,x17.1.flatMap bU⟩,some ⟨31,dL.map (eL 1 (eI .u8))⟩,some ⟨56,(bL (eI .u8) (List.replicate 32 0) [(eI .i64 0),(eI .i64 0),(.row (some true) 1 []),(.row (some true) 1 []),(eI .i64 0)])⟩]) (sv (iC v7 rfl rfl rfl))) ?_
      exact DrawG.jg (by decide +kernel) (by decide +kernel) (zG [1,3,2]) J
     ·refine DrawG.pick (n := 2) (i := 2) (by decide +kernel) rfl (gC (v := (.sl 3 0 dL.length 1 false)) (h' := [some ⟨27,(bL (eI .u8) dK [(eI .i64 eH),(eI .i64 kR)])⟩,some ⟨46,x17.1.flatMap bU⟩,some ⟨56,(bL (eI .u8) (List.replicate 32 0) [(eI .i64 0),(eI .i64 0),(.row (some true) 1 []),(.row (some true) 1 []),(eI .i64 0)])⟩,some ⟨31,dL.map (eL 1 (eI .u8))⟩]) (zB (uF h_7) []) rfl (fun _ => ⟨_,rfl⟩) (sv (mW rfl sP))) <| DrawG.pick (n := 1) (i := 3) (by decide +kernel) rfl (gS (v := (.agg (bL (eI .u8) dK [(eI .i64 eH),(eI .i64 kR),(.sl 3 0 dL.length 1 false),(.row (some true) 1 []),(eI .i64 0)]))) (sv (cF rfl (aAO v7 aK9 rfl)))) ?_
      exact DrawG.jg (by decide +kernel) (by decide +kernel) (zG [1,2,3]) J
theorem aF1 {N : Nat} {r : Bool} (hr : yY N = some r) :
  Vm.Fn Tryz.prog 5 [] [] (eB r) [] := by
 refine zf Tryz.func5 Tryz.ntmps5 ?_
 unfold yY at hr
 obtain ⟨bX,h_1,hr⟩ := aA hr
 refine zz ?_
 refine OpsX.ghost (zv 1) ?_
 refine zz ?_
 refine xw (v := (.agg (bL (eI .u8) (List.replicate 32 0) [(eI .i64 0),(eI .i64 0)]))) (cF rfl (aAO aAc aNm rfl)) <| OpsX.ghost (zv 0) ?_
 refine OpsX.ghost (zv 2) ?_
 refine zc (yL h_1) [] ?_
 obtain ⟨x17,h_2,hr⟩ := aA hr
 refine zz ?_
 refine zcL (zM h_2) [] [4] ?_
 refine zz ?_
 refine AB.seq_g fun K1 hK1 hG1 => ?_
 have J1 : ∀ (x0 : Bool),jX N x0 = some r → K1 (aE 47 [(0,(eB x0))]) [] := by
  intro x0 hr
  unfold jX at hr
  refine hK1 _ _ ?_
  refine zz ?_
  obtain rfl := sj hr
  exact bH Tryz.results5 []
 rcases Bool.eq_false_or_eq_true (bX.2.2 == 0) with h3 | h3
 ·replace hr := cV hr h3
  rcases Bool.eq_false_or_eq_true (bX.2.1 == 2) with h4 | h4
  ·replace hr := cV hr h4
   rcases Bool.eq_false_or_eq_true ((bX.1.length : Int) == 1) with h5 | h5
   ·replace hr := cV hr h5
    obtain ⟨kY,h_6,hr⟩ := aA hr
    rcases Bool.eq_false_or_eq_true ((kY.length : Int) == 1) with h7 | h7
    ·replace hr := cV hr h7
     rcases Bool.eq_false_or_eq_true (x17.2 == 82) with h8 | h8
     ·replace hr := cV hr h8
      obtain ⟨x43,h_9,hr⟩ := aA hr
      refine xr ?_
      refine zz ?_
      refine z8 (v := (.sl 5 0 x43.length 1 false)) (h' := [none,none,none,some ⟨31,bX.1.map (eL 1 (eI .u8))⟩,some ⟨5,[1,0].map (eI .u8)⟩,some ⟨5,x43.map (eI .u8)⟩]) rfl rfl h8 rfl (zB (sU h_9) []) ?_
      refine zz ?_
      exact hG1 _ _ _ _ (zG []) (J1 ((x43.length : Int) == 0) hr)
     ·replace hr := cU hr h8
      refine xr ?_
      refine zz ?_
      exact hG1 _ _ _ _ (zG []) (J1 false hr)
    ·replace hr := cU hr h7
     refine xr ?_
     refine zz ?_
     refine xX rfl <| xX rfl <| xX rfl ?_
     refine zz ?_
     exact hG1 _ _ _ _ (zG []) (J1 false hr)
   ·replace hr := cU hr h5
    refine xr ?_
    refine zz ?_
    refine xX rfl <| xX rfl ?_
    refine zz ?_
    refine xX rfl <| xX rfl <| xX rfl ?_
    refine zz ?_
    exact hG1 _ _ _ _ (zG []) (J1 false hr)
  ·replace hr := cU hr h4
   refine xr ?_
   refine zz ?_
   refine xX rfl <| xX rfl <| xX rfl <| xX rfl <| xX rfl ?_
   refine zz ?_
   refine xX rfl <| xX rfl ?_
   refine zz ?_
   refine xX rfl <| xX rfl <| xX rfl ?_
   refine zz ?_
   exact hG1 _ _ _ _ (zG []) (J1 false hr)
 ·replace hr := cU hr h3
  refine xr ?_
  refine zz ?_
  refine xX rfl <| xX rfl <| xX rfl ?_
  refine zz ?_
  refine xX rfl <| xX rfl <| xX rfl <| xX rfl <| xX rfl ?_
  refine zz ?_
  refine xX rfl <| xX rfl ?_
  refine zz ?_
  refine xX rfl <| xX rfl <| xX rfl ?_
  refine zz ?_
  exact hG1 _ _ _ _ (zG []) (J1 false hr)
theorem aGc {N : Nat} {l : List (List Int)} {vn : Int} {vm : Int} {r : Bool} (hr : vY N l vn vm = some r) :
  Vm.Fn Tryz.prog 7 [] [(.row none 1 (l.map (eL 1 (eI .u8)))),(eI .i64 vn),(eI .i64 vm)] (eB r) [] := by
 refine zf Tryz.func7 Tryz.ntmps7 ?_
 unfold vY at hr
 refine zz ?_
 refine AB.seq ?_
 refine zz ?_
 refine zk hr rfl (fun h1 hr => ?_) (fun h1 hr => ?_)
 ·refine zz ?_
  obtain rfl := sj hr
  exact bH Tryz.results7 []
 ·refine zz ?_
  refine AB.seq_g fun K1 hK1 hG1 => ?_
  have J1 : yM N = some r → K1 (aE 24 []) [] := by
   intro hr
   unfold yM at hr
   refine hK1 _ _ ?_
   refine zz ?_
   obtain rfl := sj hr
   exact bH Tryz.results7 []
  obtain ⟨a9,hL2,hr⟩ := aA hr
  refine zz ?_
  refine AB.block <| AB.loopN (fun m s h => ∃ (x15 : Int),j5 N l vm m x15 = some a9 ∧ Ghost 0 s h (aE 24 [(2,(eI .i64 vm)),(13,(.row none 1 (l.map (eL 1 (eI .u8))))),(14,(eI .i64 (l.length : Int))),(15,(eI .i64 x15))]) []) (n := N) ⟨0,hL2,(zG [])⟩ (by rintro s h ⟨_,h0,_⟩; simp [j5] at h0) ?_
  rintro m2 s h ⟨x15,hr2,hg⟩
  refine AB.ghost hg ?_
  clear hg hL2
  rw [j5] at hr2
  refine zz ?_
  refine AB.seq ?_
  refine zk hr2 rfl (fun h2 hr2 => ?_) (fun h2 hr2 => ?_)
  ·refine zz ?_
   refine AB.seq <| AB.block ?_
   obtain ⟨x17,h_3,hr2⟩ := aA hr2
   refine zz ?_
   refine zk hr2 rfl (fun h4 hr2 => ?_) (fun h4 hr2 => ?_)
   ·refine zz ?_
    obtain rfl := sj hr2
    obtain rfl := sj hr
    exact bH Tryz.results7 []
   ·refine zz ?_
    exact ⟨IntKind.i64.wrap (x15 + 1),hr2,(zG [])⟩
  ·refine zz ?_
   obtain rfl := sj hr2
   refine zz ?_
   exact hG1 _ _ _ _ (zG []) (J1 hr)
theorem aEK {N : Nat} {aJ : Int} {aX : List Int} {o_M : Int} {o_N : Int} {r : Int} (hr : kQ N aJ aX o_M o_N = some r) :
  Vm.Fn Tryz.prog 16 [] [(.agg [(eI .i64 aJ),(.row none 1 (aX.map (eI .u8))),(eI .i64 o_M),(eI .i64 o_N)])] (eI .i64 r) [] := by
 refine zf Tryz.func16 Tryz.ntmps16 ?_
 unfold kQ at hr
 refine zz ?_
 refine AB.seq <| AB.block ?_
 refine AB.seq_g fun K1 hK1 hG1 => ?_
 have J1 : ∀ (x3 : Bool),kE N aJ aX o_M o_N x3 = some r → K1 (aE 66 [(1,(.ptr 0 0)),(3,(eB x3))]) [some ⟨46,[(eI .i64 aJ),(.row none 1 (aX.map (eI .u8))),(eI .i64 o_M),(eI .i64 o_N)]⟩] := by
  intro x3 hr
  unfold kE at hr
  refine hK1 _ _ ?_
  refine zk hr rfl (fun h1 hr => ?_) (fun h1 hr => ?_)
  ·refine zz ?_
   obtain rfl := sj hr
   exact bH Tryz.results16 []
  ·refine AB.seq_g fun K2 hK2 hG2 => ?_
   have J2 : ∀ (eE : Bool),fE N aJ aX o_M o_N eE = some r → K2 (aE 66 [(1,(.ptr 0 0)),(12,(eB eE))]) [some ⟨46,[(eI .i64 aJ),(.row none 1 (aX.map (eI .u8))),(eI .i64 o_M),(eI .i64 o_N)]⟩] := by
    intro eE hr
    unfold fE at hr
    refine hK2 _ _ ?_
    refine zk hr rfl (fun h2 hr => ?_) (fun h2 hr => ?_)
    ·refine zz ?_
     obtain rfl := sj hr
     exact bH Tryz.results16 []
    ·refine zz ?_
     refine zk hr rfl (fun h3 hr => ?_) (fun h3 hr => ?_)
     ·refine zz ?_
      obtain rfl := sj hr
      exact bH Tryz.results16 []
     ·refine AB.seq_g fun K3 hK3 hG3 => ?_
      have J3 : ∀ (x40 : Bool),fC N x40 = some r → K3 (aE 66 [(40,(eB x40))]) [] := by
       intro x40 hr
       unfold fC at hr
       refine hK3 _ _ ?_
       refine zk hr rfl (fun h4 hr => ?_) (fun h4 hr => ?_)
       ·refine zz ?_
        obtain rfl := sj hr
        exact bH Tryz.results16 []
       ·refine zz ?_
        obtain rfl := sj hr
        exact bH Tryz.results16 []
      rcases Bool.eq_false_or_eq_true (aJ == 11) with h5 | h5
      ·replace hr := cV hr h5
       rcases Bool.eq_false_or_eq_true (decide (o_N < 1)) with h6 | h6
       ·replace hr := cV hr h6
        refine xr ?_
        refine zz ?_
        refine xX rfl <| xX rfl <| xX rfl ?_
        refine zz ?_
        refine xX rfl <| xX rfl <| xX rfl <| xX rfl <| xX rfl ?_
        refine zz ?_
        exact hG3 _ _ _ _ (zG []) (J3 true hr)
       ·replace hr := cU hr h6
        rcases Bool.eq_false_or_eq_true (decide (15 < o_N)) with h7 | h7
        ·replace hr := cV hr h7
         refine xr ?_
         refine zz ?_
         refine xX rfl <| xX rfl <| xX rfl <| xX rfl <| xX rfl ?_
         refine zz ?_
         exact hG3 _ _ _ _ (zG []) (J3 true hr)
        ·replace hr := cU hr h7
         rcases Bool.eq_false_or_eq_true (decide (o_M < 1)) with h8 | h8
         ·replace hr := cV hr h8
          refine xr ?_
          refine zz ?_
          exact hG3 _ _ _ _ (zG []) (J3 true hr)
         ·replace hr := cU hr h8
          refine xr ?_
          refine zz ?_
          exact hG3 _ _ _ _ (zG []) (J3 (decide (o_N < o_M)) hr)
      ·replace hr := cU hr h5
       refine xr ?_
       refine zz ?_
       exact hG3 _ _ _ _ (zG []) (J3 false hr)
   refine AB.seq_g fun K4 hK4 hG4 => ?_
   have J4 : ∀ (aBi : Bool),kC N aJ aX o_M o_N aBi = some r → K4 (aE 66 [(1,(.ptr 0 0)),(12,(eB aBi))]) [some ⟨46,[(eI .i64 aJ),(.row none 1 (aX.map (eI .u8))),(eI .i64 o_M),(eI .i64 o_N)]⟩] := by
    intro aBi hr
    unfold kC at hr
    refine hK4 _ _ ?_
    refine zk hr rfl (fun h9 hr => ?_) (fun h9 hr => ?_)
    ·refine zz ?_
     exact hG2 _ _ _ _ (zG [0]) (J2 aBi hr)
    ·rcases Bool.eq_false_or_eq_true (o_M != 0) with h10 | h10
     ·replace hr := cV hr h10
      refine xr ?_
      refine zz ?_
      refine xSg (v := (.ptr 0 0)) rfl rfl rfl (lI rfl (aIm ..)) ?_
      refine xSg (v := (eI .i64 aJ)) rfl rfl rfl (bO rfl (ldP rfl (nV cT rfl rfl))) ?_
      refine xSg (v := (eB (aJ != 11))) rfl rfl rfl (xE rfl rfl (aIa ..)) ?_
      refine zz ?_
      exact hG2 _ _ _ _ (zG [0]) (J2 (aJ != 11) hr)
     ·replace hr := cU hr h10
      rcases Bool.eq_false_or_eq_true (o_N != 0) with h11 | h11
      ·replace hr := cV hr h11
       refine xr ?_
       refine zz ?_
       exact hG2 _ _ _ _ (zG [0]) (J2 (aJ != 11) hr)
      ·replace hr := cU hr h11
       refine xr ?_
       refine zz ?_
       exact hG2 _ _ _ _ (zG [0]) (J2 false hr)
   rcases Bool.eq_false_or_eq_true (decide (0 < (aX.length : Int))) with h12 | h12
   ·replace hr := cV hr h12
    refine xr ?_
    refine zz ?_
    exact hG4 _ _ _ _ (zG [0]) (J4 (aJ != 1) hr)
   ·replace hr := cU hr h12
    refine xr ?_
    refine zz ?_
    exact hG4 _ _ _ _ (zG [0]) (J4 false hr)
 rcases Bool.eq_false_or_eq_true (decide (aJ < 1)) with h13 | h13
 ·replace hr := cV hr h13
  refine xr ?_
  refine zz ?_
  exact hG1 _ _ _ _ (zG [0]) (J1 true hr)
 ·replace hr := cU hr h13
  refine xr ?_
  refine zz ?_
  exact hG1 _ _ _ _ (zG [0]) (J1 (decide (17 < aJ)) hr)
theorem aDP {N : Nat} {va : List Int} {b : List Int} {r : (List Int)} (hr : u7 N va b = some r) :
  Vm.Fn Tryz.prog 51 [] [(.row none 1 (va.map (eI .u8))),(.row none 1 (b.map (eI .u8)))] (.sl 0 0 r.length 1 false) [some ⟨5,r.map (eI .u8)⟩] := by
 refine zf Tryz.func51 Tryz.ntmps51 ?_
 unfold u7 at hr
 obtain ⟨bX,h_1,hr⟩ := aA hr
 refine zz ?_
 refine xw (v := (.sl 0 0 0 1 false)) (h' := [some ⟨5,bX.map (eI .u8)⟩]) (aK8 rfl rfl (mkC (E := (eI .u8)) (y := 0) cG cZ ⟨zl,rfl,rfl⟩ rfl rfl rfl h_1 rfl rfl)) ?_
 obtain ⟨bC,h_2,hr⟩ := aA hr
 obtain ⟨x16,h_3,hr⟩ := aA hr
 refine zz ?_
 refine xw (v := (.sl 1 0 bC.length 1 false)) (h' := [none,some ⟨5,bC.map (eI .u8)⟩]) (aAl rfl rfl (aOI (E := (eI .u8)) (Nat.zero_le _) cG cZ ⟨rfl,rfl,zl⟩ rfl (aAJ (fun _ => rfl)) h_2 rfl rfl)) ?_
 refine zz ?_
 obtain rfl := sj hr
 exact bH Tryz.results51 [2]
theorem t7 {N : Nat} {l : List (List Int)} {r : (List Int)} (hr : lQ N l = some r) :
  Vm.Fn Tryz.prog 34 [] [(.row none 1 (l.map (eL 1 (eI .u8))))] (.sl 0 0 r.length 1 false) [some ⟨5,r.map (eI .u8)⟩] := by
 refine zf Tryz.func34 Tryz.ntmps34 ?_
 unfold lQ at hr
 refine zz ?_
 refine AB.seq_g fun K1 hK1 hG1 => ?_
 have J1 : ∀ (l0 : List Int),yU N l0 = some r → K1 (aE 17 [(3,(.sl 0 0 l0.length 1 false))]) [some ⟨5,l0.map (eI .u8)⟩] := by
  intro l0 hr
  unfold yU at hr
  refine hK1 _ _ ?_
  refine zz ?_
  obtain rfl := sj hr
  exact bH Tryz.results34 [0]
 obtain ⟨a9,hL2,hr⟩ := aA hr
 refine zz ?_
 refine AB.block <| AB.loopN (fun m s h => ∃ (x8 : Int) (aK : List Int),jY N l m x8 aK = some a9 ∧ Ghost 0 s h (aE 17 [(3,(.sl 0 0 aK.length 1 false)),(6,(.row none 1 (l.map (eL 1 (eI .u8))))),(7,(eI .i64 (l.length : Int))),(8,(eI .i64 x8))]) [some ⟨5,aK.map (eI .u8)⟩]) (n := N) ⟨0,[],hL2,(zW 5 [0])⟩ (by rintro s h ⟨_,_,h0,_⟩; simp [jY] at h0) ?_
 rintro m2 s h ⟨x8,aK,hr2,hg⟩
 refine AB.ghost hg ?_
 clear hg hL2
 rw [jY] at hr2
 refine zz ?_
 refine AB.seq ?_
 refine zk hr2 rfl (fun h1 hr2 => ?_) (fun h1 hr2 => ?_)
 ·refine zz ?_
  refine AB.seq <| AB.block ?_
  obtain ⟨b8,h_2,hr2⟩ := aA hr2
  obtain ⟨bC,h_3,hr2⟩ := aA hr2
  refine zz ?_
  refine zcL (aDP h_3) [] [0] ?_
  refine zz ?_
  exact ⟨IntKind.i64.wrap (x8 + 1),bC,hr2,(zG [1])⟩
 ·refine zz ?_
  obtain rfl := sj hr2
  refine zz ?_
  exact hG1 _ _ _ _ (zG [0]) (J1 aK hr)
theorem aGx {N : Nat} {b : List Int} {r : Int × (List Int) × Int × Int × (List Int) × Int} (hr : xO N b = some r) :
  Vm.Fn Tryz.prog 43 [] [(.row none 1 (b.map (eI .u8)))] (.tup [(.agg [(eI .i64 r.1),(.sl 0 0 r.2.1.length 1 false),(eI .i64 r.2.2.1),(eI .i64 r.2.2.2.1)]),(.row none 1 (r.2.2.2.2.1.map (eI .u8))),(eI .i64 r.2.2.2.2.2)]) [some ⟨5,r.2.1.map (eI .u8)⟩] := by
 refine zf Tryz.func43 Tryz.ntmps43 ?_
 unfold xO at hr
 obtain ⟨x8,h_1,hr⟩ := aA hr
 refine zz ?_
 refine AB.seq ?_
 refine AB.seq_g fun K1 hK1 hG1 => ?_
 have J1 : ∀ (x19 : Bool),rG N b x8 x19 = some r → K1 (aE 77 [(0,(.row none 1 (b.map (eI .u8)))),(2,(.ptr 0 0)),(5,(.ptr 1 0)),(19,(eB x19))]) [some ⟨46,[(eI .i64 0),(.row (some true) 1 []),(eI .i64 0),(eI .i64 0)]⟩,some ⟨46,[(eI .i64 (IntKind.i64.wrap x8)),(.row (some true) 1 []),(eI .i64 0),(eI .i64 0)]⟩] := by
  intro x19 hr
  unfold rG at hr
  refine hK1 _ _ ?_
  refine zk hr rfl (fun h2 hr => ?_) (fun h2 hr => ?_)
  ·refine zz ?_
   obtain rfl := sj hr
   exact rN Tryz.results43 aW aW aW (zW 5 [2])
  ·obtain ⟨bN,h_3,hr⟩ := aA hr
   refine zz ?_
   refine AB.seq_g fun K2 hK2 hG2 => ?_
   have J2 : ∀ (b_1 : List Int) (c1 : Int) (wR : Int) (l2 : List Int),kZ N x8 b_1 c1 wR l2 = some r → K2 (aE 77 [(0,(.row none 1 (b_1.map (eI .u8)))),(2,(.ptr 0 0)),(5,(.ptr 1 0))]) [some ⟨46,[(eI .i64 0),(.row (some true) 1 []),(eI .i64 0),(eI .i64 0)]⟩,some ⟨46,[(eI .i64 (IntKind.i64.wrap x8)),(.sl 2 0 l2.length 1 false),(eI .i64 c1),(eI .i64 wR)]⟩,some ⟨5,l2.map (eI .u8)⟩] := by
    intro b_1 c1 wR l2 hr
    unfold kZ at hr
    refine hK2 _ _ <| AB.seq ?_
    obtain ⟨x76,h_4,hr⟩ := aA hr
    refine AB.rs mixed [] [16] [[0,1,2,3,4,5,6]] ?_
    refine zz ?_
    refine xG (v := (eI .i64 x76)) (h' := [some ⟨46,[(eI .i64 0),(.row (some true) 1 []),(eI .i64 0),(eI .i64 0)]⟩,some ⟨46,[(eI .i64 (IntKind.i64.wrap x8)),(.sl 2 0 l2.length 1 false),(eI .i64 c1),(eI .i64 wR)]⟩,some ⟨5,l2.map (eI .u8)⟩]) rfl (Vm.Fn.lendR (aEK h_4) [] [2] (by decide) rfl (by decide) Lend.nil (Brw.row (aMk (aBm rfl (aBm (aJL (d := 3) rfl rfl (fun _ => rfl)) (aBm rfl (aBm rfl aMt))))) Brw.nil) rfl rfB.nil rfl zH) ?_
    refine zz ?_
    obtain rfl := sj hr
    exact rN Tryz.results43 aW aW aW (zG [2])
   refine zz ?_
   refine AB.block ?_
   refine zz ?_
   refine zk hr rfl (fun h6 hr => ?_) (fun h6 hr => ?_)
   ·refine AB.seq ?_
    refine AB.seq_g fun K3 hK3 hG3 => ?_
    have J3 : ∀ (x39 : Bool),sF N x8 bN x39 = some r → K3 (aE 77 [(0,(.row none 1 (bN.map (eI .u8)))),(2,(.ptr 0 0)),(5,(.ptr 1 0)),(39,(eB x39))]) [some ⟨46,[(eI .i64 0),(.row (some true) 1 []),(eI .i64 0),(eI .i64 0)]⟩,some ⟨46,[(eI .i64 (IntKind.i64.wrap x8)),(.row (some true) 1 []),(eI .i64 0),(eI .i64 0)]⟩] := by
     intro x39 hr
     unfold sF at hr
     refine hK3 _ _ ?_
     refine zk hr rfl (fun h7 hr => ?_) (fun h7 hr => ?_)
     ·refine zz ?_
      obtain rfl := sj hr
      exact rN Tryz.results43 aW aW aW (zW 5 [2])
     ·obtain ⟨x42,h_8,hr⟩ := aA hr
      obtain ⟨x48,h_9,hr⟩ := aA hr
      obtain ⟨x50,h_10,hr⟩ := aA hr
      obtain ⟨x53,h_12,hr⟩ := aA hr
      refine zz ?_
      refine AB.rd (eC []) (eC [34]) mixed <| DrawG.pick (n := 10) (i := 0) (by decide +kernel) rfl (gS (v := (.row none 1 (bN.map (eI .u8)))) (sv (j8 rfl))) <| DrawG.pick (n := 9) (i := 1) (by decide +kernel) rfl (gS (v := (eI .i64 (IntKind.i64.wrap (1 + (IntKind.i64.wrap x42))))) (sv (j8 rfl))) <| DrawG.pick (n := 8) (i := 2) (by decide +kernel) rfl (gS (v := (.row none 1 (x48.map (eI .u8)))) (sv (b5 rfl rfl rfl (qM cG cZ rfl rfl h_9)))) <| DrawG.pick (n := 7) (i := 3) (by decide +kernel) rfl (gS (v := (.sl 2 0 1 1 false)) (h' := [some ⟨46,[(eI .i64 0),(.row (some true) 1 []),(eI .i64 0),(eI .i64 0)]⟩,some ⟨46,[(eI .i64 (IntKind.i64.wrap x8)),(.row (some true) 1 []),(eI .i64 0),(eI .i64 0)]⟩,some ⟨31,[x48].map (eL 1 (eI .u8))⟩]) (sv (qF rfl (aIY (xs := [x48].map (eL 1 (eI .u8))) yR cG zl zl rfl rfl rfl rfl rfl rfl rfl)))) ?_
      refine DrawG.pick (n := 6) (i := 4) (by decide +kernel) rfl (gC (v := (.sl 3 0 x50.length 1 false)) (h' := [some ⟨46,[(eI .i64 0),(.row (some true) 1 []),(eI .i64 0),(eI .i64 0)]⟩,some ⟨46,[(eI .i64 (IntKind.i64.wrap x8)),(.row (some true) 1 []),(eI .i64 0),(eI .i64 0)]⟩,some ⟨31,[x48].map (eL 1 (eI .u8))⟩,some ⟨5,x50.map (eI .u8)⟩]) (zL (t7 h_10) [] [2]) rfl (fun _ => ⟨_,rfl⟩) (sv (mW rfl sP))) <| DrawG.pick (n := 5) (i := 5) (by decide +kernel) rfl (gS (v := (.row none 1 (bN.map (eI .u8)))) (sv (j8 rfl))) <| DrawG.pick (n := 4) (i := 6) (by decide +kernel) rfl (gS (v := (eI .i64 (IntKind.i64.wrap (1 + (IntKind.i64.wrap x42))))) (sv (j8 rfl))) ?_
      refine DrawG.pick (n := 3) (i := 8) (by decide +kernel) rfl (gS (v := (.ptr 1 1)) (sv (lI rfl (aEY ..)))) ?_
      refine DrawG.jn (m := 1) (L := lst [0,1,2,3,4,5,6,7,8,9] 11) (s1 := aE 77 [(0,(.row none 1 (bN.map (eI .u8)))),(2,(.ptr 0 0)),(5,(.ptr 1 0)),(53,(.row none 1 (x53.map (eI .u8))))]) (h1 := [some ⟨46,[(eI .i64 0),(.row (some true) 1 []),(eI .i64 0),(eI .i64 0)]⟩,some ⟨46,[(eI .i64 (IntKind.i64.wrap x8)),(.sl 2 0 x50.length 1 false),(eI .i64 0),(eI .i64 0)]⟩,some ⟨5,x50.map (eI .u8)⟩]) ?_ (fun J => ?_)
      ·refine DrawG.pick (n := 0) (i := 10) (by decide +kernel) rfl (gS (v := (.row none 1 (x53.map (eI .u8)))) (sv (pY rfl))) <| DrawG.nil (by decide +kernel) ?_
       refine zz ?_
       exact hG2 _ _ _ _ (zG [0,1,2]) (J2 x53 0 0 x50 hr)
      ·refine DrawG.fork (n := 2) [7,9] (by decide +kernel) (by decide) ?_
       refine (Fork.cons rfl (gS (v := (.row none 1 (x53.map (eI .u8)))) (sv (b5 rfl rfl rfl (qM cG cZ rfl rfl h_12)))) ?_ (Fork.cons rfl (gN (h' := [some ⟨46,[(eI .i64 0),(.row (some true) 1 []),(eI .i64 0),(eI .i64 0)]⟩,some ⟨46,[(eI .i64 (IntKind.i64.wrap x8)),(.sl 3 0 x50.length 1 false),(eI .i64 0),(eI .i64 0)]⟩,some ⟨31,[x48].map (eL 1 (eI .u8))⟩,some ⟨5,x50.map (eI .u8)⟩]) (sv (aY rfl rfl (fU cG rfl rfl rfl zl rfl)))) ?_ Fork.nil))
       ·refine DrawG.pick (n := 1) (i := 9) (by decide +kernel) rfl (gN (h' := [some ⟨46,[(eI .i64 0),(.row (some true) 1 []),(eI .i64 0),(eI .i64 0)]⟩,some ⟨46,[(eI .i64 (IntKind.i64.wrap x8)),(.sl 3 0 x50.length 1 false),(eI .i64 0),(eI .i64 0)]⟩,some ⟨31,[x48].map (eL 1 (eI .u8))⟩,some ⟨5,x50.map (eI .u8)⟩]) (sv (aY rfl rfl (fU cG rfl rfl rfl zl rfl)))) ?_
        exact DrawG.jg (by decide +kernel) (by decide +kernel) (zG [0,1,3]) J
       ·refine DrawG.pick (n := 1) (i := 7) (by decide +kernel) rfl (gS (v := (.row none 1 (x53.map (eI .u8)))) (sv (b5 rfl rfl rfl (qM cG cZ rfl rfl h_12)))) ?_
        exact DrawG.jg (by decide +kernel) (by decide +kernel) (zG [0,1,3]) J
    rcases Bool.eq_false_or_eq_true ((bN.length : Int) == 0) with h13 | h13
    ·replace hr := cV hr h13
     refine xr ?_
     refine zz ?_
     exact hG3 _ _ _ _ (zG [0,1]) (J3 true hr)
    ·replace hr := cU hr h13
     obtain ⟨x35,h_14,hr⟩ := aA hr
     refine xr ?_
     refine zz ?_
     exact hG3 _ _ _ _ (zG [0,1]) (J3 (decide ((IntKind.i64.wrap ((bN.length : Int) - 1)) < (IntKind.i64.wrap x35))) hr)
   ·refine zz ?_
    refine zk hr rfl (fun h15 hr => ?_) (fun h15 hr => ?_)
    ·refine AB.seq ?_
     refine zz ?_
     refine zk hr rfl (fun h16 hr => ?_) (fun h16 hr => ?_)
     ·refine zz ?_
      obtain rfl := sj hr
      exact rN Tryz.results43 aW aW aW (zW 5 [2])
     ·obtain ⟨x62,h_17,hr⟩ := aA hr
      obtain ⟨x66,h_18,hr⟩ := aA hr
      obtain ⟨x70,h_19,hr⟩ := aA hr
      refine zz ?_
      refine AB.rd (eC []) (eC []) mixed <| DrawG.pick (n := 14) (i := 0) (by decide +kernel) rfl (gS (v := (.row none 1 (bN.map (eI .u8)))) (sv (j8 rfl))) <| DrawG.pick (n := 13) (i := 1) (by decide +kernel) rfl (gS (sv (yS rfl rfl (iaR cG cZ h_17)))) <| DrawG.pick (n := 12) (i := 2) (by decide +kernel) rfl (gS (v := (eI .u8 x62)) (sv (bO rfl (ldR h_17 (nV cZ rfl rfl))))) <| DrawG.pick (n := 11) (i := 3) (by decide +kernel) rfl (gS (v := (eI .i64 (IntKind.i64.wrap x62))) (sv (f6 rfl (eV _ ⟨_,cZ⟩ cT rfl)))) <| DrawG.pick (n := 10) (i := 4) (by decide +kernel) rfl (gS (v := (.row none 1 (bN.map (eI .u8)))) (sv (j8 rfl))) ?_
      refine DrawG.pick (n := 9) (i := 5) (by decide +kernel) rfl (gS (sv (yS rfl rfl (iaR cG cZ h_18)))) <| DrawG.pick (n := 8) (i := 8) (by decide +kernel) rfl (gS (v := (.row none 1 (bN.map (eI .u8)))) (sv (j8 rfl))) <| DrawG.pick (n := 7) (i := 10) (by decide +kernel) rfl (gS (v := (.ptr 1 2)) (sv (lI rfl (aFi ..)))) ?_
      refine DrawG.jn (m := 1) (L := lst [0,1,2,3,4,5,6,7,8,9,10,11,12,13] 15) (s1 := aE 77 [(0,(.row none 1 (bN.map (eI .u8)))),(2,(.ptr 0 0)),(5,(.ptr 1 0)),(70,(.row none 1 (x70.map (eI .u8))))]) (h1 := [some ⟨46,[(eI .i64 0),(.row (some true) 1 []),(eI .i64 0),(eI .i64 0)]⟩,some ⟨46,[(eI .i64 (IntKind.i64.wrap x8)),(.row (some true) 1 []),(eI .i64 (IntKind.i64.wrap x62)),(eI .i64 (IntKind.i64.wrap x66))]⟩]) ?_ (fun J => ?_)
      ·refine DrawG.pick (n := 0) (i := 14) (by decide +kernel) rfl (gS (v := (.row none 1 (x70.map (eI .u8)))) (sv (pY rfl))) <| DrawG.nil (by decide +kernel) ?_
       refine zz ?_
       exact hG2 _ _ _ _ (Ghost.trans (Ghost.virt (fr' := [(0,(.row none 1 (x70.map (eI .u8)))),(2,(.ptr 0 0)),(5,(.ptr 1 0))]) (h1 := [some ⟨46,[(eI .i64 0),(.row (some true) 1 []),(eI .i64 0),(eI .i64 0)]⟩,some ⟨46,[(eI .i64 (IntKind.i64.wrap x8)),(.sl 2 0 0 1 false),(eI .i64 (IntKind.i64.wrap x62)),(eI .i64 (IntKind.i64.wrap x66))]⟩]) 5 (FLe.same rfl (FLe.same rfl (FLe.same rfl FLe.nil))) (HLv.live (V.les_refl _ _) rfl (HLv.live (V.les_cons (V.le_refl _ _) (V.les_cons (V.le_virt rfl) (V.les_cons (V.le_refl _ _) (V.les_cons (V.le_refl _ _) V.les_nil)))) rfl HLv.nil))) (lT [0,1,2])) (J2 x70 (IntKind.i64.wrap x62) (IntKind.i64.wrap x66) [] hr)
      ·refine DrawG.fork (n := 6) [6,9,11] (by decide +kernel) (by decide) ?_
       refine (Fork.cons rfl (gS (v := (eI .u8 x66)) (sv (bO rfl (ldR h_18 (nV cZ rfl rfl))))) ?_ (Fork.cons rfl (gS (v := (.row none 1 (x70.map (eI .u8)))) (sv (b5 rfl rfl rfl (qM cG cZ rfl rfl h_19)))) ?_ (Fork.cons rfl (gN (h' := [some ⟨46,[(eI .i64 0),(.row (some true) 1 []),(eI .i64 0),(eI .i64 0)]⟩,some ⟨46,[(eI .i64 (IntKind.i64.wrap x8)),(.row (some true) 1 []),(eI .i64 (IntKind.i64.wrap x62)),(eI .i64 0)]⟩]) (sv (aY rfl rfl (fU cT rfl rfl rfl zl rfl)))) ?_ Fork.nil)))
       ·refine DrawG.fork (n := 5) [7,9,11] (by decide +kernel) (by decide) ?_
        refine (Fork.cons rfl (gS (v := (eI .i64 (IntKind.i64.wrap x66))) (sv (f6 rfl (eV _ ⟨_,cZ⟩ cT rfl)))) ?_ (Fork.cons rfl (gS (v := (.row none 1 (x70.map (eI .u8)))) (sv (b5 rfl rfl rfl (qM cG cZ rfl rfl h_19)))) ?_ (Fork.cons rfl (gN (h' := [some ⟨46,[(eI .i64 0),(.row (some true) 1 []),(eI .i64 0),(eI .i64 0)]⟩,some ⟨46,[(eI .i64 (IntKind.i64.wrap x8)),(.row (some true) 1 []),(eI .i64 (IntKind.i64.wrap x62)),(eI .i64 0)]⟩]) (sv (aY rfl rfl (fU cT rfl rfl rfl zl rfl)))) ?_ Fork.nil)))
        ·refine DrawG.fork (n := 4) [9,11] (by decide +kernel) (by decide) ?_
         refine (Fork.cons rfl (gS (v := (.row none 1 (x70.map (eI .u8)))) (sv (b5 rfl rfl rfl (qM cG cZ rfl rfl h_19)))) ?_ (Fork.cons rfl (gN (h' := [some ⟨46,[(eI .i64 0),(.row (some true) 1 []),(eI .i64 0),(eI .i64 0)]⟩,some ⟨46,[(eI .i64 (IntKind.i64.wrap x8)),(.row (some true) 1 []),(eI .i64 (IntKind.i64.wrap x62)),(eI .i64 0)]⟩]) (sv (aY rfl rfl (fU cT rfl rfl rfl zl rfl)))) ?_ Fork.nil))
         ·refine DrawG.pick (n := 3) (i := 11) (by decide +kernel) rfl (gN (h' := [some ⟨46,[(eI .i64 0),(.row (some true) 1 []),(eI .i64 0),(eI .i64 0)]⟩,some ⟨46,[(eI .i64 (IntKind.i64.wrap x8)),(.row (some true) 1 []),(eI .i64 (IntKind.i64.wrap x62)),(eI .i64 0)]⟩]) (sv (aY rfl rfl (fU cT rfl rfl rfl zl rfl)))) <| DrawG.pick (n := 2) (i := 12) (by decide +kernel) rfl (gS (v := (.ptr 1 3)) (sv (lI rfl (gR ..)))) <| DrawG.pick (n := 1) (i := 13) (by decide +kernel) rfl (gN (h' := [some ⟨46,[(eI .i64 0),(.row (some true) 1 []),(eI .i64 0),(eI .i64 0)]⟩,some ⟨46,[(eI .i64 (IntKind.i64.wrap x8)),(.row (some true) 1 []),(eI .i64 (IntKind.i64.wrap x62)),(eI .i64 (IntKind.i64.wrap x66))]⟩]) (sv (aY rfl rfl (fU cT rfl rfl rfl zl rfl)))) ?_
          exact DrawG.jg (by decide +kernel) (by decide +kernel) (zG [0,1]) J
         ·refine DrawG.pick (n := 3) (i := 12) (by decide +kernel) rfl (gS (v := (.ptr 1 3)) (sv (lI rfl (gR ..)))) <| DrawG.fork (n := 2) [9,13] (by decide +kernel) (by decide) ?_
          refine (Fork.cons rfl (gS (v := (.row none 1 (x70.map (eI .u8)))) (sv (b5 rfl rfl rfl (qM cG cZ rfl rfl h_19)))) ?_ (Fork.cons rfl (gN (h' := [some ⟨46,[(eI .i64 0),(.row (some true) 1 []),(eI .i64 0),(eI .i64 0)]⟩,some ⟨46,[(eI .i64 (IntKind.i64.wrap x8)),(.row (some true) 1 []),(eI .i64 (IntKind.i64.wrap x62)),(eI .i64 (IntKind.i64.wrap x66))]⟩]) (sv (aY rfl rfl (fU cT rfl rfl rfl zl rfl)))) ?_ Fork.nil))
          ·refine DrawG.pick (n := 1) (i := 13) (by decide +kernel) rfl (gN (h' := [some ⟨46,[(eI .i64 0),(.row (some true) 1 []),(eI .i64 0),(eI .i64 0)]⟩,some ⟨46,[(eI .i64 (IntKind.i64.wrap x8)),(.row (some true) 1 []),(eI .i64 (IntKind.i64.wrap x62)),(eI .i64 (IntKind.i64.wrap x66))]⟩]) (sv (aY rfl rfl (fU cT rfl rfl rfl zl rfl)))) ?_
           exact DrawG.jg (by decide +kernel) (by decide +kernel) (zG [0,1]) J
          ·refine DrawG.pick (n := 1) (i := 9) (by decide +kernel) rfl (gS (v := (.row none 1 (x70.map (eI .u8)))) (sv (b5 rfl rfl rfl (qM cG cZ rfl rfl h_19)))) ?_
           exact DrawG.jg (by decide +kernel) (by decide +kernel) (zG [0,1]) J
        ·refine DrawG.fork (n := 4) [7,11] (by decide +kernel) (by decide) ?_
         refine (Fork.cons rfl (gS (v := (eI .i64 (IntKind.i64.wrap x66))) (sv (f6 rfl (eV _ ⟨_,cZ⟩ cT rfl)))) ?_ (Fork.cons rfl (gN (h' := [some ⟨46,[(eI .i64 0),(.row (some true) 1 []),(eI .i64 0),(eI .i64 0)]⟩,some ⟨46,[(eI .i64 (IntKind.i64.wrap x8)),(.row (some true) 1 []),(eI .i64 (IntKind.i64.wrap x62)),(eI .i64 0)]⟩]) (sv (aY rfl rfl (fU cT rfl rfl rfl zl rfl)))) ?_ Fork.nil))
         ·refine DrawG.pick (n := 3) (i := 11) (by decide +kernel) rfl (gN (h' := [some ⟨46,[(eI .i64 0),(.row (some true) 1 []),(eI .i64 0),(eI .i64 0)]⟩,some ⟨46,[(eI .i64 (IntKind.i64.wrap x8)),(.row (some true) 1 []),(eI .i64 (IntKind.i64.wrap x62)),(eI .i64 0)]⟩]) (sv (aY rfl rfl (fU cT rfl rfl rfl zl rfl)))) <| DrawG.pick (n := 2) (i := 12) (by decide +kernel) rfl (gS (v := (.ptr 1 3)) (sv (lI rfl (gR ..)))) <| DrawG.pick (n := 1) (i := 13) (by decide +kernel) rfl (gN (h' := [some ⟨46,[(eI .i64 0),(.row (some true) 1 []),(eI .i64 0),(eI .i64 0)]⟩,some ⟨46,[(eI .i64 (IntKind.i64.wrap x8)),(.row (some true) 1 []),(eI .i64 (IntKind.i64.wrap x62)),(eI .i64 (IntKind.i64.wrap x66))]⟩]) (sv (aY rfl rfl (fU cT rfl rfl rfl zl rfl)))) ?_
          exact DrawG.jg (by decide +kernel) (by decide +kernel) (zG [0,1]) J
         ·refine DrawG.pick (n := 3) (i := 7) (by decide +kernel) rfl (gS (v := (eI .i64 (IntKind.i64.wrap x66))) (sv (f6 rfl (eV _ ⟨_,cZ⟩ cT rfl)))) <| DrawG.pick (n := 2) (i := 12) (by decide +kernel) rfl (gS (v := (.ptr 1 3)) (sv (lI rfl (gR ..)))) <| DrawG.pick (n := 1) (i := 13) (by decide +kernel) rfl (gN (h' := [some ⟨46,[(eI .i64 0),(.row (some true) 1 []),(eI .i64 0),(eI .i64 0)]⟩,some ⟨46,[(eI .i64 (IntKind.i64.wrap x8)),(.row (some true) 1 []),(eI .i64 (IntKind.i64.wrap x62)),(eI .i64 (IntKind.i64.wrap x66))]⟩]) (sv (aY rfl rfl (fU cT rfl rfl rfl zl rfl)))) ?_
          exact DrawG.jg (by decide +kernel) (by decide +kernel) (zG [0,1]) J
        ·refine DrawG.pick (n := 4) (i := 7) (by decide +kernel) rfl (gS (v := (eI .i64 (IntKind.i64.wrap x66))) (sv (f6 rfl (eV _ ⟨_,cZ⟩ cT rfl)))) <| DrawG.pick (n := 3) (i := 12) (by decide +kernel) rfl (gS (v := (.ptr 1 3)) (sv (lI rfl (gR ..)))) <| DrawG.fork (n := 2) [9,13] (by decide +kernel) (by decide) ?_
         refine (Fork.cons rfl (gS (v := (.row none 1 (x70.map (eI .u8)))) (sv (b5 rfl rfl rfl (qM cG cZ rfl rfl h_19)))) ?_ (Fork.cons rfl (gN (h' := [some ⟨46,[(eI .i64 0),(.row (some true) 1 []),(eI .i64 0),(eI .i64 0)]⟩,some ⟨46,[(eI .i64 (IntKind.i64.wrap x8)),(.row (some true) 1 []),(eI .i64 (IntKind.i64.wrap x62)),(eI .i64 (IntKind.i64.wrap x66))]⟩]) (sv (aY rfl rfl (fU cT rfl rfl rfl zl rfl)))) ?_ Fork.nil))
         ·refine DrawG.pick (n := 1) (i := 13) (by decide +kernel) rfl (gN (h' := [some ⟨46,[(eI .i64 0),(.row (some true) 1 []),(eI .i64 0),(eI .i64 0)]⟩,some ⟨46,[(eI .i64 (IntKind.i64.wrap x8)),(.row (some true) 1 []),(eI .i64 (IntKind.i64.wrap x62)),(eI .i64 (IntKind.i64.wrap x66))]⟩]) (sv (aY rfl rfl (fU cT rfl rfl rfl zl rfl)))) ?_
          exact DrawG.jg (by decide +kernel) (by decide +kernel) (zG [0,1]) J
         ·refine DrawG.pick (n := 1) (i := 9) (by decide +kernel) rfl (gS (v := (.row none 1 (x70.map (eI .u8)))) (sv (b5 rfl rfl rfl (qM cG cZ rfl rfl h_19)))) ?_
          exact DrawG.jg (by decide +kernel) (by decide +kernel) (zG [0,1]) J
       ·refine DrawG.fork (n := 5) [6,11] (by decide +kernel) (by decide) ?_
        refine (Fork.cons rfl (gS (v := (eI .u8 x66)) (sv (bO rfl (ldR h_18 (nV cZ rfl rfl))))) ?_ (Fork.cons rfl (gN (h' := [some ⟨46,[(eI .i64 0),(.row (some true) 1 []),(eI .i64 0),(eI .i64 0)]⟩,some ⟨46,[(eI .i64 (IntKind.i64.wrap x8)),(.row (some true) 1 []),(eI .i64 (IntKind.i64.wrap x62)),(eI .i64 0)]⟩]) (sv (aY rfl rfl (fU cT rfl rfl rfl zl rfl)))) ?_ Fork.nil))
        ·refine DrawG.fork (n := 4) [7,11] (by decide +kernel) (by decide) ?_
         refine (Fork.cons rfl (gS (v := (eI .i64 (IntKind.i64.wrap x66))) (sv (f6 rfl (eV _ ⟨_,cZ⟩ cT rfl)))) ?_ (Fork.cons rfl (gN (h' := [some ⟨46,[(eI .i64 0),(.row (some true) 1 []),(eI .i64 0),(eI .i64 0)]⟩,some ⟨46,[(eI .i64 (IntKind.i64.wrap x8)),(.row (some true) 1 []),(eI .i64 (IntKind.i64.wrap x62)),(eI .i64 0)]⟩]) (sv (aY rfl rfl (fU cT rfl rfl rfl zl rfl)))) ?_ Fork.nil))
         ·refine DrawG.pick (n := 3) (i := 11) (by decide +kernel) rfl (gN (h' := [some ⟨46,[(eI .i64 0),(.row (some true) 1 []),(eI .i64 0),(eI .i64 0)]⟩,some ⟨46,[(eI .i64 (IntKind.i64.wrap x8)),(.row (some true) 1 []),(eI .i64 (IntKind.i64.wrap x62)),(eI .i64 0)]⟩]) (sv (aY rfl rfl (fU cT rfl rfl rfl zl rfl)))) <| DrawG.pick (n := 2) (i := 12) (by decide +kernel) rfl (gS (v := (.ptr 1 3)) (sv (lI rfl (gR ..)))) <| DrawG.pick (n := 1) (i := 13) (by decide +kernel) rfl (gN (h' := [some ⟨46,[(eI .i64 0),(.row (some true) 1 []),(eI .i64 0),(eI .i64 0)]⟩,some ⟨46,[(eI .i64 (IntKind.i64.wrap x8)),(.row (some true) 1 []),(eI .i64 (IntKind.i64.wrap x62)),(eI .i64 (IntKind.i64.wrap x66))]⟩]) (sv (aY rfl rfl (fU cT rfl rfl rfl zl rfl)))) ?_
          exact DrawG.jg (by decide +kernel) (by decide +kernel) (zG [0,1]) J
         ·refine DrawG.pick (n := 3) (i := 7) (by decide +kernel) rfl (gS (v := (eI .i64 (IntKind.i64.wrap x66))) (sv (f6 rfl (eV _ ⟨_,cZ⟩ cT rfl)))) <| DrawG.pick (n := 2) (i := 12) (by decide +kernel) rfl (gS (v := (.ptr 1 3)) (sv (lI rfl (gR ..)))) <| DrawG.pick (n := 1) (i := 13) (by decide +kernel) rfl (gN (h' := [some ⟨46,[(eI .i64 0),(.row (some true) 1 []),(eI .i64 0),(eI .i64 0)]⟩,some ⟨46,[(eI .i64 (IntKind.i64.wrap x8)),(.row (some true) 1 []),(eI .i64 (IntKind.i64.wrap x62)),(eI .i64 (IntKind.i64.wrap x66))]⟩]) (sv (aY rfl rfl (fU cT rfl rfl rfl zl rfl)))) ?_
          exact DrawG.jg (by decide +kernel) (by decide +kernel) (zG [0,1]) J
        ·refine DrawG.pick (n := 4) (i := 6) (by decide +kernel) rfl (gS (v := (eI .u8 x66)) (sv (bO rfl (ldR h_18 (nV cZ rfl rfl))))) <| DrawG.pick (n := 3) (i := 7) (by decide +kernel) rfl (gS (v := (eI .i64 (IntKind.i64.wrap x66))) (sv (f6 rfl (eV _ ⟨_,cZ⟩ cT rfl)))) <| DrawG.pick (n := 2) (i := 12) (by decide +kernel) rfl (gS (v := (.ptr 1 3)) (sv (lI rfl (gR ..)))) <| DrawG.pick (n := 1) (i := 13) (by decide +kernel) rfl (gN (h' := [some ⟨46,[(eI .i64 0),(.row (some true) 1 []),(eI .i64 0),(eI .i64 0)]⟩,some ⟨46,[(eI .i64 (IntKind.i64.wrap x8)),(.row (some true) 1 []),(eI .i64 (IntKind.i64.wrap x62)),(eI .i64 (IntKind.i64.wrap x66))]⟩]) (sv (aY rfl rfl (fU cT rfl rfl rfl zl rfl)))) ?_
         exact DrawG.jg (by decide +kernel) (by decide +kernel) (zG [0,1]) J
       ·refine DrawG.pick (n := 5) (i := 6) (by decide +kernel) rfl (gS (v := (eI .u8 x66)) (sv (bO rfl (ldR h_18 (nV cZ rfl rfl))))) <| DrawG.pick (n := 4) (i := 7) (by decide +kernel) rfl (gS (v := (eI .i64 (IntKind.i64.wrap x66))) (sv (f6 rfl (eV _ ⟨_,cZ⟩ cT rfl)))) <| DrawG.pick (n := 3) (i := 12) (by decide +kernel) rfl (gS (v := (.ptr 1 3)) (sv (lI rfl (gR ..)))) <| DrawG.fork (n := 2) [9,13] (by decide +kernel) (by decide) ?_
        refine (Fork.cons rfl (gS (v := (.row none 1 (x70.map (eI .u8)))) (sv (b5 rfl rfl rfl (qM cG cZ rfl rfl h_19)))) ?_ (Fork.cons rfl (gN (h' := [some ⟨46,[(eI .i64 0),(.row (some true) 1 []),(eI .i64 0),(eI .i64 0)]⟩,some ⟨46,[(eI .i64 (IntKind.i64.wrap x8)),(.row (some true) 1 []),(eI .i64 (IntKind.i64.wrap x62)),(eI .i64 (IntKind.i64.wrap x66))]⟩]) (sv (aY rfl rfl (fU cT rfl rfl rfl zl rfl)))) ?_ Fork.nil))
        ·refine DrawG.pick (n := 1) (i := 13) (by decide +kernel) rfl (gN (h' := [some ⟨46,[(eI .i64 0),(.row (some true) 1 []),(eI .i64 0),(eI .i64 0)]⟩,some ⟨46,[(eI .i64 (IntKind.i64.wrap x8)),(.row (some true) 1 []),(eI .i64 (IntKind.i64.wrap x62)),(eI .i64 (IntKind.i64.wrap x66))]⟩]) (sv (aY rfl rfl (fU cT rfl rfl rfl zl rfl)))) ?_
         exact DrawG.jg (by decide +kernel) (by decide +kernel) (zG [0,1]) J
        ·refine DrawG.pick (n := 1) (i := 9) (by decide +kernel) rfl (gS (v := (.row none 1 (x70.map (eI .u8)))) (sv (b5 rfl rfl rfl (qM cG cZ rfl rfl h_19)))) ?_
         exact DrawG.jg (by decide +kernel) (by decide +kernel) (zG [0,1]) J
    ·refine zz ?_
     exact hG2 _ _ _ _ (Ghost.trans (Ghost.virt (fr' := [(0,(.row none 1 (bN.map (eI .u8)))),(2,(.ptr 0 0)),(5,(.ptr 1 0))]) (h1 := [some ⟨46,[(eI .i64 0),(.row (some true) 1 []),(eI .i64 0),(eI .i64 0)]⟩,some ⟨46,[(eI .i64 (IntKind.i64.wrap x8)),(.sl 2 0 0 1 false),(eI .i64 0),(eI .i64 0)]⟩]) 5 (FLe.same rfl (FLe.same rfl (FLe.same rfl FLe.nil))) (HLv.live (V.les_refl _ _) rfl (HLv.live (V.les_cons (V.le_refl _ _) (V.les_cons (V.le_virt rfl) (V.les_cons (V.le_refl _ _) (V.les_cons (V.le_refl _ _) V.les_nil)))) rfl HLv.nil))) (lT [0,1,2])) (J2 bN 0 0 [] hr)
 rcases Bool.eq_false_or_eq_true (decide ((IntKind.i64.wrap x8) < 1)) with h20 | h20
 ·replace hr := cV hr h20
  refine xr ?_
  refine zz ?_
  exact hG1 _ _ _ _ (zG [0,1]) (J1 true hr)
 ·replace hr := cU hr h20
  refine xr ?_
  refine zz ?_
  exact hG1 _ _ _ _ (zG [0,1]) (J1 (decide (17 < (IntKind.i64.wrap x8))) hr)
theorem aEO {N : Nat} {b : List Int} {r : (List aM) × Int} (hr : tU N b = some r) :
  Vm.Fn Tryz.prog 23 [] [(.row none 1 (b.map (eI .u8)))] (.tup [(.sl 0 0 r.1.length 4 true),(eI .i64 r.2)]) [some ⟨46,r.1.flatMap bU⟩] := by
 refine zf Tryz.func23 Tryz.ntmps23 ?_
 unfold tU at hr
 refine zz ?_
 refine AB.seq ?_
 refine zz ?_
 refine zk hr rfl (fun h1 hr => ?_) (fun h1 hr => ?_)
 ·refine zz ?_
  obtain rfl := sj hr
  exact nQ Tryz.results23 aW aW (zW 46 [0])
 ·refine zz ?_
  refine AB.seq_g fun K1 hK1 hG1 => ?_
  have J1 : ∀ (l0 : List aM),wV N l0 = some r → K1 (aE 29 [(4,(.sl 0 0 l0.length 4 true))]) [some ⟨46,l0.flatMap bU⟩] := by
   intro l0 hr
   unfold wV at hr
   refine hK1 _ _ ?_
   refine zz ?_
   obtain rfl := sj hr
   exact v5 Tryz.results23 [0]
  obtain ⟨a9,hL2,hr⟩ := aA hr
  refine AB.block <| AB.loopN (fun m s h => ∃ (b_1 : List Int) (aK : List aM),kD N m b_1 aK = some a9 ∧ Ghost 0 s h (aE 29 [(0,(.row none 1 (b_1.map (eI .u8)))),(4,(.sl 0 0 aK.length 4 true))]) [some ⟨46,aK.flatMap bU⟩]) (n := N) ⟨b,[],hL2,(zW 46 [0])⟩ (by rintro s h ⟨_,_,h0,_⟩; simp [kD] at h0) ?_
  rintro m2 s h ⟨b_1,aK,hr2,hg⟩
  refine AB.ghost hg ?_
  clear hg hL2
  rw [kD] at hr2
  refine AB.seq ?_
  refine zz ?_
  refine zk hr2 rfl (fun h2 hr2 => ?_) (fun h2 hr2 => ?_)
  ·refine zz ?_
   refine AB.block ?_
   obtain ⟨x16,h_3,hr2⟩ := aA hr2
   refine zz ?_
   refine zc (aGx h_3) [] ?_
   refine zz ?_
   refine AB.seq ?_
   refine zz ?_
   refine zk hr2 rfl (fun h4 hr2 => ?_) (fun h4 hr2 => ?_)
   ·refine zz ?_
    obtain rfl := sj hr2
    obtain rfl := sj hr
    exact nQ Tryz.results23 aW aW (zW 46 [3])
   ·obtain ⟨x26,h_5,hr2⟩ := aA hr2
    refine zz ?_
    refine OpsX.ghost (Ghost.conv (fr' := [(0,(.row none 1 (b_1.map (eI .u8)))),(4,(.sl 0 0 aK.length 4 true)),(5,(.ptr 2 0)),(6,(.row none 1 (x16.2.2.2.2.1.map (eI .u8)))),(7,(eI .i64 x16.2.2.2.2.2)),(11,(.row none 1 (b_1.map (eI .u8)))),(12,(eI .i64 (b_1.length : Int))),(13,(eB (decide (0 < (b_1.length : Int))))),(14,(.tup [(.agg [(eI .i64 x16.1),(.row none 1 (x16.2.1.map (eI .u8))),(eI .i64 x16.2.2.1),(eI .i64 x16.2.2.2.1)]),(.row none 1 (x16.2.2.2.2.1.map (eI .u8))),(eI .i64 x16.2.2.2.2.2)])),(15,(.row none 1 (b_1.map (eI .u8)))),(16,(.tup [(.agg [(eI .i64 x16.1),(.row none 1 (x16.2.1.map (eI .u8))),(eI .i64 x16.2.2.1),(eI .i64 x16.2.2.2.1)]),(.row none 1 (x16.2.2.2.2.1.map (eI .u8))),(eI .i64 x16.2.2.2.2.2)])),(17,(.agg [(eI .i64 x16.1),(.row none 1 (x16.2.1.map (eI .u8))),(eI .i64 x16.2.2.1),(eI .i64 x16.2.2.2.1)])),(18,(.row none 1 (x16.2.2.2.2.1.map (eI .u8)))),(19,(eI .i64 x16.2.2.2.2.2)),(20,(eI .i64 x16.2.2.2.2.2)),(21,(eB (x16.2.2.2.2.2 != 0))),(23,(.sl 0 0 aK.length 4 true)),(24,(.agg [(eI .i64 x16.1),(.row none 1 (x16.2.1.map (eI .u8))),(eI .i64 x16.2.2.1),(eI .i64 x16.2.2.2.1)]))]) (h' := [some ⟨46,aK.flatMap bU⟩,none,some ⟨46,[(eI .i64 x16.1),(.row none 1 (x16.2.1.map (eI .u8))),(eI .i64 x16.2.2.1),(eI .i64 x16.2.2.2.1)]⟩]) (FCv.cons rfl (Conv.same (aI rfl)) (FCv.cons rfl (Conv.same (aI rfl)) (FCv.cons rfl (Conv.same (aI rfl)) (FCv.cons rfl (Conv.same (aI rfl)) (FCv.cons rfl (Conv.same (aI rfl)) (FCv.cons rfl (Conv.same (aI rfl)) (FCv.cons rfl (Conv.same (aI rfl)) (FCv.cons rfl (Conv.same (aI rfl)) (FCv.cons rfl (Conv.tup (Convs.cons (Conv.agg (Convs.cons (Conv.same (aI rfl)) (Convs.cons (Conv.row (aI rfl) rfl rfl (eJ (fun _ => rfl)) (by first | rfl | (simp only [List.length_map,bK,bJ]; done))) (Convs.cons (Conv.same (aI rfl)) (Convs.cons (Conv.same (aI rfl)) Convs.nil))))) (Convs.cons (Conv.same (aI rfl)) (Convs.cons (Conv.same (aI rfl)) Convs.nil)))) (FCv.cons rfl (Conv.same (aI rfl)) (FCv.cons rfl (Conv.tup (Convs.cons (Conv.agg (Convs.cons (Conv.same (aI rfl)) (Convs.cons (Conv.row (aI rfl) rfl rfl (eJ (fun _ => rfl)) (by first | rfl | (simp only [List.length_map,bK,bJ]; done))) (Convs.cons (Conv.same (aI rfl)) (Convs.cons (Conv.same (aI rfl)) Convs.nil))))) (Convs.cons (Conv.same (aI rfl)) (Convs.cons (Conv.same (aI rfl)) Convs.nil)))) (FCv.cons rfl (Conv.agg (Convs.cons (Conv.same (aI rfl)) (Convs.cons (Conv.row (aI rfl) rfl rfl (eJ (fun _ => rfl)) (by first | rfl | (simp only [List.length_map,bK,bJ]; done))) (Convs.cons (Conv.same (aI rfl)) (Convs.cons (Conv.same (aI rfl)) Convs.nil))))) (FCv.cons rfl (Conv.same (aI rfl)) (FCv.cons rfl (Conv.same (aI rfl)) (FCv.cons rfl (Conv.same (aI rfl)) (FCv.cons rfl (Conv.same (aI rfl)) (FCv.cons rfl (Conv.same (aI rfl)) (FCv.cons rfl (Conv.agg (Convs.cons (Conv.same (aI rfl)) (Convs.cons (Conv.row (aI rfl) rfl rfl (eJ (fun _ => rfl)) (by first | rfl | (simp only [List.length_map,bK,bJ]; done))) (Convs.cons (Conv.same (aI rfl)) (Convs.cons (Conv.same (aI rfl)) Convs.nil))))) FCv.nil)))))))))))))))))) (HCv.live (Convs.same (aI rfl)) (mQ (fun _ => rfl) _) (HCv.dead (HCv.live (Convs.cons (Conv.same (aI rfl)) (Convs.cons (Conv.row (aI rfl) rfl rfl (eJ (fun _ => rfl)) (by first | rfl | (simp only [List.length_map,bK,bJ]; done))) (Convs.cons (Conv.same (aI rfl)) (Convs.cons (Conv.same (aI rfl)) Convs.nil)))) rfl HCv.nil)))) ?_
    refine xw (v := (.sl 3 0 1 4 true)) (h' := [some ⟨46,aK.flatMap bU⟩,none,some ⟨46,[(eI .i64 x16.1),(.row none 1 (x16.2.1.map (eI .u8))),(eI .i64 x16.2.2.1),(eI .i64 x16.2.2.2.1)]⟩,some ⟨46,[(aM.mk x16.1 x16.2.1 x16.2.2.1 x16.2.2.2.1)].flatMap bU⟩]) (qF rfl (aCO (C := bU) (xs := [(aM.mk x16.1 x16.2.1 x16.2.2.1 x16.2.2.2.1)]) (K := 4) (fun _ => rfl) (fun _ => rfl) aKy wM ⟨zl,zl,zl⟩ rfl rfl rfl rfl rfl rfl)) ?_
    refine zz ?_
    exact ⟨x16.2.2.2.2.1,x26,hr2,(zG [4])⟩
  ·refine zz ?_
   obtain rfl := sj hr2
   refine zz ?_
   exact hG1 _ _ _ _ (zG [0]) (J1 aK hr)
theorem aDD {N : Nat} {l : List aM} {r : Bool} (hr : rI N l = some r) :
  Vm.Fn Tryz.prog 24 [] [(.row none 4 (l.map rJ))] (eB r) [] := by
 refine zf Tryz.func24 Tryz.ntmps24 ?_
 unfold rI at hr
 refine zz ?_
 refine AB.seq_g fun K1 hK1 hG1 => ?_
 have J1 : ∀ (l0 : List Bool),u2 N l0 = some r → K1 (aE 51 [(3,(.sl 0 0 l0.length 1 false))]) [some ⟨4,l0.map eB⟩] := by
  intro l0 hr
  unfold u2 at hr
  refine hK1 _ _ ?_
  refine zz ?_
  obtain rfl := sj hr
  exact bH Tryz.results24 []
 obtain ⟨a9,hL2,hr⟩ := aA hr
 refine zz ?_
 refine AB.block <| AB.loopN (fun m s h => ∃ (x8 : Int) (aK : List Bool),dD N l m x8 aK = some a9 ∧ Ghost 0 s h (aE 51 [(3,(.sl 0 0 aK.length 1 false)),(6,(.row none 4 (l.map rJ))),(7,(eI .i64 (l.length : Int))),(8,(eI .i64 x8))]) [some ⟨4,aK.map eB⟩]) (n := N) ⟨0,[],hL2,(zW 4 [0])⟩ (by rintro s h ⟨_,_,h0,_⟩; simp [dD] at h0) ?_
 rintro m2 s h ⟨x8,aK,hr2,hg⟩
 refine AB.ghost hg ?_
 clear hg hL2
 rw [dD] at hr2
 refine zz ?_
 refine AB.seq ?_
 refine zk hr2 rfl (fun h1 hr2 => ?_) (fun h1 hr2 => ?_)
 ·refine zz ?_
  refine AB.seq_g fun K3 hK3 hG3 => ?_
  have J3 : ∀ (iP : List Bool),jM N l x8 (dD N l m2) iP = some a9 → K3 (aE 51 [(3,(.sl 0 0 iP.length 1 false)),(6,(.row none 4 (l.map rJ))),(7,(eI .i64 (l.length : Int))),(8,(eI .i64 x8))]) [some ⟨4,iP.map eB⟩] := by
   intro iP hr2
   unfold jM at hr2
   refine hK3 _ _ ?_
   refine zz ?_
   exact ⟨IntKind.i64.wrap (x8 + 1),iP,hr2,(zG [0])⟩
  refine AB.block ?_
  obtain ⟨b8,h_2,hr2⟩ := aA hr2
  refine zz ?_
  refine AB.block ?_
  refine zz ?_
  refine zk hr2 rfl (fun h3 hr2 => ?_) (fun h3 hr2 => ?_)
  ·obtain ⟨x18,h_4,hr2⟩ := aA hr2
   refine zz ?_
   exact hG3 _ _ _ _ (zG [3]) (J3 x18 hr2)
  ·refine zz ?_
   refine zk hr2 rfl (fun h5 hr2 => ?_) (fun h5 hr2 => ?_)
   ·refine AB.seq ?_
    refine AB.seq_g fun K4 hK4 hG4 => ?_
    have J4 : ∀ (dL : Bool),nX N l x8 aK (dD N l m2) dL = some a9 → K4 (aE 51 [(3,(.sl 0 0 aK.length 1 false)),(6,(.row none 4 (l.map rJ))),(7,(eI .i64 (l.length : Int))),(8,(eI .i64 x8)),(31,(eB dL))]) [some ⟨4,aK.map eB⟩] := by
     intro dL hr2
     unfold nX at hr2
     refine hK4 _ _ ?_
     refine zk hr2 rfl (fun h6 hr2 => ?_) (fun h6 hr2 => ?_)
     ·refine zz ?_
      obtain rfl := sj hr2
      obtain rfl := sj hr
      exact bH Tryz.results24 []
     ·obtain ⟨x36,h_7,hr2⟩ := aA hr2
      refine zz ?_
      exact hG3 _ _ _ _ (lT [0]) (J3 (aK.set (Int.toNat (IntKind.i64.wrap ((aK.length : Int) - 1))) true) hr2)
    rcases Bool.eq_false_or_eq_true ((aK.length : Int) == 0) with h8 | h8
    ·replace hr2 := cV hr2 h8
     refine xr ?_
     refine zz ?_
     exact hG4 _ _ _ _ (zG [0]) (J4 true hr2)
    ·replace hr2 := cU hr2 h8
     obtain ⟨x29,h_9,hr2⟩ := aA hr2
     refine xr ?_
     refine zz ?_
     exact hG4 _ _ _ _ (zG [0]) (J4 x29 hr2)
   ·refine zz ?_
    refine zk hr2 rfl (fun h10 hr2 => ?_) (fun h10 hr2 => ?_)
    ·refine AB.seq ?_
     refine zz ?_
     refine zk hr2 rfl (fun h11 hr2 => ?_) (fun h11 hr2 => ?_)
     ·refine zz ?_
      obtain rfl := sj hr2
      obtain rfl := sj hr
      exact bH Tryz.results24 []
     ·obtain ⟨x46,h_12,hr2⟩ := aA hr2
      refine zz ?_
      refine xw (v := (.sl 0 0 x46.length 1 false)) (b5 rfl rfl rfl (aD8 (l := aK) rfl aKM yA rfl rfl rfl h_12)) ?_
      refine OpsX.ghost (Ghost.cutM (t := 46) (E := eB) (l := aK) (h' := [some ⟨4,x46.map eB⟩,some ⟨46,[(eI .i64 b8.Code),(.row none 1 (b8.Data.map (eI .u8))),(eI .i64 b8.M),(eI .i64 b8.N)]⟩]) rfl rfl h_12 rfl) ?_
      refine zz ?_
      exact hG3 _ _ _ _ (zG [0]) (J3 x46 hr2)
    ·refine zz ?_
     exact hG3 _ _ _ _ (zG [0]) (J3 aK hr2)
 ·refine zz ?_
  obtain rfl := sj hr2
  refine zz ?_
  exact hG1 _ _ _ _ (zG [0]) (J1 aK hr)
theorem aFY {N : Nat} {vs : List (List Int)} {r : Bool} (hr : vS N vs = some r) :
  Vm.Fn Tryz.prog 25 [] [(.row none 1 (vs.map (eL 1 (eI .u8))))] (eB r) [] := by
 refine zf Tryz.func25 Tryz.ntmps25 ?_
 unfold vS at hr
 refine zz ?_
 refine AB.seq ?_
 refine zz ?_
 refine zk hr rfl (fun h1 hr => ?_) (fun h1 hr => ?_)
 ·refine zz ?_
  obtain rfl := sj hr
  exact bH Tryz.results25 []
 ·refine zz ?_
  refine AB.seq_g fun K1 hK1 hG1 => ?_
  have J1 : yT N = some r → K1 (aE 18 []) [] := by
   intro hr
   unfold yT at hr
   refine hK1 _ _ ?_
   refine zz ?_
   obtain rfl := sj hr
   exact bH Tryz.results25 []
  obtain ⟨a9,hL2,hr⟩ := aA hr
  refine zz ?_
  refine AB.block <| AB.loopN (fun m s h => ∃ (b8 : Int),jV N vs m b8 = some a9 ∧ Ghost 0 s h (aE 18 [(8,(.row none 1 (vs.map (eL 1 (eI .u8))))),(9,(eI .i64 (vs.length : Int))),(10,(eI .i64 b8))]) []) (n := N) ⟨0,hL2,(zG [])⟩ (by rintro s h ⟨_,h0,_⟩; simp [jV] at h0) ?_
  rintro m2 s h ⟨b8,hr2,hg⟩
  refine AB.ghost hg ?_
  clear hg hL2
  rw [jV] at hr2
  refine zz ?_
  refine AB.seq ?_
  refine zk hr2 rfl (fun h2 hr2 => ?_) (fun h2 hr2 => ?_)
  ·refine zz ?_
   refine AB.seq <| AB.block ?_
   obtain ⟨eE,h_3,hr2⟩ := aA hr2
   refine zz ?_
   refine zk hr2 rfl (fun h4 hr2 => ?_) (fun h4 hr2 => ?_)
   ·refine zz ?_
    obtain rfl := sj hr2
    obtain rfl := sj hr
    exact bH Tryz.results25 []
   ·refine zz ?_
    exact ⟨IntKind.i64.wrap (b8 + 1),hr2,(zG [])⟩
  ·refine zz ?_
   obtain rfl := sj hr2
   refine zz ?_
   exact hG1 _ _ _ _ (zG []) (J1 hr)
theorem aEc {N : Nat} {l : List (List Int)} {r : (List (List Int))} (hr : sC N l = some r) :
  Vm.Fn Tryz.prog 26 [] [(.row none 1 (l.map (eL 1 (eI .u8))))] (.sl 0 0 r.length 1 false) [some ⟨31,r.map (eL 1 (eI .u8))⟩] := by
 refine zf Tryz.func26 Tryz.ntmps26 ?_
 unfold sC at hr
 obtain ⟨x8,h_1,hr⟩ := aA hr
 refine zz ?_
 refine xw (v := (.sl 0 0 0 1 false)) (h' := [some ⟨31,x8.map (eL 1 (eI .u8))⟩]) (aK8 rfl rfl (mkC (E := (eL 1 (eI .u8))) (y := ([] : List Int)) yR cG ⟨zl,rfl,rfl⟩ rfl rfl rfl h_1 rfl rfl)) ?_
 refine zz ?_
 refine AB.seq_g fun K1 hK1 hG1 => ?_
 have J1 : ∀ (l0 : List (List Int)),vU N l0 = some r → K1 (aE 23 [(3,(.sl 0 0 l0.length 1 false))]) [some ⟨31,l0.map (eL 1 (eI .u8))⟩] := by
  intro l0 hr
  unfold vU at hr
  refine hK1 _ _ ?_
  refine zz ?_
  obtain rfl := sj hr
  exact bH Tryz.results26 [0]
 refine zz ?_
 refine AB.ghost (Ghost.cutM (t := 3) (E := (eL 1 (eI .u8))) (l := x8) (x := []) (h' := [some ⟨31,[].map (eL 1 (eI .u8))⟩]) rfl rfl aNX rfl) ?_
 obtain ⟨a9,hL2,hr⟩ := aA hr
 refine AB.block <| AB.loopN (fun m s h => ∃ (bX : Int) (aK : List (List Int)),iA N l m bX aK = some a9 ∧ Ghost 0 s h (aE 23 [(3,(.sl 0 0 aK.length 1 false)),(9,(.row none 1 (l.map (eL 1 (eI .u8))))),(10,(eI .i64 (l.length : Int))),(11,(eI .i64 bX))]) [some ⟨31,aK.map (eL 1 (eI .u8))⟩]) (n := N) ⟨0,[],hL2,(lT [0])⟩ (by rintro s h ⟨_,_,h0,_⟩; simp [iA] at h0) ?_
 rintro m2 s h ⟨bX,aK,hr2,hg⟩
 refine AB.ghost hg ?_
 clear hg hL2
 rw [iA] at hr2
 refine zz ?_
 refine AB.seq ?_
 refine zk hr2 rfl (fun h2 hr2 => ?_) (fun h2 hr2 => ?_)
 ·refine zz ?_
  refine AB.seq <| AB.block ?_
  obtain ⟨cD,h_3,hr2⟩ := aA hr2
  obtain ⟨x18,h_4,hr2⟩ := aA hr2
  obtain ⟨bE,h_5,hr2⟩ := aA hr2
  refine zz ?_
  refine zcL (t7 h_4) [] [1] ?_
  refine OpsX.ghost (zv 2) ?_
  refine zz ?_
  exact ⟨IntKind.i64.wrap (bX + 1),bE,hr2,(zG [4])⟩
 ·refine zz ?_
  obtain rfl := sj hr2
  refine zz ?_
  exact hG1 _ _ _ _ (zG [0]) (J1 aK hr)
theorem aEb {N : Nat} {l : List aR} {r : Bool} (hr : r3 N l = some r) :
  Vm.Fn Tryz.prog 27 [] [(.row none 2 (l.map z7))] (eB r) [] := by
 refine zf Tryz.func27 Tryz.ntmps27 ?_
 unfold r3 at hr
 refine zz ?_
 refine AB.seq_g fun K1 hK1 hG1 => ?_
 have J1 : ∀ (x2 : Bool),lD N x2 = some r → K1 (aE 24 [(2,(eB x2))]) [] := by
  intro x2 hr
  unfold lD at hr
  refine hK1 _ _ ?_
  refine zz ?_
  obtain rfl := sj hr
  exact bH Tryz.results27 []
 rcases Bool.eq_false_or_eq_true ((l.length : Int) == 0) with h1 | h1
 ·replace hr := cV hr h1
  refine xr ?_
  refine zz ?_
  exact hG1 _ _ _ _ (zG []) (J1 true hr)
 ·replace hr := cU hr h1
  obtain ⟨bX,h_2,hr⟩ := aA hr
  rcases Bool.eq_false_or_eq_true bX.reached with h3 | h3
  ·replace hr := cV hr h3
   refine xr ?_
   refine zz ?_
   exact hG1 _ _ _ _ (zG []) (J1 bX.done hr)
  ·replace hr := cU hr h3
   refine xr ?_
   refine zz ?_
   exact hG1 _ _ _ _ (zG []) (J1 false hr)
theorem aEQ {N : Nat} {aJ : Int} {aX : List Int} {o_M : Int} {o_N : Int} {r : Int} (hr : xK N aJ aX o_M o_N = some r) :
  Vm.Fn Tryz.prog 28 [] [(.agg [(eI .i64 aJ),(.row none 1 (aX.map (eI .u8))),(eI .i64 o_M),(eI .i64 o_N)])] (eI .i64 r) [] := by
 refine zf Tryz.func28 Tryz.ntmps28 ?_
 unfold xK at hr
 refine zz ?_
 refine AB.seq ?_
 refine zz ?_
 refine AB.block ?_
 refine zz ?_
 refine zk hr rfl (fun h1 hr => ?_) (fun h1 hr => ?_)
 ·refine zz ?_
  obtain rfl := sj hr
  exact bH Tryz.results28 []
 ·refine zz ?_
  refine zk hr rfl (fun h2 hr => ?_) (fun h2 hr => ?_)
  ·refine zz ?_
   obtain rfl := sj hr
   exact bH Tryz.results28 []
  ·refine zz ?_
   refine zk hr rfl (fun h3 hr => ?_) (fun h3 hr => ?_)
   ·refine zz ?_
    obtain rfl := sj hr
    exact bH Tryz.results28 []
   ·refine zz ?_
    obtain rfl := sj hr
    exact bH Tryz.results28 []
theorem aEP {N : Nat} {aJ : Int} {aX : List Int} {o_M : Int} {o_N : Int} {r : Int} (hr : tS N aJ aX o_M o_N = some r) :
  Vm.Fn Tryz.prog 29 [] [(.agg [(eI .i64 aJ),(.row none 1 (aX.map (eI .u8))),(eI .i64 o_M),(eI .i64 o_N)])] (eI .i64 r) [] := by
 refine zf Tryz.func29 Tryz.ntmps29 ?_
 unfold tS at hr
 refine zz ?_
 refine AB.seq ?_
 refine zz ?_
 refine AB.block ?_
 refine AB.seq_g fun K1 hK1 hG1 => ?_
 have J1 : ∀ (x5 : Bool),dX N aJ aX o_M o_N x5 = some r → K1 (aE 24 [(1,(.ptr 0 0)),(4,(eI .i64 aJ)),(5,(eB x5))]) [some ⟨46,[(eI .i64 aJ),(.row none 1 (aX.map (eI .u8))),(eI .i64 o_M),(eI .i64 o_N)]⟩] := by
  intro x5 hr
  unfold dX at hr
  refine hK1 _ _ ?_
  refine zk hr rfl (fun h1 hr => ?_) (fun h1 hr => ?_)
  ·refine zz ?_
   obtain rfl := sj hr
   exact bH Tryz.results29 []
  ·refine AB.seq_g fun K2 hK2 hG2 => ?_
   have J2 : ∀ (x15 : Bool),lY N aJ aX o_M o_N x15 = some r → K2 (aE 24 [(1,(.ptr 0 0)),(4,(eI .i64 aJ)),(15,(eB x15))]) [some ⟨46,[(eI .i64 aJ),(.row none 1 (aX.map (eI .u8))),(eI .i64 o_M),(eI .i64 o_N)]⟩] := by
    intro x15 hr
    unfold lY at hr
    refine hK2 _ _ ?_
    refine zk hr rfl (fun h2 hr => ?_) (fun h2 hr => ?_)
    ·refine zz ?_
     obtain rfl := sj hr
     exact bH Tryz.results29 []
    ·refine zz ?_
     refine zk hr rfl (fun h3 hr => ?_) (fun h3 hr => ?_)
     ·refine zz ?_
      obtain rfl := sj hr
      exact bH Tryz.results29 []
     ·refine zz ?_
      obtain rfl := sj hr
      exact bH Tryz.results29 []
   refine zz ?_
   refine zk hr rfl (fun h4 hr => ?_) (fun h4 hr => ?_)
   ·refine zz ?_
    exact hG2 _ _ _ _ (zG [0]) (J2 (aJ == 4) hr)
   ·refine zz ?_
    refine zk hr rfl (fun h5 hr => ?_) (fun h5 hr => ?_)
    ·refine zz ?_
     exact hG2 _ _ _ _ (zG [0]) (J2 (aJ == 5) hr)
    ·refine zz ?_
     exact hG2 _ _ _ _ (zG [0]) (J2 (aJ == 10) hr)
 refine zz ?_
 refine zk hr rfl (fun h6 hr => ?_) (fun h6 hr => ?_)
 ·refine zz ?_
  exact hG1 _ _ _ _ (zG [0]) (J1 (aJ == 2) hr)
 ·refine zz ?_
  refine zk hr rfl (fun h7 hr => ?_) (fun h7 hr => ?_)
  ·refine zz ?_
   exact hG1 _ _ _ _ (zG [0]) (J1 (aJ == 3) hr)
  ·refine zz ?_
   refine zk hr rfl (fun h8 hr => ?_) (fun h8 hr => ?_)
   ·refine zz ?_
    exact hG1 _ _ _ _ (zG [0]) (J1 (aJ == 6) hr)
   ·refine zz ?_
    refine zk hr rfl (fun h9 hr => ?_) (fun h9 hr => ?_)
    ·refine zz ?_
     exact hG1 _ _ _ _ (zG [0]) (J1 (aJ == 7) hr)
    ·refine zz ?_
     refine zk hr rfl (fun h10 hr => ?_) (fun h10 hr => ?_)
     ·refine zz ?_
      exact hG1 _ _ _ _ (zG [0]) (J1 (aJ == 8) hr)
     ·refine zz ?_
      refine zk hr rfl (fun h11 hr => ?_) (fun h11 hr => ?_)
      ·refine zz ?_
       exact hG1 _ _ _ _ (zG [0]) (J1 (aJ == 9) hr)
      ·refine zz ?_
       refine zk hr rfl (fun h12 hr => ?_) (fun h12 hr => ?_)
       ·refine zz ?_
        exact hG1 _ _ _ _ (zG [0]) (J1 (aJ == 12) hr)
       ·refine zz ?_
        refine zk hr rfl (fun h13 hr => ?_) (fun h13 hr => ?_)
        ·refine zz ?_
         exact hG1 _ _ _ _ (zG [0]) (J1 (aJ == 13) hr)
        ·refine zz ?_
         exact hG1 _ _ _ _ (zG [0]) (J1 (aJ == 14) hr)
theorem uC {N : Nat} {b : List Int} {r : Bool} (hr : lR N b = some r) :
  Vm.Fn Tryz.prog 30 [] [(.row none 1 (b.map (eI .u8)))] (eB r) [] := by
 refine zf Tryz.func30 Tryz.ntmps30 ?_
 unfold lR at hr
 refine zz ?_
 refine AB.seq_g fun K1 hK1 hG1 => ?_
 have J1 : yP N = some r → K1 (aE 14 []) [] := by
  intro hr
  unfold yP at hr
  refine hK1 _ _ ?_
  refine zz ?_
  obtain rfl := sj hr
  exact bH Tryz.results30 []
 obtain ⟨a9,hL2,hr⟩ := aA hr
 refine zz ?_
 refine AB.block <| AB.loopN (fun m s h => ∃ (x7 : Int),lM N b m x7 = some a9 ∧ Ghost 0 s h (aE 14 [(5,(.row none 1 (b.map (eI .u8)))),(6,(eI .i64 (b.length : Int))),(7,(eI .i64 x7))]) []) (n := N) ⟨0,hL2,(zG [])⟩ (by rintro s h ⟨_,h0,_⟩; simp [lM] at h0) ?_
 rintro m2 s h ⟨x7,hr2,hg⟩
 refine AB.ghost hg ?_
 clear hg hL2
 rw [lM] at hr2
 refine zz ?_
 refine AB.seq ?_
 refine zk hr2 rfl (fun h1 hr2 => ?_) (fun h1 hr2 => ?_)
 ·refine zz ?_
  refine AB.seq <| AB.block ?_
  obtain ⟨x9,h_2,hr2⟩ := aA hr2
  refine zz ?_
  refine zk hr2 rfl (fun h3 hr2 => ?_) (fun h3 hr2 => ?_)
  ·refine zz ?_
   obtain rfl := sj hr2
   obtain rfl := sj hr
   exact bH Tryz.results30 []
  ·refine zz ?_
   exact ⟨IntKind.i64.wrap (x7 + 1),hr2,(zG [])⟩
 ·refine zz ?_
  obtain rfl := sj hr2
  refine zz ?_
  exact hG1 _ _ _ _ (zG []) (J1 hr)
theorem vE {N : Nat} {vs : List (List Int)} {eF : List Int} {r : (List (List Int)) × Int} (hr : k5 N vs eF = some r) :
  Vm.Fn Tryz.prog 44 [] [(.row none 1 (vs.map (eL 1 (eI .u8)))),(.row none 1 (eF.map (eI .u8)))] (.tup [(.sl 0 0 r.1.length 1 false),(eI .i64 r.2)]) [some ⟨31,r.1.map (eL 1 (eI .u8))⟩] := by
 refine zf Tryz.func44 Tryz.ntmps44 ?_
 unfold k5 at hr
 refine zz ?_
 refine AB.seq ?_
 refine zz ?_
 refine zk hr rfl (fun h1 hr => ?_) (fun h1 hr => ?_)
 ·refine zz ?_
  obtain rfl := sj hr
  exact nQ Tryz.results44 aW aW (zW 31 [0])
 ·obtain ⟨bC,h_2,hr⟩ := aA hr
  obtain ⟨x17,h_3,hr⟩ := aA hr
  refine zz ?_
  obtain rfl := sj hr
  exact v5 Tryz.results44 [1]
theorem aBP {N : Nat} {va : List Int} {b : List Int} {r : Bool} (hr : tC N va b = some r) :
  Vm.Fn Tryz.prog 32 [] [(.row none 1 (va.map (eI .u8))),(.row none 1 (b.map (eI .u8)))] (eB r) [] := by
 refine zf Tryz.func32 Tryz.ntmps32 ?_
 unfold tC at hr
 refine zz ?_
 refine xw (v := (eS (nS va))) (f6 rfl (aGd cG ti9 cZ (aAJ (fun _ => rfl)))) ?_
 refine zz ?_
 refine xw (v := (eS (nS b))) (f6 rfl (aGd cG ti9 cZ (aAJ (fun _ => rfl)))) <| xw (xE rfl rfl (aGV ..)) ?_
 refine zz ?_
 obtain rfl := sj hr
 exact bH Tryz.results32 []
theorem yJ {N : Nat} {vn : Int} {r : (List Int)} (hr : qC N vn = some r) :
  Vm.Fn Tryz.prog 47 [] [(eI .u32 vn)] (.sl 0 0 r.length 1 false) [some ⟨5,r.map (eI .u8)⟩] := by
 refine zf Tryz.func47 Tryz.ntmps47 ?_
 unfold qC at hr
 refine zz ?_
 refine AB.seq_g fun K1 hK1 hG1 => ?_
 have J1 : ∀ (l0 : List Int),yK N l0 = some r → K1 (aE 14 [(3,(.sl 0 0 l0.length 1 false))]) [some ⟨5,l0.map (eI .u8)⟩] := by
  intro l0 hr
  unfold yK at hr
  refine hK1 _ _ ?_
  refine zz ?_
  obtain rfl := sj hr
  exact bH Tryz.results47 [0]
 obtain ⟨a9,hL2,hr⟩ := aA hr
 refine AB.block <| AB.loopN (fun m s h => ∃ (cX : Int) (aK : List Int),lJ N m cX aK = some a9 ∧ Ghost 0 s h (aE 14 [(0,(eI .u32 cX)),(3,(.sl 0 0 aK.length 1 false))]) [some ⟨5,aK.map (eI .u8)⟩]) (n := N) ⟨vn,[],hL2,(zW 5 [0])⟩ (by rintro s h ⟨_,_,h0,_⟩; simp [lJ] at h0) ?_
 rintro m2 s h ⟨cX,aK,hr2,hg⟩
 refine AB.ghost hg ?_
 clear hg hL2
 rw [lJ] at hr2
 refine AB.seq ?_
 refine zz ?_
 refine zk hr2 rfl (fun h1 hr2 => ?_) (fun h1 hr2 => ?_)
 ·refine zz ?_
  refine AB.seq <| AB.block ?_
  obtain ⟨eE,h_2,hr2⟩ := aA hr2
  refine zz ?_
  exact ⟨IntKind.u32.wrap (Int.tdiv cX 256),eE,hr2,(zG [2])⟩
 ·refine zz ?_
  obtain rfl := sj hr2
  refine zz ?_
  exact hG1 _ _ _ _ (zG [0]) (J1 aK hr)
theorem sW {N : Nat} {b : Bool} {r : (List Int)} (hr : kS N b = some r) :
  Vm.Fn Tryz.prog 45 [] [(eB b)] (.row none 1 (r.map (eI .u8))) [] := by
 refine zf Tryz.func45 Tryz.ntmps45 ?_
 unfold kS at hr
 refine zz ?_
 refine AB.seq ?_
 refine zz ?_
 refine zk hr rfl (fun h1 hr => ?_) (fun h1 hr => ?_)
 ·obtain ⟨x4,h_2,hr⟩ := aA hr
  refine zz ?_
  refine zc (yJ h_2) [] ?_
  refine zz ?_
  obtain rfl := sj hr
  exact eY Tryz.results45 aW (Ghost.trans (zv 0) (zG []))
 ·obtain ⟨x5,h_3,hr⟩ := aA hr
  refine zz ?_
  refine zc (yJ h_3) [] ?_
  refine zz ?_
  obtain rfl := sj hr
  exact eY Tryz.results45 aW (Ghost.trans (zv 0) (zG []))
theorem aHb {N : Nat} {vn : Int} {r : (List Int)} (hr : xV N vn = some r) :
  Vm.Fn Tryz.prog 61 [] [(eI .u64 vn)] (.sl 0 0 r.length 1 false) [some ⟨5,r.map (eI .u8)⟩] := by
 refine zf Tryz.func61 Tryz.ntmps61 ?_
 unfold xV at hr
 refine zz ?_
 refine AB.seq_g fun K1 hK1 hG1 => ?_
 have J1 : ∀ (l0 : List Int),u5 N vn l0 = some r → K1 (aE 31 [(0,(eI .u64 vn)),(3,(.sl 0 0 l0.length 1 false))]) [some ⟨5,l0.map (eI .u8)⟩] := by
  intro l0 hr
  unfold u5 at hr
  refine hK1 _ _ ?_
  refine AB.seq_g fun K2 hK2 hG2 => ?_
  have J2 : ∀ (aK : List Int),aAb N aK = some r → K2 (aE 31 [(3,(.sl 0 0 aK.length 1 false))]) [some ⟨5,aK.map (eI .u8)⟩] := by
   intro aK hr
   unfold aAb at hr
   refine hK2 _ _ ?_
   refine zz ?_
   obtain rfl := sj hr
   exact bH Tryz.results61 [0]
  obtain ⟨tH,hL3,hr⟩ := aA hr
  refine zz ?_
  refine AB.block <| AB.loopN (fun m s h => ∃ (vi : Int) (iP : List Int),k7 N vn m vi iP = some tH ∧ Ghost 0 s h (aE 31 [(0,(eI .u64 vn)),(3,(.sl 0 0 iP.length 1 false)),(4,(eI .i64 vi))]) [some ⟨5,iP.map (eI .u8)⟩]) (n := N) ⟨7,l0,hL3,(zG [0])⟩ (by rintro s h ⟨_,_,h0,_⟩; simp [k7] at h0) ?_
  rintro m3 s h ⟨vi,iP,hr3,hg⟩
  refine AB.ghost hg ?_
  clear hg hL3
  rw [k7] at hr3
  refine AB.seq ?_
  refine zz ?_
  refine zk hr3 rfl (fun h1 hr3 => ?_) (fun h1 hr3 => ?_)
  ·refine zz ?_
   refine AB.seq <| AB.block ?_
   obtain ⟨x26,h_2,hr3⟩ := aA hr3
   obtain ⟨x29,h_3,hr3⟩ := aA hr3
   refine zz ?_
   exact ⟨IntKind.i64.wrap (vi - 1),x29,hr3,(zG [2])⟩
  ·refine zz ?_
   obtain rfl := sj hr3
   refine zz ?_
   exact hG2 _ _ _ _ (zG [0]) (J2 iP hr)
 obtain ⟨res4,hL4,hr⟩ := aA hr
 refine AB.block <| AB.loopN (fun m s h => ∃ (kX : List Int),mF N vn m kX = some res4 ∧ Ghost 0 s h (aE 31 [(0,(eI .u64 vn)),(3,(.sl 0 0 kX.length 1 false))]) [some ⟨5,kX.map (eI .u8)⟩]) (n := N) ⟨[128],hL4,(lT [0])⟩ (by rintro s h ⟨_,h0,_⟩; simp [mF] at h0) ?_
 rintro m4 s h ⟨kX,hr4,hg⟩
 refine AB.ghost hg ?_
 clear hg hL4
 rw [mF] at hr4
 refine AB.seq ?_
 refine zz ?_
 refine zk hr4 rfl (fun h4 hr4 => ?_) (fun h4 hr4 => ?_)
 ·refine zz ?_
  refine AB.block ?_
  obtain ⟨x16,h_5,hr4⟩ := aA hr4
  refine zz ?_
  exact ⟨x16,hr4,(zG [2])⟩
 ·refine zz ?_
  obtain rfl := sj hr4
  refine zz ?_
  exact hG1 _ _ _ _ (zG [0]) (J1 kX hr)
theorem aDy {N : Nat} {r : (List Int)} (hr : t9 N = some r) :
  Vm.Fn Tryz.prog 62 [] [] (.agg (r.map (eI .u32))) [] := by
 refine zf Tryz.func62 Tryz.ntmps62 ?_
 unfold t9 at hr
 refine zz ?_
 refine xw (v := (.agg ([1779033703,3144134277,1013904242,2773480762,1359893119,2600822924,528734635,1541459225].map (eI .u32)))) (cF rfl (lO aFa aCl rfl)) ?_
 refine zz ?_
 obtain rfl := sj hr
 exact eY Tryz.results62 aW (zG [])
theorem gM {N : Nat} {x : Int} {vn : Int} {r : Int} (hr : gT N x vn = some r) :
  Vm.Fn Tryz.prog 75 [] [(eI .u32 x),(eI .i64 vn)] (eI .u32 r) [] := by
 refine zf Tryz.func75 Tryz.ntmps75 ?_
 unfold gT at hr
 obtain ⟨x8,h_1,hr⟩ := aA hr
 refine zz ?_
 refine xw (aGP rfl (aJk ..)) <| xp (q9 h_1) ?_
 refine zz ?_
 obtain rfl := sj hr
 exact bH Tryz.results75 []
theorem aC1 {N : Nat} {block : List Int} {r : (List Int)} (hr : pR N block = some r) :
  Vm.Fn Tryz.prog 73 [] [(.agg (block.map (eI .u8)))] (.agg (r.map (eI .u32))) [] := by
 refine zf Tryz.func73 Tryz.ntmps73 ?_
 unfold pR at hr
 refine zz ?_
 refine AB.seq_g fun K1 hK1 hG1 => ?_
 have J1 : ∀ (l1 : List Int),oY N l1 = some r → K1 (aE 97 [(2,(.ptr 0 0)),(3,(.ptr 1 0))]) [some ⟨105,(List.replicate 64 0).map (eI .u32)⟩,some ⟨105,l1.map (eI .u32)⟩] := by
  intro l1 hr
  unfold oY at hr
  refine hK1 _ _ ?_
  refine AB.seq_g fun K2 hK2 hG2 => ?_
  have J2 : ∀ (dV : List Int),oT N dV = some r → K2 (aE 97 [(2,(.ptr 0 0)),(3,(.ptr 1 0))]) [some ⟨105,(List.replicate 64 0).map (eI .u32)⟩,some ⟨105,dV.map (eI .u32)⟩] := by
   intro dV hr
   unfold oT at hr
   refine hK2 _ _ ?_
   obtain ⟨q,h_1,hr⟩ := aA hr
   refine zz ?_
   obtain rfl := sj hr
   exact eY Tryz.results73 aW (zG [])
  obtain ⟨tH,hL3,hr⟩ := aA hr
  refine zz ?_
  refine AB.block <| AB.loopN (fun m s h => ∃ (vi : Int) (l1_2 : List Int),g9 N m vi l1_2 = some tH ∧ Ghost 0 s h (aE 97 [(2,(.ptr 0 0)),(3,(.ptr 1 0)),(5,(eI .i64 vi))]) [some ⟨105,(List.replicate 64 0).map (eI .u32)⟩,some ⟨105,l1_2.map (eI .u32)⟩]) (n := N) ⟨16,l1,hL3,(zG [0,1])⟩ (by rintro s h ⟨_,_,h0,_⟩; simp [g9] at h0) ?_
  rintro m3 s h ⟨vi,l1_2,hr3,hg⟩
  refine AB.ghost hg ?_
  clear hg hL3
  rw [g9] at hr3
  refine AB.seq ?_
  refine zz ?_
  refine zk hr3 rfl (fun h2 hr3 => ?_) (fun h2 hr3 => ?_)
  ·refine zz ?_
   refine AB.seq <| AB.block <| AB.seq ?_
   obtain ⟨x49,h_3,hr3⟩ := aA hr3
   obtain ⟨x51,h_4,hr3⟩ := aA hr3
   obtain ⟨x56,h_6,hr3⟩ := aA hr3
   obtain ⟨x62,h_8,hr3⟩ := aA hr3
   refine AB.rs mixed [75] [] [[0,1,2,3,4,5,6,7,8,9,10,11,12,13,14,15,16,17]] ?_
   refine zz ?_
   refine xu (gM h_4) ?_
   refine zz ?_
   refine xu (gM h_6) ?_
   refine zz ?_
   refine AB.seq ?_
   obtain ⟨x66,h_9,hr3⟩ := aA hr3
   obtain ⟨x68,h_10,hr3⟩ := aA hr3
   obtain ⟨x73,h_12,hr3⟩ := aA hr3
   obtain ⟨x79,h_14,hr3⟩ := aA hr3
   refine AB.rs mixed [75] [] [[0,1,2,3,4,5,6,7,8,9,10,11,12,13,14,15,16,17]] ?_
   refine zz ?_
   refine xu (gM h_10) ?_
   refine zz ?_
   refine xu (gM h_12) ?_
   obtain ⟨x84,h_15,hr3⟩ := aA hr3
   obtain ⟨x90,h_16,hr3⟩ := aA hr3
   obtain ⟨x95,h_17,hr3⟩ := aA hr3
   refine zz ?_
   refine AB.rs mixed [] [] [[0,1,2,3,4,5,6,7,8,9,10,11,12,13,14,15]] ?_
   refine zz ?_
   exact ⟨IntKind.i64.wrap (vi + 1),l1_2.set (Int.toNat vi) (IntKind.u32.wrap ((IntKind.u32.wrap ((IntKind.u32.wrap (x84 + (bits .xor .u32 (bits .xor .u32 x51 x56) x62))) + x90)) + (bits .xor .u32 (bits .xor .u32 x68 x73) x79))),hr3,(zG [0,1])⟩
  ·refine zz ?_
   obtain rfl := sj hr3
   refine zz ?_
   exact hG2 _ _ _ _ (zG [0,1]) (J2 l1_2 hr)
 obtain ⟨res4,hL4,hr⟩ := aA hr
 refine zz ?_
 refine AB.block <| AB.loopN (fun m s h => ∃ (vi_1 : Int) (l2 : List Int),eN N block m vi_1 l2 = some res4 ∧ Ghost 0 s h (aE 97 [(1,(.ptr 0 0)),(2,(.ptr 1 0)),(3,(.ptr 2 0)),(4,(eI .i64 vi_1))]) [some ⟨93,block.map (eI .u8)⟩,some ⟨105,(List.replicate 64 0).map (eI .u32)⟩,some ⟨105,l2.map (eI .u32)⟩]) (n := N) ⟨0,List.replicate 64 0,hL4,(zG [0,1,2])⟩ (by rintro s h ⟨_,_,h0,_⟩; simp [eN] at h0) ?_
 rintro m4 s h ⟨vi_1,l2,hr4,hg⟩
 refine AB.ghost hg ?_
 clear hg hL4
 rw [eN] at hr4
 refine AB.seq ?_
 refine zz ?_
 refine zk hr4 rfl (fun h18 hr4 => ?_) (fun h18 hr4 => ?_)
 ·refine zz ?_
  refine AB.seq <| AB.block ?_
  obtain ⟨x15,h_19,hr4⟩ := aA hr4
  obtain ⟨x18,h_20,hr4⟩ := aA hr4
  obtain ⟨bN,h_21,hr4⟩ := aA hr4
  obtain ⟨x25,h_22,hr4⟩ := aA hr4
  obtain ⟨lA,h_23,hr4⟩ := aA hr4
  obtain ⟨kY,h_24,hr4⟩ := aA hr4
  obtain ⟨x38,h_25,hr4⟩ := aA hr4
  obtain ⟨x42,h_26,hr4⟩ := aA hr4
  refine AB.rs mixed [] [] [[0,1,2,3,4,5,6,7,8,9,10,11,12,13,14,15,16,17,18,19,20,21,22,23,24,25,26,27,28,29,30,31]] ?_
  refine zz ?_
  exact ⟨IntKind.i64.wrap (vi_1 + 1),l2.set (Int.toNat vi_1) (bits .or .u32 (bits .or .u32 (bits .or .u32 x18 x25) kY) (IntKind.u32.wrap x38)),hr4,(zG [0,1,2])⟩
 ·refine zz ?_
  obtain rfl := sj hr4
  refine zz ?_
  exact hG1 _ _ _ _ (zG [1,2]) (J1 l2 hr)
theorem aB7 {N : Nat} {r : (List Int)} (hr : qZ N = some r) :
  Vm.Fn Tryz.prog 74 [] [] (.agg (r.map (eI .u32))) [] := by
 refine zf Tryz.func74 Tryz.ntmps74 ?_
 unfold qZ at hr
 refine zz ?_
 refine xw (v := (.agg ([1116352408,1899447441,3049323471,3921009573,961987163,1508970993,2453635748,2870763221,3624381080,310598401,607225278,1426881987,1925078388,2162078206,2614888103,3248222580,3835390401,4022224774,264347078,604807628,770255983,1249150122,1555081692,1996064986,2554220882,2821834349,2952996808,3210313671,3336571891,3584528711,113926993,338241895,666307205,773529912,1294757372,1396182291,1695183700,1986661051,2177026350,2456956037,2730485921,2820302411,3259730800,3345764771,3516065817,3600352804,4094571909,275423344,430227734,506948616,659060556,883997877,958139571,1322822218,1537002063,1747873779,1955562222,2024104815,2227730452,2361852424,2428436474,2756734187,3204031479,3329325298].map (eI .u32)))) (cF rfl (lO aIA aCl rfl)) ?_
 refine zz ?_
 obtain rfl := sj hr
 exact eY Tryz.results74 aW (zG [])
theorem aCY {N : Nat} {bY : List Int} {block : List Int} {r : (List Int)} (hr : l7 N bY block = some r) :
  Vm.Fn Tryz.prog 63 [] [(.agg (bY.map (eI .u32))),(.agg (block.map (eI .u8)))] (.agg (r.map (eI .u32))) [] := by
 refine zf Tryz.func63 Tryz.ntmps63 ?_
 unfold l7 at hr
 obtain ⟨q,h_1,hr⟩ := aA hr
 obtain ⟨x19,h_2,hr⟩ := aA hr
 obtain ⟨bE,h_3,hr⟩ := aA hr
 obtain ⟨q_1,h_4,hr⟩ := aA hr
 obtain ⟨q_2,h_5,hr⟩ := aA hr
 refine zz ?_
 refine xp (aC1 h_2) <| xp (aB7 h_3) ?_
 refine zz ?_
 refine AB.seq ?_
 obtain ⟨dI,h_6,hr⟩ := aA hr
 obtain ⟨fN,h_7,hr⟩ := aA hr
 obtain ⟨x25,h_8,hr⟩ := aA hr
 obtain ⟨x27,h_9,hr⟩ := aA hr
 obtain ⟨x29,h_10,hr⟩ := aA hr
 obtain ⟨dL,h_11,hr⟩ := aA hr
 obtain ⟨kY,h_12,hr⟩ := aA hr
 obtain ⟨x35,h_13,hr⟩ := aA hr
 refine AB.rs mixed [] [] [[0,1,2,3,4,5,6,7,8,9,10,11,12,13,14,15,16,17,18,19,20,21,22,23]] ?_
 refine zz ?_
 refine AB.seq_g fun K1 hK1 hG1 => ?_
 have J1 : ∀ (va : Int) (b : Int) (c : Int) (d : Int) (ve : Int) (f : Int) (g : Int) (vh : Int),oW N bY va b c d ve f g vh = some r → K1 (aE 133 [(2,(.ptr 0 0)),(4,(.ptr 1 0)),(7,(eI .u32 va)),(8,(eI .u32 b)),(9,(eI .u32 c)),(10,(eI .u32 d)),(11,(eI .u32 ve)),(12,(eI .u32 f)),(13,(eI .u32 g)),(14,(eI .u32 vh))]) [some ⟨91,bY.map (eI .u32)⟩,some ⟨91,(List.replicate 8 0).map (eI .u32)⟩] := by
  intro va b c d ve f g vh hr
  unfold oW at hr
  refine hK1 _ _ ?_
  obtain ⟨aKm,h_14,hr⟩ := aA hr
  obtain ⟨yG,h_15,hr⟩ := aA hr
  obtain ⟨aKt,h_16,hr⟩ := aA hr
  obtain ⟨aLa,h_17,hr⟩ := aA hr
  obtain ⟨aKp,h_18,hr⟩ := aA hr
  obtain ⟨aJ6,h_19,hr⟩ := aA hr
  obtain ⟨aEC,h_20,hr⟩ := aA hr
  obtain ⟨aLl,h_21,hr⟩ := aA hr
  refine zz ?_
  refine xw (v := (.agg ([IntKind.u32.wrap (aKm + va),IntKind.u32.wrap (yG + b),IntKind.u32.wrap (aKt + c),IntKind.u32.wrap (aLa + d),IntKind.u32.wrap (aKp + ve),IntKind.u32.wrap (aJ6 + f),IntKind.u32.wrap (aEC + g),IntKind.u32.wrap (aLl + vh)].map (eI .u32)))) (cF rfl (lO aFa aCl rfl)) ?_
  refine zz ?_
  obtain rfl := sj hr
  exact eY Tryz.results63 aW (zG [])
 obtain ⟨a9,hL2,hr⟩ := aA hr
 refine zz ?_
 refine AB.block <| AB.loopN (fun m s h => ∃ (va_1 : Int) (b_1 : Int) (c_1 : Int) (d_1 : Int) (ve_1 : Int) (f_1 : Int) (g_1 : Int) (vh_1 : Int) (vi : Int),hY N bY x19 bE m va_1 b_1 c_1 d_1 ve_1 f_1 g_1 vh_1 vi = some a9 ∧ Ghost 0 s h (aE 133 [(2,(.ptr 0 0)),(4,(.ptr 1 0)),(5,(.ptr 2 0)),(6,(.ptr 3 0)),(7,(eI .u32 va_1)),(8,(eI .u32 b_1)),(9,(eI .u32 c_1)),(10,(eI .u32 d_1)),(11,(eI .u32 ve_1)),(12,(eI .u32 f_1)),(13,(eI .u32 g_1)),(14,(eI .u32 vh_1)),(15,(eI .i64 vi))]) [some ⟨91,bY.map (eI .u32)⟩,some ⟨91,(List.replicate 8 0).map (eI .u32)⟩,some ⟨105,x19.map (eI .u32)⟩,some ⟨105,bE.map (eI .u32)⟩]) (n := N) ⟨dI,fN,x25,x27,x29,dL,kY,x35,0,hL2,(zG [0,2,3,4])⟩ (by rintro s h ⟨_,_,_,_,_,_,_,_,_,h0,_⟩; simp [hY] at h0) ?_
 rintro m2 s h ⟨va_1,b_1,c_1,d_1,ve_1,f_1,g_1,vh_1,vi,hr2,hg⟩
 refine AB.ghost hg ?_
 clear hg hL2
 rw [hY] at hr2
 refine AB.seq ?_
 refine zz ?_
 refine zk hr2 rfl (fun h22 hr2 => ?_) (fun h22 hr2 => ?_)
 ·refine zz ?_
  refine AB.seq <| AB.block <| AB.seq ?_
  obtain ⟨x43,h_23,hr2⟩ := aA hr2
  obtain ⟨x45,h_25,hr2⟩ := aA hr2
  obtain ⟨x48,h_27,hr2⟩ := aA hr2
  obtain ⟨x61,h_29,hr2⟩ := aA hr2
  obtain ⟨x65,h_30,hr2⟩ := aA hr2
  refine AB.rs mixed [75] [] [[0,1,2,3,4,5,6,7,8,9,10,11,12,13,14,15,16,17,18,19,20,21,22,23,24,25,26,27]] ?_
  refine zz ?_
  refine xu (gM h_23) ?_
  refine zz ?_
  refine xu (gM h_25) ?_
  refine zz ?_
  refine xu (gM h_27) ?_
  refine zz ?_
  refine xw (v := (eI .u32 (bits .xor .u32 (IntKind.max .u32) ve_1))) (aGP rfl (aIe rfl _)) ?_
  obtain ⟨x69,h_31,hr2⟩ := aA hr2
  obtain ⟨x71,h_32,hr2⟩ := aA hr2
  obtain ⟨x74,h_33,hr2⟩ := aA hr2
  refine zz ?_
  refine xp (gM h_31) ?_
  refine zz ?_
  refine xp (gM h_32) ?_
  refine zz ?_
  refine xp (gM h_33) ?_
  refine zz ?_
  exact ⟨IntKind.u32.wrap ((IntKind.u32.wrap ((IntKind.u32.wrap ((IntKind.u32.wrap ((IntKind.u32.wrap (vh_1 + (bits .xor .u32 (bits .xor .u32 x43 x45) x48))) + (bits .xor .u32 (bits .and .u32 ve_1 f_1) (bits .and .u32 (bits .xor .u32 (IntKind.max .u32) ve_1) g_1)))) + x61)) + x65)) + (IntKind.u32.wrap ((bits .xor .u32 (bits .xor .u32 x69 x71) x74) + (bits .xor .u32 (bits .xor .u32 (bits .and .u32 va_1 b_1) (bits .and .u32 va_1 c_1)) (bits .and .u32 b_1 c_1))))),va_1,b_1,c_1,IntKind.u32.wrap (d_1 + (IntKind.u32.wrap ((IntKind.u32.wrap ((IntKind.u32.wrap ((IntKind.u32.wrap (vh_1 + (bits .xor .u32 (bits .xor .u32 x43 x45) x48))) + (bits .xor .u32 (bits .and .u32 ve_1 f_1) (bits .and .u32 (bits .xor .u32 (IntKind.max .u32) ve_1) g_1)))) + x61)) + x65))),ve_1,f_1,g_1,IntKind.i64.wrap (vi + 1),hr2,(zG [0,1,2,3])⟩
 ·refine zz ?_
  obtain rfl := sj hr2
  refine zz ?_
  exact hG1 _ _ _ _ (zG [0,1]) (J1 va_1 b_1 c_1 d_1 ve_1 f_1 g_1 vh_1 hr)
theorem aAg {N : Nat} {b : List Int} {r : (List Int)} (hr : sE N b = some r) :
  Vm.Fn Tryz.prog 46 [] [(.row none 1 (b.map (eI .u8)))] (.agg (r.map (eI .u8))) [] := by
 refine zf Tryz.func46 Tryz.ntmps46 ?_
 unfold sE at hr
 obtain ⟨bX,h_1,hr⟩ := aA hr
 obtain ⟨x15,h_2,hr⟩ := aA hr
 obtain ⟨x16,h_3,hr⟩ := aA hr
 refine zz ?_
 refine zc (aHb h_2) [] ?_
 obtain ⟨x17,h_4,hr⟩ := aA hr
 obtain ⟨q,h_5,hr⟩ := aA hr
 refine zz ?_
 refine xp (aDy h_4) ?_
 refine zz ?_
 refine AB.seq_g fun K1 hK1 hG1 => ?_
 have J1 : ∀ (l1 : List Int),vK N l1 = some r → K1 (aE 66 [(2,(.ptr 0 0)),(4,(.ptr 1 0))]) [some ⟨25,(List.replicate 32 0).map (eI .u8)⟩,some ⟨91,l1.map (eI .u32)⟩] := by
  intro l1 hr
  unfold vK at hr
  refine hK1 _ _ ?_
  refine zz ?_
  refine AB.seq_g fun K2 hK2 hG2 => ?_
  have J2 : ∀ (dV : List Int),vA N dV = some r → K2 (aE 66 [(2,(.ptr 0 0)),(7,(.ptr 1 0))]) [some ⟨25,(List.replicate 32 0).map (eI .u8)⟩,some ⟨25,dV.map (eI .u8)⟩] := by
   intro dV hr
   unfold vA at hr
   refine hK2 _ _ ?_
   obtain ⟨q_1,h_6,hr⟩ := aA hr
   refine zz ?_
   obtain rfl := sj hr
   exact eY Tryz.results46 aW (zG [])
  obtain ⟨q_2,h_7,hr⟩ := aA hr
  obtain ⟨tH,hL3,hr⟩ := aA hr
  refine zz ?_
  refine AB.block <| AB.loopN (fun m s h => ∃ (e8 : Int) (l1_2 : List Int),mT N l1 m e8 l1_2 = some tH ∧ Ghost 0 s h (aE 66 [(2,(.ptr 0 0)),(7,(.ptr 1 0)),(33,(.agg (l1.map (eI .u32)))),(34,(eI .i64 e8))]) [some ⟨25,(List.replicate 32 0).map (eI .u8)⟩,some ⟨25,l1_2.map (eI .u8)⟩]) (n := N) ⟨0,List.replicate 32 0,hL3,(zG [0,2])⟩ (by rintro s h ⟨_,_,h0,_⟩; simp [mT] at h0) ?_
  rintro m3 s h ⟨e8,l1_2,hr3,hg⟩
  refine AB.ghost hg ?_
  clear hg hL3
  rw [mT] at hr3
  refine zz ?_
  refine AB.seq ?_
  refine zk hr3 rfl (fun h8 hr3 => ?_) (fun h8 hr3 => ?_)
  ·refine zz ?_
   refine AB.seq <| AB.block ?_
   obtain ⟨x37,h_9,hr3⟩ := aA hr3
   refine zz ?_
   refine xw (v := (eI .u32 x37)) (aKb rfl rfl (ixA (E := (eI .u32)) aFa aCl rfl rfl h_9)) ?_
   obtain ⟨x50,h_10,hr3⟩ := aA hr3
   obtain ⟨x53,h_11,hr3⟩ := aA hr3
   obtain ⟨x56,h_12,hr3⟩ := aA hr3
   obtain ⟨x60,h_13,hr3⟩ := aA hr3
   obtain ⟨x61,h_14,hr3⟩ := aA hr3
   obtain ⟨x62,h_15,hr3⟩ := aA hr3
   obtain ⟨x63,h_16,hr3⟩ := aA hr3
   refine zz ?_
   exact ⟨IntKind.i64.wrap (e8 + 1),(((l1_2.set (Int.toNat (IntKind.i64.wrap (4 * e8))) (IntKind.u8.wrap x50)).set (Int.toNat (IntKind.i64.wrap ((IntKind.i64.wrap (4 * e8)) + 1))) (IntKind.u8.wrap x53)).set (Int.toNat (IntKind.i64.wrap ((IntKind.i64.wrap (4 * e8)) + 2))) (IntKind.u8.wrap x56)).set (Int.toNat (IntKind.i64.wrap ((IntKind.i64.wrap (4 * e8)) + 3))) (IntKind.u8.wrap x37),hr3,(zG [0,1])⟩
  ·refine zz ?_
   obtain rfl := sj hr3
   refine zz ?_
   exact hG2 _ _ _ _ (zG [0,1]) (J2 l1_2 hr)
 refine zz ?_
 refine AB.ghost (zv 4) ?_
 obtain ⟨res4,hL4,hr⟩ := aA hr
 refine AB.block <| AB.loopN (fun m s h => ∃ (vi : Int) (l1_3 : List Int),mY N x16 m vi l1_3 = some res4 ∧ Ghost 0 s h (aE 66 [(2,(.ptr 0 0)),(3,(.row none 1 (x16.map (eI .u8)))),(4,(.ptr 1 0)),(5,(eI .i64 vi))]) [some ⟨25,(List.replicate 32 0).map (eI .u8)⟩,some ⟨91,l1_3.map (eI .u32)⟩]) (n := N) ⟨0,x17,hL4,(zG [0,5])⟩ (by rintro s h ⟨_,_,h0,_⟩; simp [mY] at h0) ?_
 rintro m4 s h ⟨vi,l1_3,hr4,hg⟩
 refine AB.ghost hg ?_
 clear hg hL4
 rw [mY] at hr4
 refine AB.seq ?_
 refine zz ?_
 refine zk hr4 rfl (fun h17 hr4 => ?_) (fun h17 hr4 => ?_)
 ·refine zz ?_
  refine AB.seq <| AB.block ?_
  refine zz ?_
  refine AB.seq ?_
  obtain ⟨x28,h_18,hr4⟩ := aA hr4
  refine AB.rs mixed [] [] [[0,1,2,3,4]] ?_
  refine zz ?_
  refine xw (v := (eI .i64 ((min x28.length (List.replicate 64 0).length : Nat) : Int))) (h' := [some ⟨25,(List.replicate 32 0).map (eI .u8)⟩,some ⟨91,l1_3.map (eI .u32)⟩,some ⟨93,(j9 (List.replicate 64 0) x28).map (eI .u8)⟩]) (aAP rfl rfl (aEH (E := (eI .u8)) (l := List.replicate 64 0) rfl cG cZ rfl rfl (aAJ (fun _ => rfl)) rfl)) ?_
  obtain ⟨q_3,h_19,hr4⟩ := aA hr4
  obtain ⟨q_4,h_20,hr4⟩ := aA hr4
  obtain ⟨pK,h_21,hr4⟩ := aA hr4
  obtain ⟨q_5,h_22,hr4⟩ := aA hr4
  refine zz ?_
  refine xp (aCY h_21) ?_
  refine zz ?_
  exact ⟨IntKind.i64.wrap (vi + 64),pK,hr4,(zG [0,1])⟩
 ·refine zz ?_
  obtain rfl := sj hr4
  refine zz ?_
  exact hG1 _ _ _ _ (zG [0,1]) (J1 l1_3 hr)
theorem nZ {N : Nat} {vh : List Int} {r : (List Int)} (hr : fP N vh = some r) :
  Vm.Fn Tryz.prog 64 [] [(.agg (vh.map (eI .u8)))] (.agg (r.map (eI .u64))) [] := by
 refine zf Tryz.func64 Tryz.ntmps64 ?_
 unfold fP at hr
 refine zz ?_
 refine AB.seq_g fun K1 hK1 hG1 => ?_
 have J1 : ∀ (l1 : List Int),nF N l1 = some r → K1 (aE 27 [(2,(.ptr 0 0)),(3,(.ptr 1 0))]) [some ⟨96,(List.replicate 4 0).map (eI .u64)⟩,some ⟨96,l1.map (eI .u64)⟩] := by
  intro l1 hr
  unfold nF at hr
  refine hK1 _ _ ?_
  obtain ⟨q,h_1,hr⟩ := aA hr
  refine zz ?_
  obtain rfl := sj hr
  exact eY Tryz.results64 aW (zG [])
 obtain ⟨a9,hL2,hr⟩ := aA hr
 refine zz ?_
 refine AB.block <| AB.loopN (fun m s h => ∃ (x6 : Int) (l2 : List Int),gF N vh m x6 l2 = some a9 ∧ Ghost 0 s h (aE 27 [(1,(.ptr 0 0)),(2,(.ptr 1 0)),(3,(.ptr 2 0)),(6,(eI .i64 x6))]) [some ⟨25,vh.map (eI .u8)⟩,some ⟨96,(List.replicate 4 0).map (eI .u64)⟩,some ⟨96,l2.map (eI .u64)⟩]) (n := N) ⟨0,List.replicate 4 0,hL2,(zG [0,1,2])⟩ (by rintro s h ⟨_,_,h0,_⟩; simp [gF] at h0) ?_
 rintro m2 s h ⟨x6,l2,hr2,hg⟩
 refine AB.ghost hg ?_
 clear hg hL2
 rw [gF] at hr2
 refine zz ?_
 refine AB.seq ?_
 refine zk hr2 rfl (fun h2 hr2 => ?_) (fun h2 hr2 => ?_)
 ·refine zz ?_
  refine AB.seq <| AB.block ?_
  obtain ⟨cD,h_3,hr2⟩ := aA hr2
  obtain ⟨x16,h_4,hr2⟩ := aA hr2
  obtain ⟨bN,h_5,hr2⟩ := aA hr2
  refine zz ?_
  refine AB.rs mixed [] [] [[0,1,2,3,4,5,6,7,8,9,10,11,12,13,14]] ?_
  refine zz ?_
  exact ⟨IntKind.i64.wrap (x6 + 1),l2.set (Int.toNat (IntKind.i64.wrap (Int.tdiv (IntKind.i64.wrap (31 - x6)) 8))) (bits .or .u64 cD bN),hr2,(zG [0,1,2])⟩
 ·refine zz ?_
  obtain rfl := sj hr2
  refine zz ?_
  exact hG1 _ _ _ _ (zG [1,2]) (J1 l2 hr)
theorem jT {N : Nat} {vn : Int} {r : (List Int)} (hr : eP N vn = some r) :
  Vm.Fn Tryz.prog 76 [] [(eI .u64 vn)] (.agg (r.map (eI .u64))) [] := by
 refine zf Tryz.func76 Tryz.ntmps76 ?_
 unfold eP at hr
 refine zz ?_
 refine xw (v := (.agg ([vn,0,0,0].map (eI .u64)))) (cF rfl (lO bV j7 rfl)) ?_
 refine zz ?_
 obtain rfl := sj hr
 exact eY Tryz.results76 aW (zG [])
theorem nB {N : Nat} {va : List Int} {r : Bool} (hr : nK N va = some r) :
  Vm.Fn Tryz.prog 92 [] [(.agg (va.map (eI .u64)))] (eB r) [] := by
 refine zf Tryz.func92 Tryz.ntmps92 ?_
 unfold nK at hr
 obtain ⟨q,h_1,hr⟩ := aA hr
 refine zz ?_
 refine xw (v := (.agg ([0,0,0,0].map (eI .u64)))) (cF rfl (lO bV j7 rfl)) ?_
 refine zz ?_
 obtain rfl := sj hr
 exact bH Tryz.results92 []
theorem vL {N : Nat} {va : List Int} {b : List Int} {r : (List Int) × Bool} (hr : nM N va b = some r) :
  Vm.Fn Tryz.prog 79 [] [(.agg (va.map (eI .u64))),(.agg (b.map (eI .u64)))] (.tup [(.agg (r.1.map (eI .u64))),(eB r.2)]) [] := by
 refine zf Tryz.func79 Tryz.ntmps79 ?_
 unfold nM at hr
 refine zz ?_
 refine AB.seq_g fun K1 hK1 hG1 => ?_
 have J1 : ∀ (borrow : Int) (l1 : List Int),vG N borrow l1 = some r → K1 (aE 29 [(4,(.ptr 0 0)),(6,(.ptr 1 0)),(7,(eI .u64 borrow))]) [some ⟨96,(List.replicate 4 0).map (eI .u64)⟩,some ⟨96,l1.map (eI .u64)⟩] := by
  intro borrow l1 hr
  unfold vG at hr
  refine hK1 _ _ ?_
  obtain ⟨q,h_1,hr⟩ := aA hr
  refine zz ?_
  obtain rfl := sj hr
  exact nQ Tryz.results79 aW aW (lT [])
 obtain ⟨a9,hL2,hr⟩ := aA hr
 refine zz ?_
 refine AB.block <| AB.loopN (fun m s h => ∃ (borrow_1 : Int) (x9 : Int) (l3 : List Int),mV N va b m borrow_1 x9 l3 = some a9 ∧ Ghost 0 s h (aE 29 [(2,(.ptr 0 0)),(3,(.ptr 1 0)),(4,(.ptr 2 0)),(6,(.ptr 3 0)),(7,(eI .u64 borrow_1)),(9,(eI .i64 x9))]) [some ⟨96,va.map (eI .u64)⟩,some ⟨96,b.map (eI .u64)⟩,some ⟨96,(List.replicate 4 0).map (eI .u64)⟩,some ⟨96,l3.map (eI .u64)⟩]) (n := N) ⟨0,0,List.replicate 4 0,hL2,(zG [0,1,2,3])⟩ (by rintro s h ⟨_,_,_,h0,_⟩; simp [mV] at h0) ?_
 rintro m2 s h ⟨borrow_1,x9,l3,hr2,hg⟩
 refine AB.ghost hg ?_
 clear hg hL2
 rw [mV] at hr2
 refine zz ?_
 refine AB.seq ?_
 refine zk hr2 rfl (fun h2 hr2 => ?_) (fun h2 hr2 => ?_)
 ·refine zz ?_
  refine AB.seq <| AB.block ?_
  obtain ⟨x15,h_3,hr2⟩ := aA hr2
  obtain ⟨x18,h_4,hr2⟩ := aA hr2
  obtain ⟨dI,h_5,hr2⟩ := aA hr2
  obtain ⟨fO,h_7,hr2⟩ := aA hr2
  refine zz ?_
  refine AB.rs mixed [96] [] [[0,1,2,3,4,5,6,7,8,9,10,11,12,13,14]] ?_
  refine zz ?_
  refine xu (yB h_5) ?_
  refine zz ?_
  exact ⟨dI.2,IntKind.i64.wrap (x9 + 1),l3.set (Int.toNat x9) dI.1,hr2,(zG [0,1,2,3])⟩
 ·refine zz ?_
  obtain rfl := sj hr2
  refine zz ?_
  exact hG1 _ _ _ _ (zG [2,3]) (J1 borrow_1 l3 hr)
theorem mL {N : Nat} {r : (List Int)} (hr : j6 N = some r) :
  Vm.Fn Tryz.prog 94 [] [] (.agg (r.map (eI .u64))) [] := by
 refine zf Tryz.func94 Tryz.ntmps94 ?_
 unfold j6 at hr
 obtain ⟨x5,h_1,hr⟩ := aA hr
 obtain ⟨x6,h_2,hr⟩ := aA hr
 obtain ⟨q,h_3,hr⟩ := aA hr
 refine zz ?_
 refine xw (v := (.agg ([0,0,0,0].map (eI .u64)))) (cF rfl (lO bV j7 rfl)) <| xp (jT h_1) <| xp (vL h_2) ?_
 refine zz ?_
 obtain rfl := sj hr
 exact eY Tryz.results94 aW (zG [])
theorem pM {N : Nat} {va : List Int} {b : List Int} {r : Int} (hr : nR N va b = some r) :
  Vm.Fn Tryz.prog 93 [] [(.agg (va.map (eI .u64))),(.agg (b.map (eI .u64)))] (eI .i64 r) [] := by
 refine zf Tryz.func93 Tryz.ntmps93 ?_
 unfold nR at hr
 refine zz ?_
 refine AB.seq_g fun K1 hK1 hG1 => ?_
 have J1 : zV N = some r → K1 (aE 24 []) [] := by
  intro hr
  unfold zV at hr
  refine hK1 _ _ ?_
  refine zz ?_
  obtain rfl := sj hr
  exact bH Tryz.results93 []
 obtain ⟨a9,hL2,hr⟩ := aA hr
 refine zz ?_
 refine AB.block <| AB.loopN (fun m s h => ∃ (vi : Int),mP N va b m vi = some a9 ∧ Ghost 0 s h (aE 24 [(2,(.ptr 0 0)),(3,(.ptr 1 0)),(5,(eI .i64 vi))]) [some ⟨96,va.map (eI .u64)⟩,some ⟨96,b.map (eI .u64)⟩]) (n := N) ⟨3,hL2,(zG [0,1])⟩ (by rintro s h ⟨_,h0,_⟩; simp [mP] at h0) ?_
 rintro m2 s h ⟨vi,hr2,hg⟩
 refine AB.ghost hg ?_
 clear hg hL2
 rw [mP] at hr2
 refine AB.seq ?_
 refine zz ?_
 refine zk hr2 rfl (fun h1 hr2 => ?_) (fun h1 hr2 => ?_)
 ·refine zz ?_
  refine AB.seq <| AB.block <| AB.seq <| AB.seq ?_
  obtain ⟨bX,h_2,hr2⟩ := aA hr2
  obtain ⟨bC,h_3,hr2⟩ := aA hr2
  refine AB.rs mixed [] [] [[0,1,2,3,4,5,6]] ?_
  refine zz ?_
  refine zk hr2 rfl (fun h4 hr2 => ?_) (fun h4 hr2 => ?_)
  ·refine zz ?_
   obtain rfl := sj hr2
   obtain rfl := sj hr
   exact bH Tryz.results93 []
  ·refine zz ?_
   refine AB.seq <| AB.rs mixed [] [] [[0,1,2,3,4,5,6]] ?_
   refine zz ?_
   refine zk hr2 rfl (fun h5 hr2 => ?_) (fun h5 hr2 => ?_)
   ·refine zz ?_
    obtain rfl := sj hr2
    obtain rfl := sj hr
    exact bH Tryz.results93 []
   ·refine zz ?_
    exact ⟨IntKind.i64.wrap (vi - 1),hr2,(zG [0,1])⟩
 ·refine zz ?_
  obtain rfl := sj hr2
  refine zz ?_
  exact hG1 _ _ _ _ (zG []) (J1 hr)
theorem rF {N : Nat} {va : List Int} {vi : Int} {r : Bool} (hr : k4 N va vi = some r) :
  Vm.Fn Tryz.prog 112 [] [(.agg (va.map (eI .u64))),(eI .i64 vi)] (eB r) [] := by
 refine zf Tryz.func112 Tryz.ntmps112 ?_
 unfold k4 at hr
 obtain ⟨x7,h_1,hr⟩ := aA hr
 obtain ⟨bX,h_2,hr⟩ := aA hr
 refine zz ?_
 obtain rfl := sj hr
 exact bH Tryz.results112 []
theorem aGI {N : Nat} {va : List Int} {vn : Int} {r : (List Int)} (hr : aAv N va vn = some r) :
  Vm.Fn Tryz.prog 97 [] [(.agg (va.map (eI .u64))),(eI .i64 vn)] (.agg (r.map (eI .u64))) [] := by
 refine zf Tryz.func97 Tryz.ntmps97 ?_
 unfold aAv at hr
 refine zz ?_
 refine AB.seq ?_
 refine zz ?_
 refine zk hr rfl (fun h1 hr => ?_) (fun h1 hr => ?_)
 ·obtain ⟨q,h_2,hr⟩ := aA hr
  refine zz ?_
  obtain rfl := sj hr
  exact eY Tryz.results97 aW (zG [])
 ·refine zz ?_
  refine AB.seq ?_
  refine zz ?_
  refine zk hr rfl (fun h3 hr => ?_) (fun h3 hr => ?_)
  ·refine zz ?_
   refine xw (v := (.agg ([0,0,0,0].map (eI .u64)))) (cF rfl (lO bV j7 rfl)) ?_
   refine zz ?_
   obtain rfl := sj hr
   exact eY Tryz.results97 aW (zG [])
  ·refine zz ?_
   refine AB.seq_g fun K1 hK1 hG1 => ?_
   have J1 : ∀ (l1 : List Int),aAm N l1 = some r → K1 (aE 34 [(4,(.ptr 0 0)),(5,(.ptr 1 0))]) [some ⟨96,(List.replicate 4 0).map (eI .u64)⟩,some ⟨96,l1.map (eI .u64)⟩] := by
    intro l1 hr
    unfold aAm at hr
    refine hK1 _ _ ?_
    obtain ⟨q_1,h_4,hr⟩ := aA hr
    refine zz ?_
    obtain rfl := sj hr
    exact eY Tryz.results97 aW (zG [])
   obtain ⟨a9,hL2,hr⟩ := aA hr
   refine zz ?_
   refine AB.block <| AB.loopN (fun m s h => ∃ (vi : Int) (l2 : List Int),fZ N va vn m vi l2 = some a9 ∧ Ghost 0 s h (aE 34 [(1,(eI .i64 vn)),(2,(.ptr 0 0)),(4,(.ptr 1 0)),(5,(.ptr 2 0)),(6,(eI .i64 vi))]) [some ⟨96,va.map (eI .u64)⟩,some ⟨96,(List.replicate 4 0).map (eI .u64)⟩,some ⟨96,l2.map (eI .u64)⟩]) (n := N) ⟨0,List.replicate 4 0,hL2,(zG [0,1,2])⟩ (by rintro s h ⟨_,_,h0,_⟩; simp [fZ] at h0) ?_
   rintro m2 s h ⟨vi,l2,hr2,hg⟩
   refine AB.ghost hg ?_
   clear hg hL2
   rw [fZ] at hr2
   refine AB.seq ?_
   refine zz ?_
   refine zk hr2 rfl (fun h5 hr2 => ?_) (fun h5 hr2 => ?_)
   ·refine zz ?_
    refine AB.seq_g fun K3 hK3 hG3 => ?_
    have J3 : ∀ (fT : List Int),vZ N va vn vi (fZ N va vn m2) fT = some a9 → K3 (aE 34 [(1,(eI .i64 vn)),(2,(.ptr 0 0)),(4,(.ptr 1 0)),(5,(.ptr 2 0)),(6,(eI .i64 vi))]) [some ⟨96,va.map (eI .u64)⟩,some ⟨96,(List.replicate 4 0).map (eI .u64)⟩,some ⟨96,fT.map (eI .u64)⟩] := by
     intro fT hr2
     unfold vZ at hr2
     refine hK3 _ _ ?_
     refine zz ?_
     exact ⟨IntKind.i64.wrap (vi + 1),fT,hr2,(zG [0,1,2])⟩
    refine AB.block ?_
    obtain ⟨q_2,h_6,hr2⟩ := aA hr2
    obtain ⟨fN,h_7,hr2⟩ := aA hr2
    refine zz ?_
    refine xp (rF h_7) ?_
    refine zz ?_
    refine zk hr2 rfl (fun h8 hr2 => ?_) (fun h8 hr2 => ?_)
    ·obtain ⟨x26,h_9,hr2⟩ := aA hr2
     obtain ⟨lA,h_10,hr2⟩ := aA hr2
     refine AB.rs mixed [] [] [[0,1,2,3,4,5,6,7,8,9]] ?_
     refine zz ?_
     exact hG3 _ _ _ _ (zG [0,1,2]) (J3 (l2.set (Int.toNat (IntKind.i64.wrap (Int.tdiv vi 64))) (bits .or .u64 x26 lA)) hr2)
    ·refine zz ?_
     exact hG3 _ _ _ _ (zG [0,1,2]) (J3 l2 hr2)
   ·refine zz ?_
    obtain rfl := sj hr2
    refine zz ?_
    exact hG1 _ _ _ _ (zG [1,2]) (J1 l2 hr)
theorem sV {N : Nat} {r : (List Int)} (hr : lV N = some r) :
  Vm.Fn Tryz.prog 80 [] [] (.agg (r.map (eI .u64))) [] := by
 refine zf Tryz.func80 Tryz.ntmps80 ?_
 unfold lV at hr
 obtain ⟨x1,h_1,hr⟩ := aA hr
 obtain ⟨x2,h_2,hr⟩ := aA hr
 obtain ⟨q,h_3,hr⟩ := aA hr
 refine zz ?_
 refine xp (mL h_1) <| xp (aGI h_2) ?_
 refine zz ?_
 obtain rfl := sj hr
 exact eY Tryz.results80 aW (zG [])
theorem aCn {N : Nat} {va : List Int} {b : List Int} {r : (List Int) × Bool} (hr : sM N va b = some r) :
  Vm.Fn Tryz.prog 129 [] [(.agg (va.map (eI .u64))),(.agg (b.map (eI .u64)))] (.tup [(.agg (r.1.map (eI .u64))),(eB r.2)]) [] := by
 refine zf Tryz.func129 Tryz.ntmps129 ?_
 unfold sM at hr
 refine zz ?_
 refine AB.seq_g fun K1 hK1 hG1 => ?_
 have J1 : ∀ (iO : Int) (l1 : List Int),u9 N iO l1 = some r → K1 (aE 29 [(4,(.ptr 0 0)),(6,(.ptr 1 0)),(7,(eI .u64 iO))]) [some ⟨96,(List.replicate 4 0).map (eI .u64)⟩,some ⟨96,l1.map (eI .u64)⟩] := by
  intro iO l1 hr
  unfold u9 at hr
  refine hK1 _ _ ?_
  obtain ⟨q,h_1,hr⟩ := aA hr
  refine zz ?_
  obtain rfl := sj hr
  exact nQ Tryz.results129 aW aW (lT [])
 obtain ⟨a9,hL2,hr⟩ := aA hr
 refine zz ?_
 refine AB.block <| AB.loopN (fun m s h => ∃ (carry_1 : Int) (x9 : Int) (l3 : List Int),mX N va b m carry_1 x9 l3 = some a9 ∧ Ghost 0 s h (aE 29 [(2,(.ptr 0 0)),(3,(.ptr 1 0)),(4,(.ptr 2 0)),(6,(.ptr 3 0)),(7,(eI .u64 carry_1)),(9,(eI .i64 x9))]) [some ⟨96,va.map (eI .u64)⟩,some ⟨96,b.map (eI .u64)⟩,some ⟨96,(List.replicate 4 0).map (eI .u64)⟩,some ⟨96,l3.map (eI .u64)⟩]) (n := N) ⟨0,0,List.replicate 4 0,hL2,(zG [0,1,2,3])⟩ (by rintro s h ⟨_,_,_,h0,_⟩; simp [mX] at h0) ?_
 rintro m2 s h ⟨carry_1,x9,l3,hr2,hg⟩
 refine AB.ghost hg ?_
 clear hg hL2
 rw [mX] at hr2
 refine zz ?_
 refine AB.seq ?_
 refine zk hr2 rfl (fun h2 hr2 => ?_) (fun h2 hr2 => ?_)
 ·refine zz ?_
  refine AB.seq <| AB.block ?_
  obtain ⟨x15,h_3,hr2⟩ := aA hr2
  obtain ⟨x18,h_4,hr2⟩ := aA hr2
  obtain ⟨dI,h_5,hr2⟩ := aA hr2
  obtain ⟨fO,h_7,hr2⟩ := aA hr2
  refine zz ?_
  refine AB.rs mixed [128] [] [[0,1,2,3,4,5,6,7,8,9,10,11,12,13,14]] ?_
  refine zz ?_
  refine xu (iU h_5) ?_
  refine zz ?_
  exact ⟨dI.2,IntKind.i64.wrap (x9 + 1),l3.set (Int.toNat x9) dI.1,hr2,(zG [0,1,2,3])⟩
 ·refine zz ?_
  obtain rfl := sj hr2
  refine zz ?_
  exact hG1 _ _ _ _ (zG [2,3]) (J1 carry_1 l3 hr)
theorem aCh {N : Nat} {hi : List Int} {lo : List Int} {b : List Int} {r : (List Int) × (List Int) × Bool} (hr : uT N hi lo b = some r) :
  Vm.Fn Tryz.prog 115 [] [(.agg (hi.map (eI .u64))),(.agg (lo.map (eI .u64))),(.agg (b.map (eI .u64)))] (.tup [(.agg (r.1.map (eI .u64))),(.agg (r.2.1.map (eI .u64))),(eB r.2.2)]) [] := by
 refine zf Tryz.func115 Tryz.ntmps115 ?_
 unfold uT at hr
 refine zz ?_
 refine AB.seq ?_
 obtain ⟨q,h_1,hr⟩ := aA hr
 obtain ⟨q_1,h_2,hr⟩ := aA hr
 obtain ⟨cD,h_3,hr⟩ := aA hr
 refine zz ?_
 refine xp (pM h_3) ?_
 refine zz ?_
 refine zk hr rfl (fun h4 hr => ?_) (fun h4 hr => ?_)
 ·refine AB.seq <| AB.rd (eC []) (eC []) mixed <| DrawG.pick (n := 4) (i := 0) (by decide +kernel) rfl (gS (v := (.agg ((List.replicate 4 0).map (eI .u64)))) (sv (bO rfl (vQ (E := (eI .u64)) (l := List.replicate 4 0) bV rfl rfl rfl)))) ?_
  refine DrawG.jn (m := 2) (L := lst [0,1,2] 5) (s1 := aE 61 [(6,(.ptr 0 0)),(7,(.ptr 1 0)),(8,(eB false)),(16,(.agg ((List.replicate 4 0).map (eI .u64))))]) (h1 := [some ⟨96,(List.replicate 4 0).map (eI .u64)⟩,some ⟨96,(List.replicate 4 0).map (eI .u64)⟩]) ?_ (fun J => ?_)
  ·refine DrawG.pick (n := 1) (i := 3) (by decide +kernel) rfl (gN (h' := [some ⟨96,(List.replicate 4 0).map (eI .u64)⟩,some ⟨96,(List.replicate 4 0).map (eI .u64)⟩]) (sv (aY rfl rfl (tK (E := (eI .u64)) (l := List.replicate 4 0) bV rfl rfl (fun _ => rfl) rfl rfl rfl)))) <| DrawG.pick (n := 0) (i := 4) (by decide +kernel) rfl (gS (v := (eB false)) (sv (pY rfl))) <| DrawG.nil (by decide +kernel) ?_
   refine zz ?_
   obtain rfl := sj hr
   exact rN Tryz.results115 aW aW aW (lT [])
  ·refine DrawG.fork (n := 3) [1,2] (by decide +kernel) (by decide) ?_
   refine (Fork.cons rfl (gS (v := (.agg ((List.replicate 4 0).map (eI .u64)))) (sv (bO rfl (vQ (E := (eI .u64)) (l := List.replicate 4 0) bV rfl rfl rfl)))) ?_ (Fork.cons rfl (gN (h' := [some ⟨96,hi.map (eI .u64)⟩,some ⟨96,lo.map (eI .u64)⟩,some ⟨96,b.map (eI .u64)⟩,some ⟨96,(List.replicate 4 0).map (eI .u64)⟩,some ⟨96,(List.replicate 4 0).map (eI .u64)⟩]) (sv (aY rfl rfl (tK (E := (eI .u64)) (l := List.replicate 4 0) bV rfl rfl (fun _ => rfl) rfl rfl rfl)))) ?_ Fork.nil))
   ·refine DrawG.pick (n := 2) (i := 2) (by decide +kernel) rfl (gN (h' := [some ⟨96,hi.map (eI .u64)⟩,some ⟨96,lo.map (eI .u64)⟩,some ⟨96,b.map (eI .u64)⟩,some ⟨96,(List.replicate 4 0).map (eI .u64)⟩,some ⟨96,(List.replicate 4 0).map (eI .u64)⟩]) (sv (aY rfl rfl (tK (E := (eI .u64)) (l := List.replicate 4 0) bV rfl rfl (fun _ => rfl) rfl rfl rfl)))) ?_
    exact DrawG.jg (by decide +kernel) (by decide +kernel) (zG [3,4]) J
   ·refine DrawG.pick (n := 2) (i := 1) (by decide +kernel) rfl (gS (v := (.agg ((List.replicate 4 0).map (eI .u64)))) (sv (bO rfl (vQ (E := (eI .u64)) (l := List.replicate 4 0) bV rfl rfl rfl)))) ?_
    exact DrawG.jg (by decide +kernel) (by decide +kernel) (zG [3,4]) J
 ·refine zz ?_
  refine AB.seq_g fun K1 hK1 hG1 => ?_
  have J1 : ∀ (l0 : List Int) (l1 : List Int),vF N l0 l1 = some r → K1 (aE 61 [(6,(.ptr 0 0)),(7,(.ptr 1 0))]) [some ⟨96,l0.map (eI .u64)⟩,some ⟨96,l1.map (eI .u64)⟩] := by
   intro l0 l1 hr
   unfold vF at hr
   refine hK1 _ _ <| AB.seq ?_
   obtain ⟨q_2,h_5,hr⟩ := aA hr
   obtain ⟨q_3,h_6,hr⟩ := aA hr
   refine AB.rd (eC []) (eC []) mixed <| DrawG.pick (n := 4) (i := 0) (by decide +kernel) rfl (gS (v := (.agg (l0.map (eI .u64)))) (sv (bO rfl (vQ (E := (eI .u64)) (l := l0) bV rfl rfl (aV h_5))))) ?_
   refine DrawG.jn (m := 2) (L := lst [0,1,2] 5) (s1 := aE 61 [(6,(.ptr 0 0)),(7,(.ptr 1 0)),(60,(.agg (l1.map (eI .u64))))]) (h1 := [some ⟨96,l0.map (eI .u64)⟩,some ⟨96,l1.map (eI .u64)⟩]) ?_ (fun J => ?_)
   ·refine DrawG.pick (n := 1) (i := 3) (by decide +kernel) rfl (gN (h' := [some ⟨96,l0.map (eI .u64)⟩,some ⟨96,l1.map (eI .u64)⟩]) (sv (aY rfl rfl (tK (E := (eI .u64)) (l := l1) bV rfl rfl (fun _ => rfl) (aV h_6) (aV h_6) rfl)))) <| DrawG.pick (n := 0) (i := 4) (by decide +kernel) rfl (gS (v := (eB true)) (sv (pY rfl))) <| DrawG.nil (by decide +kernel) ?_
    refine zz ?_
    obtain rfl := sj hr
    exact rN Tryz.results115 aW aW aW (lT [])
   ·refine DrawG.fork (n := 3) [1,2] (by decide +kernel) (by decide) ?_
    refine (Fork.cons rfl (gS (v := (.agg (l1.map (eI .u64)))) (sv (bO rfl (vQ (E := (eI .u64)) (l := l1) bV rfl rfl (aV h_6))))) ?_ (Fork.cons rfl (gN (h' := [some ⟨96,l0.map (eI .u64)⟩,some ⟨96,l1.map (eI .u64)⟩]) (sv (aY rfl rfl (tK (E := (eI .u64)) (l := l0) bV rfl rfl (fun _ => rfl) (aV h_5) (aV h_5) rfl)))) ?_ Fork.nil))
    ·refine DrawG.pick (n := 2) (i := 2) (by decide +kernel) rfl (gN (h' := [some ⟨96,l0.map (eI .u64)⟩,some ⟨96,l1.map (eI .u64)⟩]) (sv (aY rfl rfl (tK (E := (eI .u64)) (l := l0) bV rfl rfl (fun _ => rfl) (aV h_5) (aV h_5) rfl)))) ?_
     exact DrawG.jg (by decide +kernel) (by decide +kernel) (zG [0,1]) J
    ·refine DrawG.pick (n := 2) (i := 1) (by decide +kernel) rfl (gS (v := (.agg (l1.map (eI .u64)))) (sv (bO rfl (vQ (E := (eI .u64)) (l := l1) bV rfl rfl (aV h_6))))) ?_
     exact DrawG.jg (by decide +kernel) (by decide +kernel) (zG [0,1]) J
  obtain ⟨a9,hL2,hr⟩ := aA hr
  refine zz ?_
  refine AB.block <| AB.loopN (fun m s h => ∃ (vi : Int) (l2 : List Int) (l3 : List Int),dQ N lo b m vi l2 l3 = some a9 ∧ Ghost 0 s h (aE 61 [(4,(.ptr 0 0)),(5,(.ptr 1 0)),(6,(.ptr 2 0)),(7,(.ptr 3 0)),(9,(eI .i64 vi))]) [some ⟨96,lo.map (eI .u64)⟩,some ⟨96,b.map (eI .u64)⟩,some ⟨96,l2.map (eI .u64)⟩,some ⟨96,l3.map (eI .u64)⟩]) (n := N) ⟨255,List.replicate 4 0,hi,hL2,(zG [1,2,3,4])⟩ (by rintro s h ⟨_,_,_,h0,_⟩; simp [dQ] at h0) ?_
  rintro m2 s h ⟨vi,l2,l3,hr2,hg⟩
  refine AB.ghost hg ?_
  clear hg hL2
  rw [dQ] at hr2
  refine AB.seq ?_
  refine zz ?_
  refine zk hr2 rfl (fun h7 hr2 => ?_) (fun h7 hr2 => ?_)
  ·refine zz ?_
   refine AB.seq_g fun K3 hK3 hG3 => ?_
   have J3 : ∀ (fT : List Int) (jA : List Int),pQ N lo b vi (dQ N lo b m2) fT jA = some a9 → K3 (aE 61 [(4,(.ptr 0 0)),(5,(.ptr 1 0)),(6,(.ptr 2 0)),(7,(.ptr 3 0)),(9,(eI .i64 vi))]) [some ⟨96,lo.map (eI .u64)⟩,some ⟨96,b.map (eI .u64)⟩,some ⟨96,fT.map (eI .u64)⟩,some ⟨96,jA.map (eI .u64)⟩] := by
    intro fT jA hr2
    unfold pQ at hr2
    refine hK3 _ _ ?_
    refine zz ?_
    exact ⟨IntKind.i64.wrap (vi - 1),fT,jA,hr2,(zG [0,1,2,3])⟩
   refine AB.block ?_
   obtain ⟨q_4,h_8,hr2⟩ := aA hr2
   obtain ⟨fN,h_9,hr2⟩ := aA hr2
   refine zz ?_
   refine xp (rF h_9) ?_
   obtain ⟨x27,h_10,hr2⟩ := aA hr2
   obtain ⟨q_5,h_11,hr2⟩ := aA hr2
   refine zz ?_
   refine xp (aCn h_10) ?_
   refine zz ?_
   refine AB.seq_g fun K4 hK4 hG4 => ?_
   have J4 : ∀ (f7 : List Int),pD N lo b vi l2 fN (dQ N lo b m2) f7 = some a9 → K4 (aE 61 [(4,(.ptr 0 0)),(5,(.ptr 1 0)),(6,(.ptr 2 0)),(7,(.ptr 3 0)),(9,(eI .i64 vi)),(10,(eB fN))]) [some ⟨96,lo.map (eI .u64)⟩,some ⟨96,b.map (eI .u64)⟩,some ⟨96,l2.map (eI .u64)⟩,some ⟨96,f7.map (eI .u64)⟩] := by
    intro f7 hr2
    unfold pD at hr2
    refine hK4 _ _ ?_
    refine AB.seq_g fun K5 hK5 hG5 => ?_
    have J5 : ∀ (x43 : Bool),mA N lo b vi l2 f7 (dQ N lo b m2) x43 = some a9 → K5 (aE 61 [(4,(.ptr 0 0)),(5,(.ptr 1 0)),(6,(.ptr 2 0)),(7,(.ptr 3 0)),(9,(eI .i64 vi)),(43,(eB x43))]) [some ⟨96,lo.map (eI .u64)⟩,some ⟨96,b.map (eI .u64)⟩,some ⟨96,l2.map (eI .u64)⟩,some ⟨96,f7.map (eI .u64)⟩] := by
     intro x43 hr2
     unfold mA at hr2
     refine hK5 _ _ ?_
     refine zk hr2 rfl (fun h12 hr2 => ?_) (fun h12 hr2 => ?_)
     ·obtain ⟨q_6,h_13,hr2⟩ := aA hr2
      obtain ⟨x47,h_14,hr2⟩ := aA hr2
      obtain ⟨q_7,h_15,hr2⟩ := aA hr2
      refine zz ?_
      refine xp (vL h_14) ?_
      obtain ⟨x52,h_16,hr2⟩ := aA hr2
      obtain ⟨x56,h_17,hr2⟩ := aA hr2
      refine zz ?_
      refine AB.rs mixed [] [] [[0,1,2,3,4,5,6,7,8,9]] ?_
      refine zz ?_
      exact hG3 _ _ _ _ (zG [0,1,2,3]) (J3 (l2.set (Int.toNat (IntKind.i64.wrap (Int.tdiv vi 64))) (bits .or .u64 x52 x56)) x47.1 hr2)
     ·refine zz ?_
      exact hG3 _ _ _ _ (zG [0,1,2,3]) (J3 l2 f7 hr2)
    rcases Bool.eq_false_or_eq_true fN with h18 | h18
    ·replace hr2 := cV hr2 h18
     refine xr ?_
     refine zz ?_
     exact hG5 _ _ _ _ (zG [0,1,2,3]) (J5 true hr2)
    ·replace hr2 := cU hr2 h18
     obtain ⟨q_8,h_19,hr2⟩ := aA hr2
     obtain ⟨x41,h_20,hr2⟩ := aA hr2
     refine xr ?_
     refine zz ?_
     refine z8 (v := (eI .i64 x41)) (h' := [some ⟨96,lo.map (eI .u64)⟩,some ⟨96,b.map (eI .u64)⟩,some ⟨96,l2.map (eI .u64)⟩,some ⟨96,f7.map (eI .u64)⟩]) rfl rfl h18 rfl (Vm.Fn.pure (pM h_20) zR rfl) ?_
     refine zz ?_
     exact hG5 _ _ _ _ (zG [0,1,2,3]) (J5 (decide (0 ≤ x41)) hr2)
   obtain ⟨q_9,h_21,hr2⟩ := aA hr2
   obtain ⟨pK,h_22,hr2⟩ := aA hr2
   refine zz ?_
   refine xp (rF h_22) ?_
   refine zz ?_
   refine zk hr2 rfl (fun h23 hr2 => ?_) (fun h23 hr2 => ?_)
   ·obtain ⟨kY,h_24,hr2⟩ := aA hr2
    refine zz ?_
    exact hG4 _ _ _ _ (zG [0,1,2,3]) (J4 (x27.1.set (Int.toNat 0) (bits .or .u64 kY 1)) hr2)
   ·refine zz ?_
    exact hG4 _ _ _ _ (zG [0,1,2,3]) (J4 x27.1 hr2)
  ·refine zz ?_
   obtain rfl := sj hr2
   refine zz ?_
   exact hG1 _ _ _ _ (zG [2,3]) (J1 l2 l3 hr)
theorem oD {N : Nat} {va : List Int} {vm : List Int} {r : (List Int)} (hr : jP N va vm = some r) :
  Vm.Fn Tryz.prog 114 [] [(.agg (va.map (eI .u64))),(.agg (vm.map (eI .u64)))] (.agg (r.map (eI .u64))) [] := by
 refine zf Tryz.func114 Tryz.ntmps114 ?_
 unfold jP at hr
 obtain ⟨q,h_1,hr⟩ := aA hr
 obtain ⟨q_1,h_2,hr⟩ := aA hr
 obtain ⟨eE,h_3,hr⟩ := aA hr
 obtain ⟨q_2,h_4,hr⟩ := aA hr
 obtain ⟨q_3,h_5,hr⟩ := aA hr
 refine zz ?_
 refine xw (v := (.agg ([0,0,0,0].map (eI .u64)))) (cF rfl (lO bV j7 rfl)) ?_
 refine zz ?_
 refine xp (aCh h_3) ?_
 refine zz ?_
 obtain rfl := sj hr
 exact eY Tryz.results114 aW (zG [])
theorem aGW {N : Nat} {va : List Int} {r : Int} (hr : aAz N va = some r) :
  Vm.Fn Tryz.prog 116 [] [(.agg (va.map (eI .u64)))] (eI .i64 r) [] := by
 refine zf Tryz.func116 Tryz.ntmps116 ?_
 unfold aAz at hr
 refine zz ?_
 refine AB.seq_g fun K1 hK1 hG1 => ?_
 have J1 : v4 N = some r → K1 (aE 13 []) [] := by
  intro hr
  unfold v4 at hr
  refine hK1 _ _ ?_
  refine zz ?_
  obtain rfl := sj hr
  exact bH Tryz.results116 []
 obtain ⟨a9,hL2,hr⟩ := aA hr
 refine zz ?_
 refine AB.block <| AB.loopN (fun m s h => ∃ (vi : Int),mR N va m vi = some a9 ∧ Ghost 0 s h (aE 13 [(1,(.ptr 0 0)),(3,(eI .i64 vi))]) [some ⟨96,va.map (eI .u64)⟩]) (n := N) ⟨255,hL2,(zG [0])⟩ (by rintro s h ⟨_,h0,_⟩; simp [mR] at h0) ?_
 rintro m2 s h ⟨vi,hr2,hg⟩
 refine AB.ghost hg ?_
 clear hg hL2
 rw [mR] at hr2
 refine AB.seq ?_
 refine zz ?_
 refine zk hr2 rfl (fun h1 hr2 => ?_) (fun h1 hr2 => ?_)
 ·refine zz ?_
  refine AB.seq <| AB.block ?_
  obtain ⟨q,h_2,hr2⟩ := aA hr2
  obtain ⟨b8,h_3,hr2⟩ := aA hr2
  refine zz ?_
  refine xp (rF h_3) ?_
  refine zz ?_
  refine zk hr2 rfl (fun h4 hr2 => ?_) (fun h4 hr2 => ?_)
  ·refine zz ?_
   obtain rfl := sj hr2
   obtain rfl := sj hr
   exact bH Tryz.results116 []
  ·refine zz ?_
   exact ⟨IntKind.i64.wrap (vi - 1),hr2,(zG [0])⟩
 ·refine zz ?_
  obtain rfl := sj hr2
  refine zz ?_
  exact hG1 _ _ _ _ (zG []) (J1 hr)
theorem aGD {N : Nat} {va : List Int} {b : List Int} {r : (List Int) × (List Int)} (hr : yD N va b = some r) :
  Vm.Fn Tryz.prog 113 [] [(.agg (va.map (eI .u64))),(.agg (b.map (eI .u64)))] (.tup [(.agg (r.1.map (eI .u64))),(.agg (r.2.map (eI .u64)))]) [] := by
 refine zf Tryz.func113 Tryz.ntmps113 ?_
 unfold yD at hr
 refine zz ?_
 refine AB.seq_g fun K1 hK1 hG1 => ?_
 have J1 : ∀ (l2 : List Int),rM N l2 = some r → K1 (aE 71 [(4,(.ptr 0 0)),(5,(.ptr 1 0)),(6,(.ptr 2 0))]) [some ⟨96,(List.replicate 4 0).map (eI .u64)⟩,some ⟨96,(List.replicate 4 0).map (eI .u64)⟩,some ⟨131,l2.map (eI .u64)⟩] := by
  intro l2 hr
  unfold rM at hr
  refine hK1 _ _ <| AB.seq ?_
  obtain ⟨q,h_1,hr⟩ := aA hr
  obtain ⟨x64,h_2,hr⟩ := aA hr
  refine AB.rs mixed [] [] [[0,1,2]] ?_
  refine zz ?_
  refine xw (v := (.sl 2 (Int.toNat 0 * 1) x64.length 1 false)) (b5 rfl rfl rfl (aGS (E := (eI .u64)) (l := l2) aCE j7 rfl rfl rfl (aV h_1) zl rfl rfl h_2)) ?_
  refine xw (v := (eI .i64 ((min x64.length (List.replicate 4 0).length : Nat) : Int))) (h' := [some ⟨96,(List.replicate 4 0).map (eI .u64)⟩,some ⟨96,(j9 (List.replicate 4 0) x64).map (eI .u64)⟩,some ⟨131,l2.map (eI .u64)⟩]) (aAP rfl rfl (aEH (E := (eI .u64)) (l := List.replicate 4 0) rfl aI2 j7 rfl rfl (aNM (l := l2) rfl (fun _ => rfl) h_2) rfl)) ?_
  refine zz ?_
  refine AB.seq ?_
  obtain ⟨x67,h_3,hr⟩ := aA hr
  refine AB.rs mixed [] [] [[0,1,2]] ?_
  refine zz ?_
  refine xw (v := (.sl 2 (Int.toNat 4 * 1) x67.length 1 false)) (b5 rfl rfl rfl (aGS (E := (eI .u64)) (l := l2) aCE j7 rfl rfl rfl (aV h_1) zl rfl rfl h_3)) ?_
  refine xw (v := (eI .i64 ((min x67.length (List.replicate 4 0).length : Nat) : Int))) (h' := [some ⟨96,(j9 (List.replicate 4 0) x67).map (eI .u64)⟩,some ⟨96,(j9 (List.replicate 4 0) x64).map (eI .u64)⟩,some ⟨131,l2.map (eI .u64)⟩]) (aAP rfl rfl (aEH (E := (eI .u64)) (l := List.replicate 4 0) rfl aI2 j7 rfl rfl (aNM (l := l2) rfl (fun _ => rfl) h_3) rfl)) ?_
  obtain ⟨q_1,h_4,hr⟩ := aA hr
  obtain ⟨q_2,h_5,hr⟩ := aA hr
  refine zz ?_
  obtain rfl := sj hr
  exact nQ Tryz.results113 aW aW (lT [])
 obtain ⟨a9,hL2,hr⟩ := aA hr
 refine zz ?_
 refine AB.block <| AB.loopN (fun m s h => ∃ (x15 : Int) (l4 : List Int),jC N va b m x15 l4 = some a9 ∧ Ghost 0 s h (aE 71 [(2,(.ptr 0 0)),(3,(.ptr 1 0)),(4,(.ptr 2 0)),(5,(.ptr 3 0)),(6,(.ptr 4 0)),(15,(eI .i64 x15))]) [some ⟨96,va.map (eI .u64)⟩,some ⟨96,b.map (eI .u64)⟩,some ⟨96,(List.replicate 4 0).map (eI .u64)⟩,some ⟨96,(List.replicate 4 0).map (eI .u64)⟩,some ⟨131,l4.map (eI .u64)⟩]) (n := N) ⟨0,List.replicate 8 0,hL2,(zG [0,1,2,3,4])⟩ (by rintro s h ⟨_,_,h0,_⟩; simp [jC] at h0) ?_
 rintro m2 s h ⟨x15,l4,hr2,hg⟩
 refine AB.ghost hg ?_
 clear hg hL2
 rw [jC] at hr2
 refine zz ?_
 refine AB.seq ?_
 refine zk hr2 rfl (fun h6 hr2 => ?_) (fun h6 hr2 => ?_)
 ·refine zz ?_
  refine AB.seq_g fun K3 hK3 hG3 => ?_
  have J3 : ∀ (oZ : List Int),uY N va b x15 (jC N va b m2) oZ = some a9 → K3 (aE 71 [(2,(.ptr 0 0)),(3,(.ptr 1 0)),(4,(.ptr 2 0)),(5,(.ptr 3 0)),(6,(.ptr 4 0)),(15,(eI .i64 x15))]) [some ⟨96,va.map (eI .u64)⟩,some ⟨96,b.map (eI .u64)⟩,some ⟨96,(List.replicate 4 0).map (eI .u64)⟩,some ⟨96,(List.replicate 4 0).map (eI .u64)⟩,some ⟨131,oZ.map (eI .u64)⟩] := by
   intro oZ hr2
   unfold uY at hr2
   refine hK3 _ _ ?_
   refine zz ?_
   exact ⟨IntKind.i64.wrap (x15 + 1),oZ,hr2,(zG [0,1,2,3,4])⟩
  refine AB.block ?_
  refine zz ?_
  refine AB.seq_g fun K4 hK4 hG4 => ?_
  have J4 : ∀ (iO : Int) (uG : List Int),vJ N va b x15 (jC N va b m2) iO uG = some a9 → K4 (aE 71 [(2,(.ptr 0 0)),(3,(.ptr 1 0)),(4,(.ptr 2 0)),(5,(.ptr 3 0)),(6,(.ptr 4 0)),(7,(eI .i64 x15)),(8,(eI .u64 iO)),(15,(eI .i64 x15))]) [some ⟨96,va.map (eI .u64)⟩,some ⟨96,b.map (eI .u64)⟩,some ⟨96,(List.replicate 4 0).map (eI .u64)⟩,some ⟨96,(List.replicate 4 0).map (eI .u64)⟩,some ⟨131,uG.map (eI .u64)⟩] := by
   intro iO uG hr2
   unfold vJ at hr2
   refine hK4 _ _ ?_
   obtain ⟨x61,h_7,hr2⟩ := aA hr2
   refine zz ?_
   exact hG3 _ _ _ _ (zG [0,1,2,3,4]) (J3 (uG.set (Int.toNat (IntKind.i64.wrap (x15 + 4))) iO) hr2)
  obtain ⟨res5,hL5,hr2⟩ := aA hr2
  refine zz ?_
  refine AB.block <| AB.loopN (fun m s h => ∃ (carry_1 : Int) (x18 : Int) (l4_3 : List Int),mC N va b x15 m carry_1 x18 l4_3 = some res5 ∧ Ghost 0 s h (aE 71 [(2,(.ptr 0 0)),(3,(.ptr 1 0)),(4,(.ptr 2 0)),(5,(.ptr 3 0)),(6,(.ptr 4 0)),(7,(eI .i64 x15)),(8,(eI .u64 carry_1)),(15,(eI .i64 x15)),(18,(eI .i64 x18))]) [some ⟨96,va.map (eI .u64)⟩,some ⟨96,b.map (eI .u64)⟩,some ⟨96,(List.replicate 4 0).map (eI .u64)⟩,some ⟨96,(List.replicate 4 0).map (eI .u64)⟩,some ⟨131,l4_3.map (eI .u64)⟩]) (n := N) ⟨0,0,l4,hL5,(zG [0,1,2,3,4])⟩ (by rintro s h ⟨_,_,_,h0,_⟩; simp [mC] at h0) ?_
  rintro m5 s h ⟨carry_1,x18,l4_3,hr5,hg⟩
  refine AB.ghost hg ?_
  clear hg hL5
  rw [mC] at hr5
  refine zz ?_
  refine AB.seq ?_
  refine zk hr5 rfl (fun h8 hr5 => ?_) (fun h8 hr5 => ?_)
  ·refine zz ?_
   refine AB.seq <| AB.block ?_
   refine zz ?_
   refine AB.seq ?_
   obtain ⟨fN,h_9,hr5⟩ := aA hr5
   obtain ⟨x26,h_10,hr5⟩ := aA hr5
   obtain ⟨x28,h_11,hr5⟩ := aA hr5
   refine AB.rs mixed [127] [] [[0,1,2,3,4,5,6,7,8,9,10,11]] ?_
   refine zz ?_
   refine xu (yF h_11) ?_
   obtain ⟨x35,h_13,hr5⟩ := aA hr5
   obtain ⟨x38,h_14,hr5⟩ := aA hr5
   refine zz ?_
   refine xp (iU h_14) ?_
   obtain ⟨x44,h_15,hr5⟩ := aA hr5
   refine zz ?_
   refine xp (iU h_15) ?_
   refine zz ?_
   exact ⟨IntKind.u64.wrap ((IntKind.u64.wrap (x28.1 + x38.2)) + x44.2),IntKind.i64.wrap (x18 + 1),l4_3.set (Int.toNat (IntKind.i64.wrap (x15 + x18))) x44.1,hr5,(zG [0,1,2,3,4])⟩
  ·refine zz ?_
   obtain rfl := sj hr5
   refine zz ?_
   exact hG4 _ _ _ _ (zG [0,1,2,3,4]) (J4 carry_1 l4_3 hr2)
 ·refine zz ?_
  obtain rfl := sj hr2
  refine zz ?_
  exact hG1 _ _ _ _ (zG [2,3,4]) (J1 l4 hr)
theorem uX {N : Nat} {va : List Int} {b : List Int} {vm : List Int} {r : (List Int)} (hr : mS N va b vm = some r) :
  Vm.Fn Tryz.prog 98 [] [(.agg (va.map (eI .u64))),(.agg (b.map (eI .u64))),(.agg (vm.map (eI .u64)))] (.agg (r.map (eI .u64))) [] := by
 refine zf Tryz.func98 Tryz.ntmps98 ?_
 unfold mS at hr
 refine zz ?_
 refine AB.seq ?_
 obtain ⟨q,h_1,hr⟩ := aA hr
 obtain ⟨cD,h_2,hr⟩ := aA hr
 refine zz ?_
 refine xp (nB h_2) ?_
 refine zz ?_
 refine zk hr rfl (fun h3 hr => ?_) (fun h3 hr => ?_)
 ·refine zz ?_
  obtain rfl := sj hr
  exact eY Tryz.results98 aW (zG [])
 ·refine zz ?_
  refine AB.seq ?_
  obtain ⟨q_1,h_4,hr⟩ := aA hr
  obtain ⟨x18,h_5,hr⟩ := aA hr
  obtain ⟨q_2,h_7,hr⟩ := aA hr
  obtain ⟨dI,h_8,hr⟩ := aA hr
  obtain ⟨bN,h_10,hr⟩ := aA hr
  obtain ⟨q_3,h_12,hr⟩ := aA hr
  obtain ⟨q_4,h_13,hr⟩ := aA hr
  refine AB.rd (eC [113,114]) (eC []) mixed <| DrawG.pick (n := 13) (i := 0) (by decide +kernel) rfl (gS (v := (.agg (va.map (eI .u64)))) (sv (bO rfl (vQ (E := (eI .u64)) (l := va) bV rfl rfl (aV h_4))))) <| DrawG.pick (n := 12) (i := 1) (by decide +kernel) rfl (gS (v := (.agg (vm.map (eI .u64)))) (sv (bO rfl (vQ (E := (eI .u64)) (l := vm) bV rfl rfl (aV h_1))))) <| DrawG.pick (n := 11) (i := 2) (by decide +kernel) rfl (gU (fun _ => (Vm.Fn.pure (oD h_5) zR zR)) rfl (sv (mW rfl r8))) <| DrawG.pick (n := 10) (i := 3) (by decide +kernel) rfl (gS (v := (.agg (b.map (eI .u64)))) (sv (bO rfl (vQ (E := (eI .u64)) (l := b) bV rfl rfl (aV h_7))))) ?_
  refine DrawG.pick (n := 9) (i := 4) (by decide +kernel) rfl (gS (v := (.agg (vm.map (eI .u64)))) (sv (bO rfl (vQ (E := (eI .u64)) (l := vm) bV rfl rfl (aV h_1))))) <| DrawG.pick (n := 8) (i := 5) (by decide +kernel) rfl (gU (fun _ => (Vm.Fn.pure (oD h_8) zR zR)) rfl (sv (mW rfl r8))) <| DrawG.pick (n := 7) (i := 6) (by decide +kernel) rfl (gU (fun _ => (Vm.Fn.pure (aGD h_10) zR zR)) rfl (sv (mW rfl r8))) <| DrawG.pick (n := 6) (i := 7) (by decide +kernel) rfl (gS (v := (.tup [(.agg (bN.1.map (eI .u64))),(.agg (bN.2.map (eI .u64)))])) (sv (j8 rfl))) <| DrawG.pick (n := 5) (i := 8) (by decide +kernel) rfl (gS (v := (.agg (bN.1.map (eI .u64)))) (sv (aCC rfl rfl))) ?_
  refine DrawG.pick (n := 4) (i := 9) (by decide +kernel) rfl (gS (v := (.agg (bN.2.map (eI .u64)))) (sv (aCC rfl rfl))) ?_
  refine DrawG.jn (m := 1) (L := lst [0,1,2,3,4,5,6,7,8,9,10,11,12] 14) (s1 := aE 34 [(5,(.ptr 0 0)),(6,(.ptr 1 0)),(7,(.ptr 2 0)),(8,(.ptr 3 0)),(24,(.agg (bN.2.map (eI .u64))))]) (h1 := [some ⟨96,vm.map (eI .u64)⟩,some ⟨96,(List.replicate 4 0).map (eI .u64)⟩,some ⟨96,bN.1.map (eI .u64)⟩,some ⟨96,(List.replicate 4 0).map (eI .u64)⟩]) ?_ (fun J => ?_)
  ·refine DrawG.pick (n := 0) (i := 13) (by decide +kernel) rfl (gN (h' := [some ⟨96,vm.map (eI .u64)⟩,some ⟨96,(List.replicate 4 0).map (eI .u64)⟩,some ⟨96,bN.1.map (eI .u64)⟩,some ⟨96,bN.2.map (eI .u64)⟩]) (sv (aY rfl rfl (tK (E := (eI .u64)) (l := List.replicate 4 0) bV rfl rfl (fun _ => rfl) rfl (aV h_13) rfl)))) <| DrawG.nil (by decide +kernel) ?_
   obtain ⟨x29,h_14,hr⟩ := aA hr
   obtain ⟨q_5,h_15,hr⟩ := aA hr
   obtain ⟨q_6,h_16,hr⟩ := aA hr
   refine zz ?_
   refine xp (aCh h_14) ?_
   refine zz ?_
   obtain rfl := sj hr
   exact eY Tryz.results98 aW (zG [])
  ·refine DrawG.fork (n := 3) [10,11] (by decide +kernel) (by decide) ?_
   refine (Fork.cons rfl (gS (v := (.ptr 4 0)) (h' := [some ⟨96,va.map (eI .u64)⟩,some ⟨96,b.map (eI .u64)⟩,some ⟨96,vm.map (eI .u64)⟩,some ⟨96,(List.replicate 4 0).map (eI .u64)⟩,some ⟨96,(List.replicate 4 0).map (eI .u64)⟩]) (sv (iC bV rfl rfl rfl))) ?_ (Fork.cons rfl (gS (v := (.ptr 4 0)) (h' := [some ⟨96,va.map (eI .u64)⟩,some ⟨96,b.map (eI .u64)⟩,some ⟨96,vm.map (eI .u64)⟩,some ⟨96,(List.replicate 4 0).map (eI .u64)⟩,some ⟨96,(List.replicate 4 0).map (eI .u64)⟩]) (sv (iC bV rfl rfl rfl))) ?_ Fork.nil))
   ·refine DrawG.pick (n := 2) (i := 11) (by decide +kernel) rfl (gS (v := (.ptr 5 0)) (h' := [some ⟨96,va.map (eI .u64)⟩,some ⟨96,b.map (eI .u64)⟩,some ⟨96,vm.map (eI .u64)⟩,some ⟨96,(List.replicate 4 0).map (eI .u64)⟩,some ⟨96,(List.replicate 4 0).map (eI .u64)⟩,some ⟨96,(List.replicate 4 0).map (eI .u64)⟩]) (sv (iC bV rfl rfl rfl))) <| DrawG.pick (n := 1) (i := 12) (by decide +kernel) rfl (gN (h' := [some ⟨96,va.map (eI .u64)⟩,some ⟨96,b.map (eI .u64)⟩,some ⟨96,vm.map (eI .u64)⟩,some ⟨96,(List.replicate 4 0).map (eI .u64)⟩,some ⟨96,bN.1.map (eI .u64)⟩,some ⟨96,(List.replicate 4 0).map (eI .u64)⟩]) (sv (aY rfl rfl (tK (E := (eI .u64)) (l := List.replicate 4 0) bV rfl rfl (fun _ => rfl) rfl (aV h_12) rfl)))) ?_
    exact DrawG.jg (by decide +kernel) (by decide +kernel) (zG [2,3,4,5]) J
   ·refine DrawG.pick (n := 2) (i := 10) (by decide +kernel) rfl (gS (v := (.ptr 5 0)) (h' := [some ⟨96,va.map (eI .u64)⟩,some ⟨96,b.map (eI .u64)⟩,some ⟨96,vm.map (eI .u64)⟩,some ⟨96,(List.replicate 4 0).map (eI .u64)⟩,some ⟨96,(List.replicate 4 0).map (eI .u64)⟩,some ⟨96,(List.replicate 4 0).map (eI .u64)⟩]) (sv (iC bV rfl rfl rfl))) <| DrawG.pick (n := 1) (i := 12) (by decide +kernel) rfl (gN (h' := [some ⟨96,va.map (eI .u64)⟩,some ⟨96,b.map (eI .u64)⟩,some ⟨96,vm.map (eI .u64)⟩,some ⟨96,(List.replicate 4 0).map (eI .u64)⟩,some ⟨96,(List.replicate 4 0).map (eI .u64)⟩,some ⟨96,bN.1.map (eI .u64)⟩]) (sv (aY rfl rfl (tK (E := (eI .u64)) (l := List.replicate 4 0) bV rfl rfl (fun _ => rfl) rfl (aV h_12) rfl)))) ?_
    exact DrawG.jg (by decide +kernel) (by decide +kernel) (zG [2,3,5,4]) J
theorem aDM {N : Nat} {va : List Int} {ve : List Int} {vm : List Int} {r : (List Int)} (hr : r7 N va ve vm = some r) :
  Vm.Fn Tryz.prog 99 [] [(.agg (va.map (eI .u64))),(.agg (ve.map (eI .u64))),(.agg (vm.map (eI .u64)))] (.agg (r.map (eI .u64))) [] := by
 refine zf Tryz.func99 Tryz.ntmps99 ?_
 unfold r7 at hr
 refine zz ?_
 refine AB.seq ?_
 obtain ⟨q,h_1,hr⟩ := aA hr
 obtain ⟨b8,h_2,hr⟩ := aA hr
 refine zz ?_
 refine xp (nB h_2) ?_
 refine zz ?_
 refine zk hr rfl (fun h3 hr => ?_) (fun h3 hr => ?_)
 ·refine zz ?_
  obtain rfl := sj hr
  exact eY Tryz.results99 aW (zG [])
 ·refine zz ?_
  refine AB.seq ?_
  obtain ⟨eE,h_4,hr⟩ := aA hr
  obtain ⟨bC,h_6,hr⟩ := aA hr
  obtain ⟨q_1,h_8,hr⟩ := aA hr
  refine AB.rs mixed [76,114] [] [[0,1,2,3,4]] <| xu (jT h_4) ?_
  refine zz ?_
  refine xu (oD h_6) ?_
  refine zz ?_
  refine AB.seq_g fun K1 hK1 hG1 => ?_
  have J1 : ∀ (l1 : List Int),vD N l1 = some r → K1 (aE 34 [(6,(.ptr 0 0)),(7,(.ptr 1 0))]) [some ⟨96,(List.replicate 4 0).map (eI .u64)⟩,some ⟨96,l1.map (eI .u64)⟩] := by
   intro l1 hr
   unfold vD at hr
   refine hK1 _ _ ?_
   obtain ⟨q_2,h_9,hr⟩ := aA hr
   refine zz ?_
   obtain rfl := sj hr
   exact eY Tryz.results99 aW (zG [])
  obtain ⟨q_3,h_10,hr⟩ := aA hr
  obtain ⟨x16,h_11,hr⟩ := aA hr
  refine zz ?_
  refine xp (aGW h_11) ?_
  obtain ⟨a9,hL2,hr⟩ := aA hr
  refine zz ?_
  refine AB.block <| AB.loopN (fun m s h => ∃ (vi : Int) (l4 : List Int),fS N va ve vm m vi l4 = some a9 ∧ Ghost 0 s h (aE 34 [(3,(.ptr 0 0)),(4,(.ptr 1 0)),(5,(.ptr 2 0)),(6,(.ptr 3 0)),(7,(.ptr 4 0)),(8,(eI .i64 vi))]) [some ⟨96,va.map (eI .u64)⟩,some ⟨96,ve.map (eI .u64)⟩,some ⟨96,vm.map (eI .u64)⟩,some ⟨96,(List.replicate 4 0).map (eI .u64)⟩,some ⟨96,l4.map (eI .u64)⟩]) (n := N) ⟨IntKind.i64.wrap (x16 - 1),bC,hL2,(zG [0,1,2,3,4])⟩ (by rintro s h ⟨_,_,h0,_⟩; simp [fS] at h0) ?_
  rintro m2 s h ⟨vi,l4,hr2,hg⟩
  refine AB.ghost hg ?_
  clear hg hL2
  rw [fS] at hr2
  refine AB.seq ?_
  refine zz ?_
  refine zk hr2 rfl (fun h12 hr2 => ?_) (fun h12 hr2 => ?_)
  ·refine zz ?_
   refine AB.seq_g fun K3 hK3 hG3 => ?_
   have J3 : ∀ (oZ : List Int),lB N va ve vm vi (fS N va ve vm m2) oZ = some a9 → K3 (aE 34 [(3,(.ptr 0 0)),(4,(.ptr 1 0)),(5,(.ptr 2 0)),(6,(.ptr 3 0)),(7,(.ptr 4 0)),(8,(eI .i64 vi))]) [some ⟨96,va.map (eI .u64)⟩,some ⟨96,ve.map (eI .u64)⟩,some ⟨96,vm.map (eI .u64)⟩,some ⟨96,(List.replicate 4 0).map (eI .u64)⟩,some ⟨96,oZ.map (eI .u64)⟩] := by
    intro oZ hr2
    unfold lB at hr2
    refine hK3 _ _ ?_
    refine zz ?_
    exact ⟨IntKind.i64.wrap (vi - 1),oZ,hr2,(zG [0,1,2,3,4])⟩
   refine AB.block ?_
   obtain ⟨q_4,h_13,hr2⟩ := aA hr2
   obtain ⟨x25,h_14,hr2⟩ := aA hr2
   obtain ⟨q_5,h_15,hr2⟩ := aA hr2
   refine zz ?_
   refine xp (uX h_14) ?_
   obtain ⟨x28,h_16,hr2⟩ := aA hr2
   refine zz ?_
   refine xp (rF h_16) ?_
   refine zz ?_
   refine zk hr2 rfl (fun h17 hr2 => ?_) (fun h17 hr2 => ?_)
   ·obtain ⟨q_6,h_18,hr2⟩ := aA hr2
    obtain ⟨pK,h_19,hr2⟩ := aA hr2
    obtain ⟨q_7,h_20,hr2⟩ := aA hr2
    refine zz ?_
    refine xp (uX h_19) ?_
    refine zz ?_
    exact hG3 _ _ _ _ (zG [0,1,2,3,4]) (J3 pK hr2)
   ·refine zz ?_
    exact hG3 _ _ _ _ (zG [0,1,2,3,4]) (J3 x25 hr2)
  ·refine zz ?_
   obtain rfl := sj hr2
   refine zz ?_
   exact hG1 _ _ _ _ (zG [3,4]) (J1 l4 hr)
theorem aAk {N : Nat} {va : List Int} {ve : List Int} {r : (List Int)} (hr : pV N va ve = some r) :
  Vm.Fn Tryz.prog 83 [] [(.agg (va.map (eI .u64))),(.agg (ve.map (eI .u64)))] (.agg (r.map (eI .u64))) [] := by
 refine zf Tryz.func83 Tryz.ntmps83 ?_
 unfold pV at hr
 refine zz ?_
 refine AB.seq ?_
 obtain ⟨q,h_1,hr⟩ := aA hr
 obtain ⟨q_1,h_2,hr⟩ := aA hr
 obtain ⟨x7,h_3,hr⟩ := aA hr
 obtain ⟨x8,h_5,hr⟩ := aA hr
 obtain ⟨q_2,h_7,hr⟩ := aA hr
 refine AB.rs mixed [94,99] [] [[0,1,2,3,4]] ?_
 refine zz ?_
 refine xu (mL h_3) <| xu (aDM h_5) ?_
 refine zz ?_
 obtain rfl := sj hr
 exact eY Tryz.results83 aW (zG [])
theorem aGF {N : Nat} {r : (List Int)} (hr : aAu N = some r) :
  Vm.Fn Tryz.prog 95 [] [] (.agg (r.map (eI .u64))) [] := by
 refine zf Tryz.func95 Tryz.ntmps95 ?_
 unfold aAu at hr
 obtain ⟨x1,h_1,hr⟩ := aA hr
 obtain ⟨q,h_2,hr⟩ := aA hr
 refine zz ?_
 refine xp (jT h_1) ?_
 refine zz ?_
 obtain rfl := sj hr
 exact eY Tryz.results95 aW (zG [])
theorem aEp {N : Nat} {va : List Int} {r : Bool} (hr : rC N va = some r) :
  Vm.Fn Tryz.prog 77 [] [(.agg (va.map (eI .u64)))] (eB r) [] := by
 refine zf Tryz.func77 Tryz.ntmps77 ?_
 unfold rC at hr
 refine zz ?_
 refine AB.seq_g fun K1 hK1 hG1 => ?_
 have J1 : ∀ (x2 : Bool),n8 N x2 = some r → K1 (aE 19 [(2,(eB x2))]) [] := by
  intro x2 hr
  unfold n8 at hr
  refine hK1 _ _ ?_
  refine zz ?_
  obtain rfl := sj hr
  exact bH Tryz.results77 []
 obtain ⟨q,h_1,hr⟩ := aA hr
 obtain ⟨x4,h_2,hr⟩ := aA hr
 rcases Bool.eq_false_or_eq_true (!x4) with h4 | h4
 ·replace hr := cV hr h4
  obtain ⟨x8,h_5,hr⟩ := aA hr
  obtain ⟨x9,h_7,hr⟩ := aA hr
  rcases Bool.eq_false_or_eq_true (decide (x9 < 0)) with h9 | h9
  ·replace hr := cV hr h9
   obtain ⟨bC,h_10,hr⟩ := aA hr
   obtain ⟨x15,h_12,hr⟩ := aA hr
   obtain ⟨x16,h_14,hr⟩ := aA hr
   obtain ⟨q_1,h_16,hr⟩ := aA hr
   obtain ⟨q_2,h_17,hr⟩ := aA hr
   refine AB.rs mixed [80,83,92,93,94,95] [] [[0,1,2,3,4,5,6,7,8,9,10,11,12,13,14,15,16]] ?_
   refine zz ?_
   refine xu (nB h_2) ?_
   refine zz ?_
   refine xu (mL h_5) <| xu (pM h_7) ?_
   refine zz ?_
   refine xu (sV h_10) <| xu (aAk h_12) <| xu (aGF h_14) ?_
   refine zz ?_
   exact hG1 _ _ _ _ (zG []) (J1 (x15 == x16) hr)
  ·replace hr := cU hr h9
   refine AB.rs mixed [80,83,92,93,94,95] [] [[0,1,2,3,4,5,6,7,8,9,10,11,12,13,14,15,16]] ?_
   refine zz ?_
   refine xu (nB h_2) ?_
   refine zz ?_
   refine xu (mL h_5) <| xu (pM h_7) ?_
   refine zz ?_
   exact hG1 _ _ _ _ (zG []) (J1 false hr)
 ·replace hr := cU hr h4
  refine AB.rs mixed [80,83,92,93,94,95] [] [[0,1,2,3,4,5,6,7,8,9,10,11,12,13,14,15,16]] ?_
  refine zz ?_
  refine xu (nB h_2) ?_
  refine zz ?_
  refine xX rfl <| xX rfl <| xX rfl <| xX rfl <| xX rfl ?_
  refine zz ?_
  exact hG1 _ _ _ _ (zG []) (J1 false hr)
theorem sY {N : Nat} {p : List Int} {r : Bool} (hr : qU N p = some r) :
  Vm.Fn Tryz.prog 65 [] [(.agg (p.map (eI .u64)))] (eB r) [] := by
 refine zf Tryz.func65 Tryz.ntmps65 ?_
 unfold qU at hr
 refine zz ?_
 refine AB.seq_g fun K1 hK1 hG1 => ?_
 have J1 : ∀ (x2 : Bool),sZ N x2 = some r → K1 (aE 10 [(2,(eB x2))]) [] := by
  intro x2 hr
  unfold sZ at hr
  refine hK1 _ _ ?_
  refine zz ?_
  obtain rfl := sj hr
  exact bH Tryz.results65 []
 obtain ⟨q,h_1,hr⟩ := aA hr
 obtain ⟨x4,h_2,hr⟩ := aA hr
 obtain ⟨q_1,h_4,hr⟩ := aA hr
 rcases Bool.eq_false_or_eq_true (!(p == x4)) with h5 | h5
 ·replace hr := cV hr h5
  obtain ⟨x8,h_6,hr⟩ := aA hr
  refine AB.rs mixed [76,77] [] [[0,1,2,3,4,5,6,7]] ?_
  refine zz ?_
  refine xu (jT h_2) ?_
  refine zz ?_
  refine xu (aEp h_6) ?_
  refine zz ?_
  exact hG1 _ _ _ _ (zG []) (J1 x8 hr)
 ·replace hr := cU hr h5
  refine AB.rs mixed [76,77] [] [[0,1,2,3,4,5,6,7]] ?_
  refine zz ?_
  refine xu (jT h_2) ?_
  refine zz ?_
  exact hG1 _ _ _ _ (zG []) (J1 false hr)
theorem l5 {N : Nat} {va : List Int} {r : Bool} (hr : lW N va = some r) :
  Vm.Fn Tryz.prog 78 [] [(.agg (va.map (eI .u64)))] (eB r) [] := by
 refine zf Tryz.func78 Tryz.ntmps78 ?_
 unfold lW at hr
 refine zz ?_
 refine AB.seq ?_
 obtain ⟨q,h_1,hr⟩ := aA hr
 obtain ⟨x4,h_2,hr⟩ := aA hr
 obtain ⟨x5,h_4,hr⟩ := aA hr
 refine AB.rs mixed [80,93] [] [[0,1,2,3,4]] ?_
 refine zz ?_
 refine xu (sV h_2) <| xu (pM h_4) ?_
 refine zz ?_
 obtain rfl := sj hr
 exact bH Tryz.results78 []
theorem aEi {N : Nat} {b : List Int} {r : (List Int) × (List Int) × Int} (hr : rY N b = some r) :
  Vm.Fn Tryz.prog 66 [] [(.row none 1 (b.map (eI .u8)))] (.tup [(.agg (cA (eI .u64) r.1 (cA (eI .u64) r.2.1 []))),(eI .i64 r.2.2)]) [] := by
 refine zf Tryz.func66 Tryz.ntmps66 ?_
 unfold rY at hr
 refine zz ?_
 refine xw (v := (.ptr 0 0)) (h' := [some ⟨100,(cA (eI .u64) (List.replicate 4 0) (cA (eI .u64) (List.replicate 4 0) []))⟩]) (iC nO rfl rfl rfl) ?_
 refine zz ?_
 refine AB.seq ?_
 refine zz ?_
 refine zk hr rfl (fun h1 hr => ?_) (fun h1 hr => ?_)
 ·refine zz ?_
  refine xw (v := (.agg (cA (eI .u64) (List.replicate 4 0) (cA (eI .u64) (List.replicate 4 0) [])))) (cF rfl (aAO nO aBv rfl)) ?_
  refine zz ?_
  obtain rfl := sj hr
  exact nQ Tryz.results66 aW aW (zG [])
 ·refine zz ?_
  refine AB.seq ?_
  obtain ⟨cD,h_2,hr⟩ := aA hr
  refine AB.rs mixed [] [] [[0,1,2,3]] ?_
  refine zz ?_
  refine xw (v := (eI .i64 ((min cD.length (List.replicate 32 0).length : Nat) : Int))) (h' := [some ⟨100,(cA (eI .u64) (List.replicate 4 0) (cA (eI .u64) (List.replicate 4 0) []))⟩,some ⟨25,(j9 (List.replicate 32 0) cD).map (eI .u8)⟩,some ⟨25,(List.replicate 32 0).map (eI .u8)⟩]) (aAP rfl rfl (aEH (E := (eI .u8)) (l := List.replicate 32 0) rfl cG cZ rfl rfl (aAJ (fun _ => rfl)) rfl)) ?_
  refine zz ?_
  refine AB.seq ?_
  obtain ⟨x17,h_3,hr⟩ := aA hr
  refine AB.rs mixed [] [] [[0,1,2,3]] ?_
  refine zz ?_
  refine xw (v := (eI .i64 ((min x17.length (List.replicate 32 0).length : Nat) : Int))) (h' := [some ⟨100,(cA (eI .u64) (List.replicate 4 0) (cA (eI .u64) (List.replicate 4 0) []))⟩,some ⟨25,(j9 (List.replicate 32 0) cD).map (eI .u8)⟩,some ⟨25,(j9 (List.replicate 32 0) x17).map (eI .u8)⟩]) (aAP rfl rfl (aEH (E := (eI .u8)) (l := List.replicate 32 0) rfl cG cZ rfl rfl (aAJ (fun _ => rfl)) rfl)) ?_
  refine zz ?_
  refine AB.seq ?_
  obtain ⟨q,h_4,hr⟩ := aA hr
  obtain ⟨bE,h_5,hr⟩ := aA hr
  obtain ⟨q_1,h_7,hr⟩ := aA hr
  obtain ⟨bN,h_8,hr⟩ := aA hr
  obtain ⟨q_2,h_10,hr⟩ := aA hr
  obtain ⟨q_3,h_11,hr⟩ := aA hr
  refine AB.rs mixed [64] [] [[0,1,2,3,4,5,6]] ?_
  refine zz ?_
  refine xu (nZ h_5) ?_
  refine zz ?_
  refine xu (nZ h_8) <| xw (v := (.agg (cA (eI .u64) bE (cA (eI .u64) bN [])))) (cF rfl (aNA (ps' := [(0,(.agg (cA (eI .u64) bE []))),(1,(.agg (cA (eI .u64) bN [])))]) (by simp only [aA1 (l := bE) (aV h_10),aA1 (l := bN) (aV h_11)]) (aAO nO aBv rfl))) <| xw (v := (.ptr 3 0)) (h' := [some ⟨100,(cA (eI .u64) (List.replicate 4 0) (cA (eI .u64) (List.replicate 4 0) []))⟩,some ⟨25,(j9 (List.replicate 32 0) cD).map (eI .u8)⟩,some ⟨25,(j9 (List.replicate 32 0) x17).map (eI .u8)⟩,some ⟨100,(cA (eI .u64) (List.replicate 4 0) (cA (eI .u64) (List.replicate 4 0) []))⟩]) (iC nO rfl rfl rfl) ?_
  refine zz ?_
  refine AB.seq ?_
  refine AB.seq_g fun K1 hK1 hG1 => ?_
  have J1 : ∀ (kY : Bool),q6 N bE bN kY = some r → K1 (aE 36 [(2,(.ptr 0 0)),(6,(.ptr 1 0)),(33,(eB kY))]) [some ⟨100,(cA (eI .u64) (List.replicate 4 0) (cA (eI .u64) (List.replicate 4 0) []))⟩,some ⟨100,(cA (eI .u64) bE (cA (eI .u64) bN []))⟩] := by
   intro kY hr
   unfold q6 at hr
   refine hK1 _ _ ?_
   refine zk hr rfl (fun h12 hr => ?_) (fun h12 hr => ?_)
   ·refine zz ?_
    refine xw (v := (.agg (cA (eI .u64) (List.replicate 4 0) (cA (eI .u64) (List.replicate 4 0) [])))) (cF rfl (aAO nO aBv rfl)) ?_
    refine zz ?_
    obtain rfl := sj hr
    exact nQ Tryz.results66 aW aW (zG [])
   ·refine zz ?_
    obtain rfl := sj hr
    exact nQ Tryz.results66 aW aW (zG [])
  obtain ⟨x26,h_13,hr⟩ := aA hr
  rcases Bool.eq_false_or_eq_true (!x26) with h14 | h14
  ·replace hr := cV hr h14
   refine xr ?_
   refine zz ?_
   refine xp (l5 h_13) ?_
   refine zz ?_
   exact hG1 _ _ _ _ (zG [0,3]) (J1 true hr)
  ·replace hr := cU hr h14
   obtain ⟨dL,h_15,hr⟩ := aA hr
   refine xr ?_
   refine zz ?_
   refine xp (l5 h_13) ?_
   refine zz ?_
   refine z8 (v := (eB dL)) (h' := [some ⟨100,(cA (eI .u64) (List.replicate 4 0) (cA (eI .u64) (List.replicate 4 0) []))⟩,some ⟨25,(j9 (List.replicate 32 0) cD).map (eI .u8)⟩,some ⟨25,(j9 (List.replicate 32 0) x17).map (eI .u8)⟩,some ⟨100,(cA (eI .u64) bE (cA (eI .u64) bN []))⟩]) rfl rfl h14 rfl (Vm.Fn.pure (l5 h_15) zR rfl) ?_
   refine zz ?_
   exact hG1 _ _ _ _ (zG [0,3]) (J1 (!dL) hr)
theorem aEz {N : Nat} {ve : List Int} {r : (List Int)} (hr : tI N ve = some r) :
  Vm.Fn Tryz.prog 82 [] [(.agg (ve.map (eI .u64)))] (.agg (r.map (eI .u64))) [] := by
 refine zf Tryz.func82 Tryz.ntmps82 ?_
 unfold tI at hr
 refine zz ?_
 refine AB.seq ?_
 obtain ⟨x3,h_1,hr⟩ := aA hr
 obtain ⟨q,h_3,hr⟩ := aA hr
 obtain ⟨x5,h_4,hr⟩ := aA hr
 obtain ⟨q_1,h_6,hr⟩ := aA hr
 refine AB.rs mixed [76,83] [] [[0,1,2,3]] <| xu (jT h_1) ?_
 refine zz ?_
 refine xu (aAk h_4) ?_
 refine zz ?_
 obtain rfl := sj hr
 exact eY Tryz.results82 aW (zG [])
theorem aG4 {N : Nat} {va : List Int} {b : List Int} {r : (List Int)} (hr : xW N va b = some r) :
  Vm.Fn Tryz.prog 81 [] [(.agg (va.map (eI .u64))),(.agg (b.map (eI .u64)))] (.agg (r.map (eI .u64))) [] := by
 refine zf Tryz.func81 Tryz.ntmps81 ?_
 unfold xW at hr
 refine zz ?_
 refine AB.seq ?_
 obtain ⟨q,h_1,hr⟩ := aA hr
 obtain ⟨q_1,h_2,hr⟩ := aA hr
 obtain ⟨x7,h_3,hr⟩ := aA hr
 obtain ⟨x8,h_5,hr⟩ := aA hr
 obtain ⟨q_2,h_7,hr⟩ := aA hr
 refine AB.rs mixed [94,98] [] [[0,1,2,3,4]] ?_
 refine zz ?_
 refine xu (mL h_3) <| xu (uX h_5) ?_
 refine zz ?_
 obtain rfl := sj hr
 exact eY Tryz.results81 aW (zG [])
theorem aEL {N : Nat} {va : List Int} {r : (List Int)} (hr : tV N va = some r) :
  Vm.Fn Tryz.prog 118 [] [(.agg (va.map (eI .u64)))] (.agg (r.map (eI .u8))) [] := by
 refine zf Tryz.func118 Tryz.ntmps118 ?_
 unfold tV at hr
 refine zz ?_
 refine AB.seq_g fun K1 hK1 hG1 => ?_
 have J1 : ∀ (l1 : List Int),wH N l1 = some r → K1 (aE 24 [(2,(.ptr 0 0)),(3,(.ptr 1 0))]) [some ⟨25,(List.replicate 32 0).map (eI .u8)⟩,some ⟨25,l1.map (eI .u8)⟩] := by
  intro l1 hr
  unfold wH at hr
  refine hK1 _ _ ?_
  obtain ⟨q,h_1,hr⟩ := aA hr
  refine zz ?_
  obtain rfl := sj hr
  exact eY Tryz.results118 aW (zG [])
 obtain ⟨a9,hL2,hr⟩ := aA hr
 refine zz ?_
 refine AB.block <| AB.loopN (fun m s h => ∃ (x6 : Int) (l2 : List Int),iZ N va m x6 l2 = some a9 ∧ Ghost 0 s h (aE 24 [(1,(.ptr 0 0)),(2,(.ptr 1 0)),(3,(.ptr 2 0)),(6,(eI .i64 x6))]) [some ⟨96,va.map (eI .u64)⟩,some ⟨25,(List.replicate 32 0).map (eI .u8)⟩,some ⟨25,l2.map (eI .u8)⟩]) (n := N) ⟨0,List.replicate 32 0,hL2,(zG [0,1,2])⟩ (by rintro s h ⟨_,_,h0,_⟩; simp [iZ] at h0) ?_
 rintro m2 s h ⟨x6,l2,hr2,hg⟩
 refine AB.ghost hg ?_
 clear hg hL2
 rw [iZ] at hr2
 refine zz ?_
 refine AB.seq ?_
 refine zk hr2 rfl (fun h2 hr2 => ?_) (fun h2 hr2 => ?_)
 ·refine zz ?_
  refine AB.seq <| AB.block ?_
  obtain ⟨bC,h_3,hr2⟩ := aA hr2
  obtain ⟨x19,h_4,hr2⟩ := aA hr2
  obtain ⟨dI,h_5,hr2⟩ := aA hr2
  refine zz ?_
  exact ⟨IntKind.i64.wrap (x6 + 1),l2.set (Int.toNat x6) (IntKind.u8.wrap x19),hr2,(zG [0,1,2])⟩
 ·refine zz ?_
  obtain rfl := sj hr2
  refine zz ?_
  exact hG1 _ _ _ _ (zG [1,2]) (J1 l2 hr)
theorem aAA {N : Nat} {va : List Int} {r : (List Int)} (hr : pA N va = some r) :
  Vm.Fn Tryz.prog 102 [] [(.agg (va.map (eI .u64)))] (.row none 1 (r.map (eI .u8))) [] := by
 refine zf Tryz.func102 Tryz.ntmps102 ?_
 unfold pA at hr
 obtain ⟨q,h_1,hr⟩ := aA hr
 obtain ⟨x5,h_2,hr⟩ := aA hr
 obtain ⟨q_1,h_3,hr⟩ := aA hr
 refine zz ?_
 refine xp (aEL h_2) ?_
 refine zz ?_
 obtain rfl := sj hr
 exact eY Tryz.results102 aW (Ghost.trans (zv 1) (zG []))
theorem aDW {N : Nat} {tag : ByteArray} {b : List Int} {r : (List Int)} (hr : rS N tag b = some r) :
  Vm.Fn Tryz.prog 101 [] [(eS tag),(.row none 1 (b.map (eI .u8)))] (.agg (r.map (eI .u8))) [] := by
 refine zf Tryz.func101 Tryz.ntmps101 ?_
 unfold rS at hr
 obtain ⟨x7,h_1,hr⟩ := aA hr
 obtain ⟨x8,h_2,hr⟩ := aA hr
 obtain ⟨q,h_3,hr⟩ := aA hr
 refine zz ?_
 refine aNu (h' := [some ⟨25,(List.replicate 32 0).map (eI .u8)⟩,some ⟨5,x7.map (eI .u8)⟩]) rfl ti9 cG cZ h_1 rfl rfl <| zcL (aAg h_2) [] [1] ?_
 refine zz ?_
 refine AB.seq ?_
 obtain ⟨b8,h_4,hr⟩ := aA hr
 obtain ⟨eE,h_5,hr⟩ := aA hr
 obtain ⟨bC,h_6,hr⟩ := aA hr
 obtain ⟨x15,h_7,hr⟩ := aA hr
 obtain ⟨q_1,h_9,hr⟩ := aA hr
 refine AB.rs mixed [] [46] [[0,1,2,3,4,5,6,7]] ?_
 refine zz ?_
 refine zgL (aAg h_7) [] [6] ?_
 refine zz ?_
 obtain rfl := sj hr
 exact eY Tryz.results101 aW (zG [])
theorem aDI {N : Nat} {va : List Int} {b : List Int} {vm : List Int} {r : (List Int)} (hr : sH N va b vm = some r) :
  Vm.Fn Tryz.prog 130 [] [(.agg (va.map (eI .u64))),(.agg (b.map (eI .u64))),(.agg (vm.map (eI .u64)))] (.agg (r.map (eI .u64))) [] := by
 refine zf Tryz.func130 Tryz.ntmps130 ?_
 unfold sH at hr
 refine zz ?_
 refine AB.seq ?_
 obtain ⟨q,h_1,hr⟩ := aA hr
 obtain ⟨b8,h_2,hr⟩ := aA hr
 refine zz ?_
 refine xp (nB h_2) ?_
 refine zz ?_
 refine zk hr rfl (fun h3 hr => ?_) (fun h3 hr => ?_)
 ·refine zz ?_
  obtain rfl := sj hr
  exact eY Tryz.results130 aW (zG [])
 ·refine zz ?_
  refine AB.seq ?_
  obtain ⟨q_1,h_4,hr⟩ := aA hr
  obtain ⟨bC,h_5,hr⟩ := aA hr
  obtain ⟨q_2,h_7,hr⟩ := aA hr
  obtain ⟨x17,h_8,hr⟩ := aA hr
  obtain ⟨q_3,h_10,hr⟩ := aA hr
  obtain ⟨q_4,h_11,hr⟩ := aA hr
  refine AB.rs mixed [114] [] [[0,1,2,3,4,5,6,7]] ?_
  refine zz ?_
  refine xu (oD h_5) ?_
  refine zz ?_
  refine xu (oD h_8) ?_
  obtain ⟨dI,h_12,hr⟩ := aA hr
  obtain ⟨q_5,h_13,hr⟩ := aA hr
  refine zz ?_
  refine xp (aCn h_12) ?_
  refine zz ?_
  refine AB.seq_g fun K1 hK1 hG1 => ?_
  have J1 : ∀ (l1 : List Int),lF N l1 = some r → K1 (aE 38 [(6,(.ptr 0 0)),(7,(.ptr 1 0))]) [some ⟨96,(List.replicate 4 0).map (eI .u64)⟩,some ⟨96,l1.map (eI .u64)⟩] := by
   intro l1 hr
   unfold lF at hr
   refine hK1 _ _ ?_
   obtain ⟨q_6,h_14,hr⟩ := aA hr
   refine zz ?_
   obtain rfl := sj hr
   exact eY Tryz.results130 aW (zG [])
  refine AB.seq_g fun K2 hK2 hG2 => ?_
  have J2 : ∀ (lA : Bool),i7 N vm dI lA = some r → K2 (aE 38 [(5,(.ptr 0 0)),(6,(.ptr 1 0)),(7,(.ptr 2 0)),(30,(eB lA))]) [some ⟨96,vm.map (eI .u64)⟩,some ⟨96,(List.replicate 4 0).map (eI .u64)⟩,some ⟨96,dI.1.map (eI .u64)⟩] := by
   intro lA hr
   unfold i7 at hr
   refine hK2 _ _ ?_
   refine zk hr rfl (fun h15 hr => ?_) (fun h15 hr => ?_)
   ·obtain ⟨e8,h_16,hr⟩ := aA hr
    obtain ⟨q_7,h_17,hr⟩ := aA hr
    refine zz ?_
    refine xp (vL h_16) ?_
    refine zz ?_
    exact hG1 _ _ _ _ (zG [1,2]) (J1 e8.1 hr)
   ·refine zz ?_
    exact hG1 _ _ _ _ (zG [1,2]) (J1 dI.1 hr)
  rcases Bool.eq_false_or_eq_true dI.2 with h18 | h18
  ·replace hr := cV hr h18
   refine xr ?_
   refine zz ?_
   exact hG2 _ _ _ _ (zG [2,3,4]) (J2 true hr)
  ·replace hr := cU hr h18
   obtain ⟨x28,h_19,hr⟩ := aA hr
   refine xr ?_
   refine zz ?_
   refine z8 (v := (eI .i64 x28)) (h' := [some ⟨96,bC.map (eI .u64)⟩,some ⟨96,x17.map (eI .u64)⟩,some ⟨96,vm.map (eI .u64)⟩,some ⟨96,(List.replicate 4 0).map (eI .u64)⟩,some ⟨96,dI.1.map (eI .u64)⟩]) rfl rfl h18 rfl (Vm.Fn.pure (pM h_19) zR rfl) ?_
   refine zz ?_
   exact hG2 _ _ _ _ (zG [2,3,4]) (J2 (decide (0 ≤ x28)) hr)
theorem aCa {N : Nat} {va : List Int} {b : List Int} {r : (List Int)} (hr : nJ N va b = some r) :
  Vm.Fn Tryz.prog 117 [] [(.agg (va.map (eI .u64))),(.agg (b.map (eI .u64)))] (.agg (r.map (eI .u64))) [] := by
 refine zf Tryz.func117 Tryz.ntmps117 ?_
 unfold nJ at hr
 refine zz ?_
 refine AB.seq ?_
 obtain ⟨q,h_1,hr⟩ := aA hr
 obtain ⟨q_1,h_2,hr⟩ := aA hr
 obtain ⟨x7,h_3,hr⟩ := aA hr
 obtain ⟨x8,h_5,hr⟩ := aA hr
 obtain ⟨q_2,h_7,hr⟩ := aA hr
 refine AB.rs mixed [80,130] [] [[0,1,2,3,4]] ?_
 refine zz ?_
 refine xu (sV h_3) <| xu (aDI h_5) ?_
 refine zz ?_
 obtain rfl := sj hr
 exact eY Tryz.results117 aW (zG [])
theorem aDV {N : Nat} {vh : List Int} {r : (List Int)} (hr : rQ N vh = some r) :
  Vm.Fn Tryz.prog 100 [] [(.agg (vh.map (eI .u8)))] (.agg (r.map (eI .u64))) [] := by
 refine zf Tryz.func100 Tryz.ntmps100 ?_
 unfold rQ at hr
 obtain ⟨q,h_1,hr⟩ := aA hr
 obtain ⟨x4,h_2,hr⟩ := aA hr
 obtain ⟨x6,h_3,hr⟩ := aA hr
 obtain ⟨q_1,h_4,hr⟩ := aA hr
 refine zz ?_
 refine xp (nZ h_2) <| xw (v := (.agg ([0,0,0,0].map (eI .u64)))) (cF rfl (lO bV j7 rfl)) <| xp (aCa h_3) ?_
 refine zz ?_
 obtain rfl := sj hr
 exact eY Tryz.results100 aW (zG [])
theorem aB1 {N : Nat} {vr : List Int} {p : List Int} {vm : List Int} {r : (List Int)} (hr : nN N vr p vm = some r) :
  Vm.Fn Tryz.prog 84 [] [(.agg (vr.map (eI .u64))),(.agg (p.map (eI .u64))),(.agg (vm.map (eI .u8)))] (.agg (r.map (eI .u64))) [] := by
 refine zf Tryz.func84 Tryz.ntmps84 ?_
 unfold nN at hr
 refine zz ?_
 refine AB.seq ?_
 obtain ⟨q,h_1,hr⟩ := aA hr
 obtain ⟨x8,h_2,hr⟩ := aA hr
 obtain ⟨q_1,h_4,hr⟩ := aA hr
 obtain ⟨b8,h_5,hr⟩ := aA hr
 obtain ⟨q_2,h_7,hr⟩ := aA hr
 obtain ⟨cD,h_8,hr⟩ := aA hr
 obtain ⟨bC,h_10,hr⟩ := aA hr
 obtain ⟨x15,h_12,hr⟩ := aA hr
 obtain ⟨q_3,h_14,hr⟩ := aA hr
 refine AB.rs mixed [100,102] [34,101] [[0,1,2,3,4],[5,6,7,8,9]] ?_
 refine zz ?_
 refine xu (aAA h_2) ?_
 refine zz ?_
 refine xu (aAA h_5) ?_
 refine zz ?_
 refine ⟨_,_,(zv 2), ?_⟩
 refine zz ?_
 refine zgL (t7 h_8) [] [4] ?_
 refine zgL (aDW h_10) [] [5] ?_
 refine xu (aDV h_12) ?_
 refine zz ?_
 obtain rfl := sj hr
 exact eY Tryz.results84 aW (zG [])
theorem aD9 {N : Nat} {p : List Int} {vm : List Int} {s_E : List Int} {s_S : List Int} {r : Bool} (hr : r4 N p vm s_E s_S = some r) :
  Vm.Fn Tryz.prog 67 [] [(.agg (p.map (eI .u64))),(.agg (vm.map (eI .u8))),(.agg (cA (eI .u64) s_E (cA (eI .u64) s_S [])))] (eB r) [] := by
 refine zf Tryz.func67 Tryz.ntmps67 ?_
 unfold r4 at hr
 refine zz ?_
 refine AB.seq ?_
 refine AB.seq_g fun K1 hK1 hG1 => ?_
 have J1 : ∀ (fO : Bool),jE N p vm s_E s_S fO = some r → K1 (aE 46 [(3,(.ptr 0 0)),(4,(.ptr 1 0)),(5,(.ptr 2 0)),(24,(eB fO))]) [some ⟨96,p.map (eI .u64)⟩,some ⟨25,vm.map (eI .u8)⟩,some ⟨100,(cA (eI .u64) s_E (cA (eI .u64) s_S []))⟩] := by
  intro fO hr
  unfold jE at hr
  refine hK1 _ _ ?_
  refine zk hr rfl (fun h1 hr => ?_) (fun h1 hr => ?_)
  ·refine zz ?_
   obtain rfl := sj hr
   exact bH Tryz.results67 []
  ·refine zz ?_
   refine AB.seq ?_
   obtain ⟨x26,h_2,hr⟩ := aA hr
   obtain ⟨q,h_4,hr⟩ := aA hr
   obtain ⟨x29,h_5,hr⟩ := aA hr
   obtain ⟨q_1,h_7,hr⟩ := aA hr
   refine AB.rs mixed [79,80] [] [[0,1,2,3,4,5,6,7,8,9]] <| xu (sV h_2) ?_
   refine zz ?_
   refine xu (vL h_5) ?_
   refine zz ?_
   refine AB.seq ?_
   obtain ⟨q_2,h_8,hr⟩ := aA hr
   obtain ⟨e8,h_9,hr⟩ := aA hr
   obtain ⟨q_3,h_11,hr⟩ := aA hr
   obtain ⟨x37,h_12,hr⟩ := aA hr
   obtain ⟨x38,h_14,hr⟩ := aA hr
   obtain ⟨q_4,h_16,hr⟩ := aA hr
   refine AB.rs mixed [81,82,83] [] [[0,1,2,3,4,5,6,7,8]] ?_
   refine zz ?_
   refine xu (aEz h_9) ?_
   refine zz ?_
   refine xu (aAk h_12) <| xu (aG4 h_14) ?_
   refine zz ?_
   refine AB.seq ?_
   obtain ⟨q_5,h_17,hr⟩ := aA hr
   obtain ⟨x44,h_18,hr⟩ := aA hr
   obtain ⟨q_6,h_20,hr⟩ := aA hr
   refine AB.rs mixed [84] [] [[0,1,2,3,4,5,6,7]] ?_
   refine zz ?_
   refine xu (aB1 h_18) ?_
   refine zz ?_
   obtain rfl := sj hr
   exact bH Tryz.results67 []
 obtain ⟨q_7,h_21,hr⟩ := aA hr
 obtain ⟨bX,h_22,hr⟩ := aA hr
 rcases Bool.eq_false_or_eq_true (!bX) with h23 | h23
 ·replace hr := cV hr h23
  refine xr ?_
  refine zz ?_
  refine xp (sY h_22) ?_
  refine zz ?_
  refine xX rfl <| xX rfl <| xX rfl <| xX rfl ?_
  refine zz ?_
  exact hG1 _ _ _ _ (zG [0,1,2]) (J1 true hr)
 ·replace hr := cU hr h23
  obtain ⟨q_8,h_24,hr⟩ := aA hr
  obtain ⟨x16,h_25,hr⟩ := aA hr
  rcases Bool.eq_false_or_eq_true (!x16) with h26 | h26
  ·replace hr := cV hr h26
   refine xr ?_
   refine zz ?_
   refine xp (sY h_22) ?_
   refine zz ?_
   refine z8 (v := (eB x16)) (h' := [some ⟨96,p.map (eI .u64)⟩,some ⟨25,vm.map (eI .u8)⟩,some ⟨100,(cA (eI .u64) s_E (cA (eI .u64) s_S []))⟩]) rfl rfl h23 rfl (Vm.Fn.pure (l5 h_25) zR rfl) ?_
   refine zz ?_
   exact hG1 _ _ _ _ (zG [0,1,2]) (J1 true hr)
  ·replace hr := cU hr h26
   obtain ⟨q_9,h_27,hr⟩ := aA hr
   obtain ⟨bN,h_28,hr⟩ := aA hr
   refine xr ?_
   refine zz ?_
   refine xp (sY h_22) ?_
   refine zz ?_
   refine z8 (v := (eB x16)) (h' := [some ⟨96,p.map (eI .u64)⟩,some ⟨25,vm.map (eI .u8)⟩,some ⟨100,(cA (eI .u64) s_E (cA (eI .u64) s_S []))⟩]) rfl rfl h23 rfl (Vm.Fn.pure (l5 h_25) zR rfl) ?_
   refine zz ?_
   refine z8 (v := (eB bN)) (h' := [some ⟨96,p.map (eI .u64)⟩,some ⟨25,vm.map (eI .u8)⟩,some ⟨100,(cA (eI .u64) s_E (cA (eI .u64) s_S []))⟩]) rfl rfl h26 rfl (Vm.Fn.pure (l5 h_28) zR rfl) ?_
   refine zz ?_
   exact hG1 _ _ _ _ (zG [0,1,2]) (J1 (!bN) hr)
theorem aAy {N : Nat} {sig : List Int} {key : List Int} {vm : List Int} {r : Bool × Int} (hr : mN N sig key vm = some r) :
  Vm.Fn Tryz.prog 48 [] [(.row none 1 (sig.map (eI .u8))),(.row none 1 (key.map (eI .u8))),(.agg (vm.map (eI .u8)))] (.tup [(eB r.1),(eI .i64 r.2)]) [] := by
 refine zf Tryz.func48 Tryz.ntmps48 ?_
 unfold mN at hr
 refine zz ?_
 refine AB.seq ?_
 refine zz ?_
 refine zk hr rfl (fun h1 hr => ?_) (fun h1 hr => ?_)
 ·refine zz ?_
  obtain rfl := sj hr
  exact v5 Tryz.results48 []
 ·refine zz ?_
  refine xw (v := (eI .i64 ((min key.length (List.replicate 32 0).length : Nat) : Int))) (h' := [some ⟨25,vm.map (eI .u8)⟩,some ⟨25,(j9 (List.replicate 32 0) key).map (eI .u8)⟩]) (aAP rfl rfl (aEH (E := (eI .u8)) (l := List.replicate 32 0) rfl cG cZ rfl rfl (aAJ (fun _ => rfl)) rfl)) ?_
  obtain ⟨q,h_2,hr⟩ := aA hr
  obtain ⟨x19,h_3,hr⟩ := aA hr
  obtain ⟨q_1,h_4,hr⟩ := aA hr
  refine zz ?_
  refine xp (nZ h_3) ?_
  refine zz ?_
  refine AB.seq ?_
  obtain ⟨dI,h_5,hr⟩ := aA hr
  refine zz ?_
  refine xp (sY h_5) ?_
  refine zz ?_
  refine zk hr rfl (fun h6 hr => ?_) (fun h6 hr => ?_)
  ·refine zz ?_
   obtain rfl := sj hr
   exact v5 Tryz.results48 []
  ·refine zz ?_
   refine AB.seq ?_
   refine zz ?_
   refine zk hr rfl (fun h7 hr => ?_) (fun h7 hr => ?_)
   ·refine zz ?_
    obtain rfl := sj hr
    exact v5 Tryz.results48 []
   ·obtain ⟨x28,h_8,hr⟩ := aA hr
    refine zz ?_
    refine xp (aEi h_8) ?_
    refine zz ?_
    refine xw (v := (.ptr 3 0)) (h' := [some ⟨25,vm.map (eI .u8)⟩,some ⟨25,(j9 (List.replicate 32 0) key).map (eI .u8)⟩,some ⟨96,x19.map (eI .u64)⟩,some ⟨100,(cA (eI .u64) (List.replicate 4 0) (cA (eI .u64) (List.replicate 4 0) []))⟩]) (iC nO rfl rfl rfl) ?_
    refine zz ?_
    refine AB.seq ?_
    refine AB.seq_g fun K1 hK1 hG1 => ?_
    have J1 : ∀ (x39 : Bool),nG N x39 = some r → K1 (aE 40 [(39,(eB x39))]) [] := by
     intro x39 hr
     unfold nG at hr
     refine hK1 _ _ ?_
     refine zk hr rfl (fun h9 hr => ?_) (fun h9 hr => ?_)
     ·refine zz ?_
      obtain rfl := sj hr
      exact v5 Tryz.results48 []
     ·refine zz ?_
      obtain rfl := sj hr
      exact v5 Tryz.results48 []
    rcases Bool.eq_false_or_eq_true (x28.2.2 != 0) with h10 | h10
    ·replace hr := cV hr h10
     refine xr ?_
     refine zz ?_
     exact hG1 _ _ _ _ (zG []) (J1 true hr)
    ·replace hr := cU hr h10
     obtain ⟨q_2,h_11,hr⟩ := aA hr
     obtain ⟨x37,h_12,hr⟩ := aA hr
     refine xr ?_
     refine zz ?_
     refine z8 (v := (eB x37)) (h' := [some ⟨25,vm.map (eI .u8)⟩,some ⟨25,(j9 (List.replicate 32 0) key).map (eI .u8)⟩,some ⟨96,x19.map (eI .u64)⟩,some ⟨100,(cA (eI .u64) x28.1 (cA (eI .u64) x28.2.1 []))⟩]) rfl rfl h10 rfl (Vm.Fn.pure (aD9 h_12) zR rfl) ?_
     refine zz ?_
     exact hG1 _ _ _ _ (zG []) (J1 (!x37) hr)
theorem aE1 {N : Nat} {aJ : Int} {aX : List Int} {o_M : Int} {o_N : Int} {nI : List (List Int)} {vm : List Int} {r : Bool × Int} (hr : tQ N aJ aX o_M o_N nI vm = some r) :
  Vm.Fn Tryz.prog 49 [] [(.agg [(eI .i64 aJ),(.row none 1 (aX.map (eI .u8))),(eI .i64 o_M),(eI .i64 o_N)]),(.row none 1 (nI.map (eL 1 (eI .u8)))),(.agg (vm.map (eI .u8)))] (.tup [(eB r.1),(eI .i64 r.2)]) [] := by
 refine zf Tryz.func49 Tryz.ntmps49 ?_
 unfold tQ at hr
 refine zz ?_
 refine AB.seq_g fun K1 hK1 hG1 => ?_
 have J1 : ∀ (vn : Int),wE N aJ aX o_M o_N vn = some r → K1 (aE 44 [(3,(.ptr 0 0)),(8,(eI .i64 vn))]) [some ⟨46,[(eI .i64 aJ),(.row none 1 (aX.map (eI .u8))),(eI .i64 o_M),(eI .i64 o_N)]⟩] := by
  intro vn hr
  unfold wE at hr
  refine hK1 _ _ ?_
  refine zz ?_
  obtain rfl := sj hr
  exact v5 Tryz.results49 []
 obtain ⟨a9,hL2,hr⟩ := aA hr
 refine zz ?_
 refine AB.block <| AB.loopN (fun m s h => ∃ (cX : Int) (vi : Int),gV N aJ aX o_M o_N nI vm m cX vi = some a9 ∧ Ghost 0 s h (aE 44 [(1,(.row none 1 (nI.map (eL 1 (eI .u8))))),(3,(.ptr 0 0)),(5,(.ptr 1 0)),(8,(eI .i64 cX)),(9,(eI .i64 vi))]) [some ⟨46,[(eI .i64 aJ),(.row none 1 (aX.map (eI .u8))),(eI .i64 o_M),(eI .i64 o_N)]⟩,some ⟨25,vm.map (eI .u8)⟩]) (n := N) ⟨0,0,hL2,(zG [0,1])⟩ (by rintro s h ⟨_,_,h0,_⟩; simp [gV] at h0) ?_
 rintro m2 s h ⟨cX,vi,hr2,hg⟩
 refine AB.ghost hg ?_
 clear hg hL2
 rw [gV] at hr2
 refine AB.seq ?_
 refine zz ?_
 refine zk hr2 rfl (fun h1 hr2 => ?_) (fun h1 hr2 => ?_)
 ·refine zz ?_
  refine AB.seq_g fun K3 hK3 hG3 => ?_
  have J3 : ∀ (yN : Int),o7 N aJ aX o_M o_N nI vm vi (gV N aJ aX o_M o_N nI vm m2) yN = some a9 → K3 (aE 44 [(1,(.row none 1 (nI.map (eL 1 (eI .u8))))),(3,(.ptr 0 0)),(5,(.ptr 1 0)),(8,(eI .i64 yN)),(9,(eI .i64 vi))]) [some ⟨46,[(eI .i64 aJ),(.row none 1 (aX.map (eI .u8))),(eI .i64 o_M),(eI .i64 o_N)]⟩,some ⟨25,vm.map (eI .u8)⟩] := by
   intro yN hr2
   unfold o7 at hr2
   refine hK3 _ _ ?_
   refine zz ?_
   exact ⟨yN,IntKind.i64.wrap (vi + 1),hr2,(zG [0,1])⟩
  refine AB.block <| AB.seq ?_
  obtain ⟨dI,h_2,hr2⟩ := aA hr2
  obtain ⟨x28,h_3,hr2⟩ := aA hr2
  obtain ⟨q,h_4,hr2⟩ := aA hr2
  obtain ⟨dL,h_5,hr2⟩ := aA hr2
  refine AB.rs mixed [48] [] [[0,1,2,3,4,5,6,7,8,9,10,11,12,13,14,15,16,17]] ?_
  refine zz ?_
  refine xu (aAy h_5) ?_
  refine zz ?_
  refine AB.seq ?_
  refine zz ?_
  refine zk hr2 rfl (fun h7 hr2 => ?_) (fun h7 hr2 => ?_)
  ·refine zz ?_
   obtain rfl := sj hr2
   obtain rfl := sj hr
   exact v5 Tryz.results49 []
  ·refine zz ?_
   refine zk hr2 rfl (fun h8 hr2 => ?_) (fun h8 hr2 => ?_)
   ·refine zz ?_
    exact hG3 _ _ _ _ (zG [0,1]) (J3 (IntKind.i64.wrap (cX + 1)) hr2)
   ·refine zz ?_
    exact hG3 _ _ _ _ (zG [0,1]) (J3 cX hr2)
 ·refine zz ?_
  obtain rfl := sj hr2
  refine zz ?_
  exact hG1 _ _ _ _ (zG [0]) (J1 cX hr)
theorem aEr {N : Nat} {b : List Int} {r : Int × Int} (hr : rT N b = some r) :
  Vm.Fn Tryz.prog 68 [] [(.row none 1 (b.map (eI .u8)))] (.tup [(eI .u32 r.1),(eI .i64 r.2)]) [] := by
 refine zf Tryz.func68 Tryz.ntmps68 ?_
 unfold rT at hr
 refine zz ?_
 refine AB.seq ?_
 refine AB.seq_g fun K1 hK1 hG1 => ?_
 have J1 : ∀ (bN : Bool),jF N b bN = some r → K1 (aE 40 [(0,(.row none 1 (b.map (eI .u8)))),(22,(eB bN))]) [] := by
  intro bN hr
  unfold jF at hr
  refine hK1 _ _ ?_
  refine zk hr rfl (fun h1 hr => ?_) (fun h1 hr => ?_)
  ·refine zz ?_
   obtain rfl := sj hr
   exact v5 Tryz.results68 []
  ·refine zz ?_
   refine AB.seq_g fun K2 hK2 hG2 => ?_
   have J2 : ∀ (vn : Int),vT N vn = some r → K2 (aE 40 [(4,(eI .u32 vn))]) [] := by
    intro vn hr
    unfold vT at hr
    refine hK2 _ _ ?_
    refine zz ?_
    obtain rfl := sj hr
    exact v5 Tryz.results68 []
   obtain ⟨tH,hL3,hr⟩ := aA hr
   refine zz ?_
   refine AB.block <| AB.loopN (fun m s h => ∃ (cX : Int) (x25 : Int),jQ N b m cX x25 = some tH ∧ Ghost 0 s h (aE 40 [(0,(.row none 1 (b.map (eI .u8)))),(4,(eI .u32 cX)),(24,(eI .i64 (b.length : Int))),(25,(eI .i64 x25))]) []) (n := N) ⟨0,0,hL3,(zG [])⟩ (by rintro s h ⟨_,_,h0,_⟩; simp [jQ] at h0) ?_
   rintro m3 s h ⟨cX,x25,hr3,hg⟩
   refine AB.ghost hg ?_
   clear hg hL3
   rw [jQ] at hr3
   refine zz ?_
   refine AB.seq ?_
   refine zk hr3 rfl (fun h2 hr3 => ?_) (fun h2 hr3 => ?_)
   ·refine zz ?_
    refine AB.seq <| AB.block ?_
    obtain ⟨dL,h_3,hr3⟩ := aA hr3
    obtain ⟨x36,h_4,hr3⟩ := aA hr3
    refine zz ?_
    exact ⟨bits .or .u32 cX x36,IntKind.i64.wrap (x25 + 1),hr3,(zG [])⟩
   ·refine zz ?_
    obtain rfl := sj hr3
    refine zz ?_
    exact hG2 _ _ _ _ (zG []) (J2 cX hr)
 rcases Bool.eq_false_or_eq_true (decide (4 < (b.length : Int))) with h5 | h5
 ·replace hr := cV hr h5
  refine xr ?_
  refine zz ?_
  exact hG1 _ _ _ _ (zG []) (J1 true hr)
 ·replace hr := cU hr h5
  rcases Bool.eq_false_or_eq_true (decide (0 < (b.length : Int))) with h6 | h6
  ·replace hr := cV hr h6
   obtain ⟨x18,h_7,hr⟩ := aA hr
   refine xr ?_
   refine zz ?_
   exact hG1 _ _ _ _ (zG []) (J1 (x18 == 0) hr)
  ·replace hr := cU hr h6
   refine xr ?_
   refine zz ?_
   exact hG1 _ _ _ _ (zG []) (J1 false hr)
theorem aAt {N : Nat} {eF : List Int} {now : Int} {r : Int} (hr : pE N eF now = some r) :
  Vm.Fn Tryz.prog 50 [] [(.row none 1 (eF.map (eI .u8))),(eI .i64 now)] (eI .i64 r) [] := by
 refine zf Tryz.func50 Tryz.ntmps50 ?_
 unfold pE at hr
 obtain ⟨x9,h_1,hr⟩ := aA hr
 refine zz ?_
 refine xp (aEr h_1) ?_
 refine zz ?_
 refine AB.seq ?_
 refine zz ?_
 refine zk hr rfl (fun h2 hr => ?_) (fun h2 hr => ?_)
 ·refine zz ?_
  obtain rfl := sj hr
  exact bH Tryz.results50 []
 ·refine zz ?_
  refine AB.seq ?_
  refine zz ?_
  refine zk hr rfl (fun h3 hr => ?_) (fun h3 hr => ?_)
  ·refine zz ?_
   obtain rfl := sj hr
   exact bH Tryz.results50 []
  ·refine zz ?_
   obtain rfl := sj hr
   exact bH Tryz.results50 []
theorem aFX {N : Nat} {aJ : Int} {aX : List Int} {o_M : Int} {o_N : Int} {vs : List (List Int)} {aO : List Int} {aT : Int} {bG : Int} {r : (List (List Int)) × Int} (hr : v6 N aJ aX o_M o_N vs aO aT bG = some r) :
  Vm.Fn Tryz.prog 31 [] [(.agg [(eI .i64 aJ),(.row none 1 (aX.map (eI .u8))),(eI .i64 o_M),(eI .i64 o_N)]),(.row none 1 (vs.map (eL 1 (eI .u8)))),(.agg (bL (eI .u8) aO [(eI .i64 aT),(eI .i64 bG)]))] (.tup [(.row none 1 (r.1.map (eL 1 (eI .u8)))),(eI .i64 r.2)]) [] := by
 refine zf Tryz.func31 Tryz.ntmps31 ?_
 unfold v6 at hr
 refine zz ?_
 refine AB.seq ?_
 refine zz ?_
 refine AB.block ?_
 refine zz ?_
 refine zk hr rfl (fun h1 hr => ?_) (fun h1 hr => ?_)
 ·obtain ⟨x25,h_2,hr⟩ := aA hr
  obtain ⟨x26,h_3,hr⟩ := aA hr
  refine zz ?_
  refine zcL (t7 h_2) [] [2] ?_
  refine OpsX.ghost (zv 3) ?_
  refine zc (vE h_3) [] ?_
  refine zz ?_
  obtain rfl := sj hr
  exact nQ Tryz.results31 aW aW (Ghost.trans (Ghost.conv (fr' := [(0,(.tup [(.row none 1 (x26.1.map (eL 1 (eI .u8)))),(eI .i64 x26.2)]))]) (h' := [some ⟨46,[(eI .i64 aJ),(.row none 1 (aX.map (eI .u8))),(eI .i64 o_M),(eI .i64 o_N)]⟩,some ⟨27,(bL (eI .u8) aO [(eI .i64 aT),(eI .i64 bG)])⟩,some ⟨31,[aX].map (eL 1 (eI .u8))⟩,none,none]) (FCv.cons rfl (Conv.tup (Convs.cons (Conv.row (aI rfl) rfl rfl (eJ (fun _ => rfl)) (by first | rfl | (simp only [List.length_map,bK,bJ]; done))) (Convs.cons (Conv.same (aI rfl)) Convs.nil))) FCv.nil) (HCv.live (Convs.same (aI rfl)) rfl (HCv.live (Convs.same (aI rfl)) rfl (HCv.live (Convs.same (aI rfl)) (all_map (fun _ => rfl) _) (HCv.dead (HCv.dead HCv.nil)))))) (zG []))
 ·refine zz ?_
  refine zk hr rfl (fun h4 hr => ?_) (fun h4 hr => ?_)
  ·obtain ⟨x35,h_5,hr⟩ := aA hr
   obtain ⟨x37,h_6,hr⟩ := aA hr
   refine zz ?_
   refine zc (vE h_6) [] ?_
   refine zz ?_
   obtain rfl := sj hr
   exact nQ Tryz.results31 aW aW (Ghost.trans (Ghost.conv (fr' := [(0,(.tup [(.row none 1 (x37.1.map (eL 1 (eI .u8)))),(eI .i64 x37.2)]))]) (h' := [some ⟨46,[(eI .i64 aJ),(.row none 1 (aX.map (eI .u8))),(eI .i64 o_M),(eI .i64 o_N)]⟩,some ⟨27,(bL (eI .u8) aO [(eI .i64 aT),(eI .i64 bG)])⟩,none]) (FCv.cons rfl (Conv.tup (Convs.cons (Conv.row (aI rfl) rfl rfl (eJ (fun _ => rfl)) (by first | rfl | (simp only [List.length_map,bK,bJ]; done))) (Convs.cons (Conv.same (aI rfl)) Convs.nil))) FCv.nil) (HCv.live (Convs.same (aI rfl)) rfl (HCv.live (Convs.same (aI rfl)) rfl (HCv.dead HCv.nil)))) (zG []))
  ·refine zz ?_
   refine zk hr rfl (fun h7 hr => ?_) (fun h7 hr => ?_)
   ·obtain ⟨x45,h_8,hr⟩ := aA hr
    refine zz ?_
    obtain rfl := sj hr
    exact v5 Tryz.results31 []
   ·refine zz ?_
    refine zk hr rfl (fun h9 hr => ?_) (fun h9 hr => ?_)
    ·refine AB.seq ?_
     obtain ⟨x53,h_10,hr⟩ := aA hr
     obtain ⟨x57,h_11,hr⟩ := aA hr
     obtain ⟨x62,h_12,hr⟩ := aA hr
     obtain ⟨x65,h_13,hr⟩ := aA hr
     refine AB.rs mixed [] [] [[0,1,2,3,4,5,6,7,8,9,10,11,12,13,14,15,16,17,18,19]] ?_
     refine zz ?_
     obtain rfl := sj hr
     exact nQ Tryz.results31 aW aW (Ghost.trans (Ghost.conv (fr' := [(0,(.tup [(.row none 1 (x65.map (eL 1 (eI .u8)))),(eI .i64 0)]))]) (h' := [some ⟨46,[(eI .i64 aJ),(.row none 1 (aX.map (eI .u8))),(eI .i64 o_M),(eI .i64 o_N)]⟩,some ⟨27,(bL (eI .u8) aO [(eI .i64 aT),(eI .i64 bG)])⟩,some ⟨31,[x57,x62].map (eL 1 (eI .u8))⟩,none]) (FCv.cons rfl (Conv.tup (Convs.cons (Conv.row (aI rfl) rfl rfl (eJ (fun _ => rfl)) (by first | rfl | (simp only [List.length_map,bK,bJ]; done))) (Convs.cons (Conv.same (aI rfl)) Convs.nil))) FCv.nil) (HCv.live (Convs.same (aI rfl)) rfl (HCv.live (Convs.same (aI rfl)) rfl (HCv.live (Convs.same (aI rfl)) (all_map (fun _ => rfl) _) (HCv.dead HCv.nil))))) (zG []))
    ·refine zz ?_
     refine zk hr rfl (fun h14 hr => ?_) (fun h14 hr => ?_)
     ·refine AB.seq ?_
      obtain ⟨x73,h_15,hr⟩ := aA hr
      obtain ⟨x77,h_16,hr⟩ := aA hr
      obtain ⟨x82,h_17,hr⟩ := aA hr
      obtain ⟨x84,h_18,hr⟩ := aA hr
      obtain ⟨x85,h_20,hr⟩ := aA hr
      obtain ⟨x87,h_22,hr⟩ := aA hr
      refine AB.rs mixed [32,45] [] [[0,1,2,3,4,5,6,7,8,9,10,11,12,13,14,15,16,17,18,19,20,21]] ?_
      refine zz ?_
      refine xu (aBP h_18) <| xu (sW h_20) ?_
      refine zz ?_
      obtain rfl := sj hr
      exact nQ Tryz.results31 aW aW (Ghost.trans (Ghost.conv (fr' := [(0,(.tup [(.row none 1 (x87.map (eL 1 (eI .u8)))),(eI .i64 0)]))]) (h' := [some ⟨46,[(eI .i64 aJ),(.row none 1 (aX.map (eI .u8))),(eI .i64 o_M),(eI .i64 o_N)]⟩,some ⟨27,(bL (eI .u8) aO [(eI .i64 aT),(eI .i64 bG)])⟩,some ⟨31,[x85].map (eL 1 (eI .u8))⟩,none]) (FCv.cons rfl (Conv.tup (Convs.cons (Conv.row (aI rfl) rfl rfl (eJ (fun _ => rfl)) (by first | rfl | (simp only [List.length_map,bK,bJ]; done))) (Convs.cons (Conv.same (aI rfl)) Convs.nil))) FCv.nil) (HCv.live (Convs.same (aI rfl)) rfl (HCv.live (Convs.same (aI rfl)) rfl (HCv.live (Convs.same (aI rfl)) (all_map (fun _ => rfl) _) (HCv.dead HCv.nil))))) (zG []))
     ·refine zz ?_
      refine zk hr rfl (fun h23 hr => ?_) (fun h23 hr => ?_)
      ·refine AB.seq ?_
       obtain ⟨x95,h_24,hr⟩ := aA hr
       obtain ⟨x99,h_25,hr⟩ := aA hr
       obtain ⟨aNG,h_26,hr⟩ := aA hr
       obtain ⟨aDe,h_28,hr⟩ := aA hr
       obtain ⟨aKU,h_30,hr⟩ := aA hr
       refine AB.rs mixed [30,45] [] [[0,1,2,3,4,5,6,7,8,9,10,11,12,13,14,15,16,17]] ?_
       refine zz ?_
       refine xu (uC h_26) ?_
       refine zz ?_
       refine xu (sW h_28) ?_
       refine zz ?_
       obtain rfl := sj hr
       exact nQ Tryz.results31 aW aW (Ghost.trans (Ghost.conv (fr' := [(0,(.tup [(.row none 1 (aKU.map (eL 1 (eI .u8)))),(eI .i64 0)]))]) (h' := [some ⟨46,[(eI .i64 aJ),(.row none 1 (aX.map (eI .u8))),(eI .i64 o_M),(eI .i64 o_N)]⟩,some ⟨27,(bL (eI .u8) aO [(eI .i64 aT),(eI .i64 bG)])⟩,some ⟨31,[aDe].map (eL 1 (eI .u8))⟩,none]) (FCv.cons rfl (Conv.tup (Convs.cons (Conv.row (aI rfl) rfl rfl (eJ (fun _ => rfl)) (by first | rfl | (simp only [List.length_map,bK,bJ]; done))) (Convs.cons (Conv.same (aI rfl)) Convs.nil))) FCv.nil) (HCv.live (Convs.same (aI rfl)) rfl (HCv.live (Convs.same (aI rfl)) rfl (HCv.live (Convs.same (aI rfl)) (all_map (fun _ => rfl) _) (HCv.dead HCv.nil))))) (zG []))
      ·refine zz ?_
       refine zk hr rfl (fun h31 hr => ?_) (fun h31 hr => ?_)
       ·refine AB.seq ?_
        obtain ⟨aGM,h_32,hr⟩ := aA hr
        obtain ⟨aCi,h_33,hr⟩ := aA hr
        refine zz ?_
        refine xp (uC h_33) ?_
        refine zz ?_
        refine zk hr rfl (fun h34 hr => ?_) (fun h34 hr => ?_)
        ·refine zz ?_
         obtain rfl := sj hr
         exact nQ Tryz.results31 aW aW (lT [])
        ·obtain ⟨yH,h_35,hr⟩ := aA hr
         refine zz ?_
         obtain rfl := sj hr
         exact v5 Tryz.results31 []
       ·refine zz ?_
        refine zk hr rfl (fun h36 hr => ?_) (fun h36 hr => ?_)
        ·obtain ⟨aEC,h_37,hr⟩ := aA hr
         obtain ⟨aCb,h_38,hr⟩ := aA hr
         obtain ⟨q,h_39,hr⟩ := aA hr
         refine zz ?_
         refine xp (aAg h_38) ?_
         refine zz ?_
         refine AB.seq <| AB.ghost (zv 2) ?_
         obtain ⟨aNS,h_40,hr⟩ := aA hr
         obtain ⟨aLj,h_41,hr⟩ := aA hr
         refine AB.rs mixed [] [] [[0,1,2,3,4,5,6,7,8,9,10]] ?_
         refine zz ?_
         obtain rfl := sj hr
         exact nQ Tryz.results31 aW aW (Ghost.trans (Ghost.conv (fr' := [(0,(.tup [(.row none 1 (aLj.map (eL 1 (eI .u8)))),(eI .i64 0)]))]) (h' := [some ⟨46,[(eI .i64 aJ),(.row none 1 (aX.map (eI .u8))),(eI .i64 o_M),(eI .i64 o_N)]⟩,some ⟨27,(bL (eI .u8) aO [(eI .i64 aT),(eI .i64 bG)])⟩,none,some ⟨31,[aCb].map (eL 1 (eI .u8))⟩,none]) (FCv.cons rfl (Conv.tup (Convs.cons (Conv.row (aI rfl) rfl rfl (eJ (fun _ => rfl)) (by first | rfl | (simp only [List.length_map,bK,bJ]; done))) (Convs.cons (Conv.same (aI rfl)) Convs.nil))) FCv.nil) (HCv.live (Convs.same (aI rfl)) rfl (HCv.live (Convs.same (aI rfl)) rfl (HCv.dead (HCv.live (Convs.same (aI rfl)) (all_map (fun _ => rfl) _) (HCv.dead HCv.nil)))))) (zG []))
        ·refine zz ?_
         refine zk hr rfl (fun h42 hr => ?_) (fun h42 hr => ?_)
         ·obtain ⟨aNh,h_43,hr⟩ := aA hr
          obtain ⟨aNp,h_44,hr⟩ := aA hr
          obtain ⟨aB8,h_45,hr⟩ := aA hr
          refine zz ?_
          refine zc (yJ h_44) [] ?_
          refine OpsX.ghost (zv 2) ?_
          refine zc (vE h_45) [] ?_
          refine zz ?_
          obtain rfl := sj hr
          exact nQ Tryz.results31 aW aW (Ghost.trans (Ghost.conv (fr' := [(0,(.tup [(.row none 1 (aB8.1.map (eL 1 (eI .u8)))),(eI .i64 aB8.2)]))]) (h' := [some ⟨46,[(eI .i64 aJ),(.row none 1 (aX.map (eI .u8))),(eI .i64 o_M),(eI .i64 o_N)]⟩,some ⟨27,(bL (eI .u8) aO [(eI .i64 aT),(eI .i64 bG)])⟩,none,none]) (FCv.cons rfl (Conv.tup (Convs.cons (Conv.row (aI rfl) rfl rfl (eJ (fun _ => rfl)) (by first | rfl | (simp only [List.length_map,bK,bJ]; done))) (Convs.cons (Conv.same (aI rfl)) Convs.nil))) FCv.nil) (HCv.live (Convs.same (aI rfl)) rfl (HCv.live (Convs.same (aI rfl)) rfl (HCv.dead (HCv.dead HCv.nil))))) (zG []))
         ·refine zz ?_
          refine zk hr rfl (fun h46 hr => ?_) (fun h46 hr => ?_)
          ·refine AB.seq ?_
           obtain ⟨aNC,h_47,hr⟩ := aA hr
           obtain ⟨aNv,h_48,hr⟩ := aA hr
           obtain ⟨q_1,h_49,hr⟩ := aA hr
           obtain ⟨aIL,h_50,hr⟩ := aA hr
           refine AB.rs mixed [48] [] [[0,1,2,3,4,5,6,7,8,9,10,11,12,13,14,15,16,17]] ?_
           refine zz ?_
           refine xu (aAy h_50) ?_
           refine zz ?_
           refine AB.seq ?_
           obtain ⟨aM2,h_52,hr⟩ := aA hr
           obtain ⟨aLi,h_53,hr⟩ := aA hr
           obtain ⟨aKG,h_55,hr⟩ := aA hr
           refine AB.rs mixed [45] [] [[0,1,2,3,4,5,6,7,8,9,10,11,12]] ?_
           refine zz ?_
           refine xu (sW h_53) ?_
           refine zz ?_
           obtain rfl := sj hr
           exact nQ Tryz.results31 aW aW (Ghost.trans (Ghost.conv (fr' := [(0,(.tup [(.row none 1 (aKG.map (eL 1 (eI .u8)))),(eI .i64 aIL.2)]))]) (h' := [some ⟨46,[(eI .i64 aJ),(.row none 1 (aX.map (eI .u8))),(eI .i64 o_M),(eI .i64 o_N)]⟩,some ⟨27,(bL (eI .u8) aO [(eI .i64 aT),(eI .i64 bG)])⟩,some ⟨31,[aLi].map (eL 1 (eI .u8))⟩,none]) (FCv.cons rfl (Conv.tup (Convs.cons (Conv.row (aI rfl) rfl rfl (eJ (fun _ => rfl)) (by first | rfl | (simp only [List.length_map,bK,bJ]; done))) (Convs.cons (Conv.same (aI rfl)) Convs.nil))) FCv.nil) (HCv.live (Convs.same (aI rfl)) rfl (HCv.live (Convs.same (aI rfl)) rfl (HCv.live (Convs.same (aI rfl)) (all_map (fun _ => rfl) _) (HCv.dead HCv.nil))))) (zG []))
          ·refine zz ?_
           refine zk hr rfl (fun h56 hr => ?_) (fun h56 hr => ?_)
           ·refine zz ?_
            refine AB.seq ?_
            obtain ⟨aM4,h_57,hr⟩ := aA hr
            obtain ⟨q_2,h_58,hr⟩ := aA hr
            obtain ⟨aIR,h_59,hr⟩ := aA hr
            refine AB.rs mixed [49] [] [[0,1,2,3,4,5,6,7,8,9,10,11]] ?_
            refine zz ?_
            refine xu (aE1 h_59) ?_
            refine zz ?_
            refine AB.seq ?_
            obtain ⟨aM8,h_61,hr⟩ := aA hr
            obtain ⟨aKf,h_62,hr⟩ := aA hr
            obtain ⟨aLg,h_64,hr⟩ := aA hr
            refine AB.rs mixed [45] [] [[0,1,2,3,4,5,6,7,8,9,10]] ?_
            refine zz ?_
            refine xu (sW h_62) ?_
            refine zz ?_
            obtain rfl := sj hr
            exact nQ Tryz.results31 aW aW (Ghost.trans (Ghost.conv (fr' := [(0,(.tup [(.row none 1 (aLg.map (eL 1 (eI .u8)))),(eI .i64 aIR.2)]))]) (h' := [some ⟨46,[(eI .i64 aJ),(.row none 1 (aX.map (eI .u8))),(eI .i64 o_M),(eI .i64 o_N)]⟩,some ⟨27,(bL (eI .u8) aO [(eI .i64 aT),(eI .i64 bG)])⟩,some ⟨31,[aKf].map (eL 1 (eI .u8))⟩,none]) (FCv.cons rfl (Conv.tup (Convs.cons (Conv.row (aI rfl) rfl rfl (eJ (fun _ => rfl)) (by first | rfl | (simp only [List.length_map,bK,bJ]; done))) (Convs.cons (Conv.same (aI rfl)) Convs.nil))) FCv.nil) (HCv.live (Convs.same (aI rfl)) rfl (HCv.live (Convs.same (aI rfl)) rfl (HCv.live (Convs.same (aI rfl)) (all_map (fun _ => rfl) _) (HCv.dead HCv.nil))))) (zG []))
           ·refine zz ?_
            refine zk hr rfl (fun h65 hr => ?_) (fun h65 hr => ?_)
            ·refine AB.seq ?_
             obtain ⟨aMX,h_66,hr⟩ := aA hr
             obtain ⟨aNR,h_67,hr⟩ := aA hr
             refine AB.rs mixed [50] [] [[0,1,2,3,4,5,6,7,8,9,10]] ?_
             refine zz ?_
             refine xu (aAt h_67) ?_
             refine zz ?_
             obtain rfl := sj hr
             exact v5 Tryz.results31 []
            ·refine zz ?_
             refine zk hr rfl (fun h69 hr => ?_) (fun h69 hr => ?_)
             ·refine AB.seq ?_
              obtain ⟨aNl,h_70,hr⟩ := aA hr
              obtain ⟨aNf,h_71,hr⟩ := aA hr
              refine AB.rs mixed [50] [] [[0,1,2,3,4,5,6,7,8,9,10]] ?_
              refine zz ?_
              refine xu (aAt h_71) ?_
              refine zz ?_
              obtain rfl := sj hr
              exact v5 Tryz.results31 []
             ·refine zz ?_
              obtain rfl := sj hr
              exact nQ Tryz.results31 aW aW (lT [])
theorem aCd {N : Nat} {b : List Int} {stack : List (List Int)} {aO : List Int} {aT : Int} {bG : Int} {r : (List (List Int)) × Int × Int} (hr : uN N b stack aO aT bG = some r) :
  Vm.Fn Tryz.prog 10 [] [(.row none 1 (b.map (eI .u8))),(.row none 1 (stack.map (eL 1 (eI .u8)))),(.agg (bL (eI .u8) aO [(eI .i64 aT),(eI .i64 bG)]))] (.tup [(.row none 1 (r.1.map (eL 1 (eI .u8)))),(eI .i64 r.2.1),(eI .i64 r.2.2)]) [] := by
 refine zf Tryz.func10 Tryz.ntmps10 ?_
 unfold uN at hr
 obtain ⟨bE,h_1,hr⟩ := aA hr
 refine zz ?_
 refine zc (aEO h_1) [] ?_
 refine zz ?_
 refine AB.seq ?_
 refine zz ?_
 refine zk hr rfl (fun h2 hr => ?_) (fun h2 hr => ?_)
 ·refine zz ?_
  obtain rfl := sj hr
  exact rN Tryz.results10 aW aW aW (lT [])
 ·refine zz ?_
  refine AB.seq ?_
  obtain ⟨x27,h_3,hr⟩ := aA hr
  refine zz ?_
  refine zcL (aDD h_3) [] [1] ?_
  refine zz ?_
  refine zk hr rfl (fun h4 hr => ?_) (fun h4 hr => ?_)
  ·refine zz ?_
   obtain rfl := sj hr
   exact rN Tryz.results10 aW aW aW (lT [])
  ·refine zz ?_
   refine AB.seq ?_
   obtain ⟨lA,h_5,hr⟩ := aA hr
   refine zz ?_
   refine xp (aFY h_5) ?_
   refine zz ?_
   refine zk hr rfl (fun h6 hr => ?_) (fun h6 hr => ?_)
   ·refine zz ?_
    obtain rfl := sj hr
    exact rN Tryz.results10 aW aW aW (lT [])
   ·obtain ⟨pK,h_7,hr⟩ := aA hr
    refine zz ?_
    refine zc (aEc h_7) [] ?_
    refine zz ?_
    refine AB.seq_g fun K1 hK1 hG1 => ?_
    have J1 : ∀ (vs : List (List Int)) (cost : Int),zX N vs cost = some r → K1 (aE 134 [(11,(.row none 1 (vs.map (eL 1 (eI .u8))))),(12,(eI .i64 cost))]) [] := by
     intro vs cost hr
     unfold zX at hr
     refine hK1 _ _ ?_
     refine zz ?_
     obtain rfl := sj hr
     exact zd3 Tryz.results10 []
    refine zz ?_
    refine AB.ghost (zv 2) ?_
    obtain ⟨a9,hL2,hr⟩ := aA hr
    refine AB.block <| AB.loopN (fun m s h => ∃ (f9 : List (List Int)) (iL : Int) (x35 : Int) (l1 : List aR),cR N aO aT bG bE m f9 iL x35 l1 = some a9 ∧ Ghost 0 s h (aE 134 [(5,(.ptr 0 0)),(11,(.row none 1 (f9.map (eL 1 (eI .u8))))),(12,(eI .i64 iL)),(13,(.sl 1 0 l1.length 2 true)),(33,(.sl 2 0 bE.1.length 4 true)),(34,(eI .i64 (bE.1.length : Int))),(35,(eI .i64 x35))]) [some ⟨27,(bL (eI .u8) aO [(eI .i64 aT),(eI .i64 bG)])⟩,some ⟨60,l1.flatMap aZ⟩,some ⟨46,bE.1.flatMap bU⟩]) (n := N) ⟨pK,0,0,[],hL2,(zW 60 [0,3,1])⟩ (by rintro s h ⟨_,_,_,_,h0,_⟩; simp [cR] at h0) ?_
    rintro m2 s h ⟨f9,iL,x35,l1,hr2,hg⟩
    refine AB.ghost hg ?_
    clear hg hL2
    rw [cR] at hr2
    refine zz ?_
    refine AB.seq ?_
    refine zk hr2 rfl (fun h8 hr2 => ?_) (fun h8 hr2 => ?_)
    ·refine zz ?_
     refine AB.seq_g fun K3 hK3 hG3 => ?_
     have J3 : ∀ (aEU : List (List Int)) (aAU : Int) (dV : List aR),e9 N aO aT bG bE x35 (cR N aO aT bG bE m2) aEU aAU dV = some a9 → K3 (aE 134 [(5,(.ptr 0 0)),(11,(.row none 1 (aEU.map (eL 1 (eI .u8))))),(12,(eI .i64 aAU)),(13,(.sl 1 0 dV.length 2 true)),(33,(.sl 2 0 bE.1.length 4 true)),(34,(eI .i64 (bE.1.length : Int))),(35,(eI .i64 x35))]) [some ⟨27,(bL (eI .u8) aO [(eI .i64 aT),(eI .i64 bG)])⟩,some ⟨60,dV.flatMap aZ⟩,some ⟨46,bE.1.flatMap bU⟩] := by
      intro aEU aAU dV hr2
      unfold e9 at hr2
      refine hK3 _ _ ?_
      refine zz ?_
      exact ⟨aEU,aAU,IntKind.i64.wrap (x35 + 1),dV,hr2,(zG [0,1,2])⟩
     refine AB.block ?_
     obtain ⟨x37,h_9,hr2⟩ := aA hr2
     refine zz ?_
     refine xw (v := (.agg [(eI .i64 x37.Code),(.row none 1 (x37.Data.map (eI .u8))),(eI .i64 x37.M),(eI .i64 x37.N)])) (bO rfl (aIM (C := bU) (K := 4) (fun _ => rfl) rfl h_9 (aAp (ds := [(eI .i64 x37.Code),(.row none 1 (x37.Data.map (eI .u8))),(eI .i64 x37.M),(eI .i64 x37.N)]) wM rfl zl rfl))) ?_
     obtain ⟨x40,h_10,hr2⟩ := aA hr2
     refine zz ?_
     refine zcL (aEb h_10) [] [1] ?_
     refine zz ?_
     refine AB.seq_g fun K4 hK4 hG4 => ?_
     have J4 : ∀ (fA : Bool),o8 N aO aT bG bE f9 iL x35 l1 x37 (cR N aO aT bG bE m2) fA = some a9 → K4 (aE 134 [(5,(.ptr 0 0)),(11,(.row none 1 (f9.map (eL 1 (eI .u8))))),(12,(eI .i64 iL)),(13,(.sl 1 0 l1.length 2 true)),(15,(.ptr 2 0)),(16,(eB fA)),(33,(.sl 3 0 bE.1.length 4 true)),(34,(eI .i64 (bE.1.length : Int))),(35,(eI .i64 x35))]) [some ⟨27,(bL (eI .u8) aO [(eI .i64 aT),(eI .i64 bG)])⟩,some ⟨60,l1.flatMap aZ⟩,some ⟨46,[(eI .i64 x37.Code),(.row none 1 (x37.Data.map (eI .u8))),(eI .i64 x37.M),(eI .i64 x37.N)]⟩,some ⟨46,bE.1.flatMap bU⟩] := by
      intro fA hr2
      unfold o8 at hr2
      refine hK4 _ _ ?_
      refine AB.seq_g fun K5 hK5 hG5 => ?_
      have J5 : ∀ (jB : Int),pL N aO aT bG bE f9 x35 l1 x37 fA (cR N aO aT bG bE m2) jB = some a9 → K5 (aE 134 [(5,(.ptr 0 0)),(11,(.row none 1 (f9.map (eL 1 (eI .u8))))),(12,(eI .i64 jB)),(13,(.sl 1 0 l1.length 2 true)),(15,(.ptr 2 0)),(16,(eB fA)),(33,(.sl 3 0 bE.1.length 4 true)),(34,(eI .i64 (bE.1.length : Int))),(35,(eI .i64 x35))]) [some ⟨27,(bL (eI .u8) aO [(eI .i64 aT),(eI .i64 bG)])⟩,some ⟨60,l1.flatMap aZ⟩,some ⟨46,[(eI .i64 x37.Code),(.row none 1 (x37.Data.map (eI .u8))),(eI .i64 x37.M),(eI .i64 x37.N)]⟩,some ⟨46,bE.1.flatMap bU⟩] := by
       intro jB hr2
       unfold pL at hr2
       refine hK5 _ _ <| AB.block ?_
       refine zz ?_
       refine zk hr2 rfl (fun h11 hr2 => ?_) (fun h11 hr2 => ?_)
       ·refine zz ?_
        refine AB.seq_g fun K6 hK6 hG6 => ?_
        have J6 : ∀ (aED : List (List Int)) (c2 : Bool),pN N aO aT bG bE x35 l1 fA jB (cR N aO aT bG bE m2) aED c2 = some a9 → K6 (aE 134 [(5,(.ptr 0 0)),(11,(.row none 1 (aED.map (eL 1 (eI .u8))))),(12,(eI .i64 jB)),(13,(.sl 1 0 l1.length 2 true)),(17,(.ptr 2 0)),(33,(.sl 3 0 bE.1.length 4 true)),(34,(eI .i64 (bE.1.length : Int))),(35,(eI .i64 x35))]) [some ⟨27,(bL (eI .u8) aO [(eI .i64 aT),(eI .i64 bG)])⟩,some ⟨60,l1.flatMap aZ⟩,some ⟨60,[(eB fA),(eB c2)]⟩,some ⟨46,bE.1.flatMap bU⟩] := by
         intro aED c2 hr2
         unfold pN at hr2
         refine hK6 _ _ ?_
         obtain ⟨x91,h_12,hr2⟩ := aA hr2
         refine zz ?_
         refine xw (v := (.sl 4 0 1 2 true)) (h' := [some ⟨27,(bL (eI .u8) aO [(eI .i64 aT),(eI .i64 bG)])⟩,some ⟨60,l1.flatMap aZ⟩,some ⟨60,[(eB fA),(eB c2)]⟩,some ⟨46,bE.1.flatMap bU⟩,some ⟨60,[(aR.mk fA c2)].flatMap aZ⟩]) (qF rfl (aCO (C := aZ) (xs := [(aR.mk fA c2)]) (K := 2) (fun _ => rfl) (fun _ => rfl) aKT aDc ⟨zl,zl,zl⟩ rfl rfl rfl rfl rfl rfl)) ?_
         refine zz ?_
         exact hG3 _ _ _ _ (zG [0,5,3]) (J3 aED jB x91 hr2)
        refine zz ?_
        refine zk hr2 rfl (fun h13 hr2 => ?_) (fun h13 hr2 => ?_)
        ·obtain ⟨x79,h_14,hr2⟩ := aA hr2
         obtain ⟨x81,h_15,hr2⟩ := aA hr2
         refine zz ?_
         refine xp (uC h_15) ?_
         obtain ⟨x87,h_16,hr2⟩ := aA hr2
         refine zz ?_
         exact hG6 _ _ _ _ (zG [0,1,4,3]) (J6 x87 x81 hr2)
        ·refine zz ?_
         exact hG6 _ _ _ _ (zG [0,1,4,3]) (J6 f9 false hr2)
       ·refine zz ?_
        refine zk hr2 rfl (fun h17 hr2 => ?_) (fun h17 hr2 => ?_)
        ·obtain ⟨yG,h_18,hr2⟩ := aA hr2
         refine zz ?_
         refine xw (v := (eB yG.done)) (bO rfl (aGp (C := aZ) (K := 2) (off := 1) (fun _ => rfl) rfl h_18 zl (nV yA rfl rfl))) ?_
         refine zz ?_
         refine xy (h' := [some ⟨27,(bL (eI .u8) aO [(eI .i64 aT),(eI .i64 bG)])⟩,some ⟨60,(l1.set (Int.toNat (IntKind.i64.wrap ((l1.length : Int) - 1))) (aR.mk yG.reached (!yG.done))).flatMap aZ⟩,some ⟨46,[(eI .i64 x37.Code),(.row none 1 (x37.Data.map (eI .u8))),(eI .i64 x37.M),(eI .i64 x37.N)]⟩,some ⟨46,bE.1.flatMap bU⟩]) (aY rfl rfl (aNF (C := aZ) (K := 2) (off := 1) (fun _ => rfl) yA rfl h_18 rfl rfl zl rfl rfl)) ?_
         refine zz ?_
         exact hG3 _ _ _ _ (lT [0,1,3]) (J3 f9 jB (l1.set (Int.toNat (IntKind.i64.wrap ((l1.length : Int) - 1))) (aR.mk yG.reached (!yG.done))) hr2)
        ·refine zz ?_
         refine zk hr2 rfl (fun h19 hr2 => ?_) (fun h19 hr2 => ?_)
         ·obtain ⟨yH,h_20,hr2⟩ := aA hr2
          refine zz ?_
          refine xw (v := (.sl 1 0 yH.length 2 true)) (b5 rfl rfl rfl (aD8 (l := l1) rfl aKT aDc rfl rfl rfl h_20)) ?_
          refine OpsX.ghost (Ghost.cutF (t := 118) (C := aZ) (l := l1) (K := 2) (h' := [some ⟨27,(bL (eI .u8) aO [(eI .i64 aT),(eI .i64 bG)])⟩,some ⟨60,yH.flatMap aZ⟩,some ⟨46,[(eI .i64 x37.Code),(.row none 1 (x37.Data.map (eI .u8))),(eI .i64 x37.M),(eI .i64 x37.N)]⟩,some ⟨46,bE.1.flatMap bU⟩]) (fun _ => rfl) rfl rfl h_20 rfl) ?_
          refine zz ?_
          exact hG3 _ _ _ _ (zG [0,1,3]) (J3 f9 jB yH hr2)
         ·refine zz ?_
          refine zk hr2 rfl (fun h21 hr2 => ?_) (fun h21 hr2 => ?_)
          ·obtain ⟨aGn,h_22,hr2⟩ := aA hr2
           refine zz ?_
           refine xp (aFX h_22) ?_
           refine zz ?_
           refine zk hr2 rfl (fun h23 hr2 => ?_) (fun h23 hr2 => ?_)
           ·refine zz ?_
            obtain rfl := sj hr2
            obtain rfl := sj hr
            exact rN Tryz.results10 aW aW aW (lT [])
           ·refine zz ?_
            exact hG3 _ _ _ _ (zG [0,1,3]) (J3 aGn.1 jB l1 hr2)
          ·refine zz ?_
           exact hG3 _ _ _ _ (zG [0,1,3]) (J3 f9 jB l1 hr2)
      refine zz ?_
      refine zk hr2 rfl (fun h24 hr2 => ?_) (fun h24 hr2 => ?_)
      ·refine AB.seq ?_
       obtain ⟨x59,h_25,hr2⟩ := aA hr2
       refine zz ?_
       refine xp (aEQ h_25) ?_
       refine zz ?_
       refine zk hr2 rfl (fun h26 hr2 => ?_) (fun h26 hr2 => ?_)
       ·refine zz ?_
        obtain rfl := sj hr2
        obtain rfl := sj hr
        exact rN Tryz.results10 aW aW aW (lT [])
       ·obtain ⟨x66,h_27,hr2⟩ := aA hr2
        refine zz ?_
        refine xp (aEP h_27) ?_
        refine zz ?_
        refine zk hr2 rfl (fun h28 hr2 => ?_) (fun h28 hr2 => ?_)
        ·refine zz ?_
         obtain rfl := sj hr2
         obtain rfl := sj hr
         exact rN Tryz.results10 aW aW aW (lT [])
        ·refine zz ?_
         exact hG5 _ _ _ _ (zG [0,1,2,3]) (J5 (IntKind.i64.wrap (iL + x59)) hr2)
      ·refine zz ?_
       exact hG5 _ _ _ _ (zG [0,1,2,3]) (J5 iL hr2)
     refine AB.seq_g fun K7 hK7 hG7 => ?_
     have J7 : ∀ (x48 : Bool),mG N aO aT bG bE f9 iL x35 l1 x37 x40 (cR N aO aT bG bE m2) x48 = some a9 → K7 (aE 134 [(5,(.ptr 0 0)),(11,(.row none 1 (f9.map (eL 1 (eI .u8))))),(12,(eI .i64 iL)),(13,(.sl 1 0 l1.length 2 true)),(15,(.ptr 2 0)),(16,(eB x40)),(33,(.sl 3 0 bE.1.length 4 true)),(34,(eI .i64 (bE.1.length : Int))),(35,(eI .i64 x35)),(48,(eB x48))]) [some ⟨27,(bL (eI .u8) aO [(eI .i64 aT),(eI .i64 bG)])⟩,some ⟨60,l1.flatMap aZ⟩,some ⟨46,[(eI .i64 x37.Code),(.row none 1 (x37.Data.map (eI .u8))),(eI .i64 x37.M),(eI .i64 x37.N)]⟩,some ⟨46,bE.1.flatMap bU⟩] := by
      intro x48 hr2
      unfold mG at hr2
      refine hK7 _ _ ?_
      refine zk hr2 rfl (fun h29 hr2 => ?_) (fun h29 hr2 => ?_)
      ·obtain ⟨x53,h_30,hr2⟩ := aA hr2
       refine zz ?_
       refine xw (v := (eB x53.reached)) (bO rfl (aGp (C := aZ) (K := 2) (off := 0) (fun _ => rfl) rfl h_30 zl (nV yA rfl rfl))) ?_
       refine zz ?_
       exact hG4 _ _ _ _ (zG [0,1,2,3]) (J4 x53.reached hr2)
      ·refine zz ?_
       exact hG4 _ _ _ _ (zG [0,1,2,3]) (J4 x40 hr2)
     rcases Bool.eq_false_or_eq_true (x37.Code == 15) with h31 | h31
     ·replace hr2 := cV hr2 h31
      refine xr ?_
      refine zz ?_
      exact hG7 _ _ _ _ (zG [0,1,3,2]) (J7 true hr2)
     ·replace hr2 := cU hr2 h31
      refine xr ?_
      refine zz ?_
      exact hG7 _ _ _ _ (zG [0,1,3,2]) (J7 (x37.Code == 16) hr2)
    ·refine zz ?_
     obtain rfl := sj hr2
     refine zz ?_
     exact hG1 _ _ _ _ (zG []) (J1 f9 iL hr)
theorem yC {N : Nat} {va : List (List Int)} {b : List (List Int)} {r : Bool} (hr : nL N va b = some r) :
  Vm.Fn Tryz.prog 11 [] [(.row none 1 (va.map (eL 1 (eI .u8)))),(.row none 1 (b.map (eL 1 (eI .u8))))] (eB r) [] := by
 refine zf Tryz.func11 Tryz.ntmps11 ?_
 unfold nL at hr
 refine zz ?_
 refine AB.seq ?_
 refine zz ?_
 refine zk hr rfl (fun h1 hr => ?_) (fun h1 hr => ?_)
 ·refine zz ?_
  obtain rfl := sj hr
  exact bH Tryz.results11 []
 ·refine zz ?_
  refine AB.seq_g fun K1 hK1 hG1 => ?_
  have J1 : sD N = some r → K1 (aE 27 []) [] := by
   intro hr
   unfold sD at hr
   refine hK1 _ _ ?_
   refine zz ?_
   obtain rfl := sj hr
   exact bH Tryz.results11 []
  obtain ⟨a9,hL2,hr⟩ := aA hr
  refine zz ?_
  refine AB.block <| AB.loopN (fun m s h => ∃ (cD : Int),gG N va b m cD = some a9 ∧ Ghost 0 s h (aE 27 [(0,(.row none 1 (va.map (eL 1 (eI .u8))))),(1,(.row none 1 (b.map (eL 1 (eI .u8))))),(12,(eI .i64 (va.length : Int))),(13,(eI .i64 cD))]) []) (n := N) ⟨0,hL2,(zG [])⟩ (by rintro s h ⟨_,h0,_⟩; simp [gG] at h0) ?_
  rintro m2 s h ⟨cD,hr2,hg⟩
  refine AB.ghost hg ?_
  clear hg hL2
  rw [gG] at hr2
  refine zz ?_
  refine AB.seq ?_
  refine zk hr2 rfl (fun h2 hr2 => ?_) (fun h2 hr2 => ?_)
  ·refine zz ?_
   refine AB.seq <| AB.block ?_
   refine zz ?_
   refine AB.seq ?_
   obtain ⟨x18,h_3,hr2⟩ := aA hr2
   obtain ⟨bN,h_4,hr2⟩ := aA hr2
   obtain ⟨fO,h_5,hr2⟩ := aA hr2
   refine AB.rs mixed [32] [] [[0,1,2,3,4,5,6,7,8,9]] ?_
   refine zz ?_
   refine xu (aBP h_5) ?_
   refine zz ?_
   refine zk hr2 rfl (fun h7 hr2 => ?_) (fun h7 hr2 => ?_)
   ·refine zz ?_
    obtain rfl := sj hr2
    obtain rfl := sj hr
    exact bH Tryz.results11 []
   ·refine zz ?_
    exact ⟨IntKind.i64.wrap (cD + 1),hr2,(zG [])⟩
  ·refine zz ?_
   obtain rfl := sj hr2
   refine zz ?_
   exact hG1 _ _ _ _ (zG []) (J1 hr)
theorem aBU {N : Nat} {b : List Int} {sX : List (List Int)} {dK : List Int} {eH : Int} {kR : Int} {r : Int} (hr : kM N b sX dK eH kR = some r) :
  Vm.Fn Tryz.prog 12 [] [(.row none 1 (b.map (eI .u8))),(.row none 1 (sX.map (eL 1 (eI .u8)))),(.agg (bL (eI .u8) dK [(eI .i64 eH),(eI .i64 kR)]))] (eI .i64 r) [] := by
 refine zf Tryz.func12 Tryz.ntmps12 ?_
 unfold kM at hr
 obtain ⟨bC,h_1,hr⟩ := aA hr
 refine zz ?_
 refine zc (yL h_1) [] ?_
 refine zz ?_
 refine AB.seq <| AB.block ?_
 refine zz ?_
 refine zk hr rfl (fun h2 hr => ?_) (fun h2 hr => ?_)
 ·refine zz ?_
  obtain rfl := sj hr
  exact bH Tryz.results12 []
 ·refine zz ?_
  refine zk hr rfl (fun h3 hr => ?_) (fun h3 hr => ?_)
  ·refine zz ?_
   obtain rfl := sj hr
   exact bH Tryz.results12 []
  ·obtain ⟨x28,h_4,hr⟩ := aA hr
   obtain ⟨lA,h_5,hr⟩ := aA hr
   refine zz ?_
   refine xp (rA h_5) ?_
   refine zz ?_
   refine zk hr rfl (fun h6 hr => ?_) (fun h6 hr => ?_)
   ·refine zz ?_
    obtain rfl := sj hr
    exact bH Tryz.results12 []
   ·refine zz ?_
    obtain rfl := sj hr
    exact bH Tryz.results12 []
theorem aCx {N : Nat} {b : List Int} {sX : List (List Int)} {aO : List Int} {aT : Int} {bG : Int} {r : Int} (hr : nH N b sX aO aT bG = some r) :
  Vm.Fn Tryz.prog 13 [] [(.row none 1 (b.map (eI .u8))),(.row none 1 (sX.map (eL 1 (eI .u8)))),(.agg (bL (eI .u8) aO [(eI .i64 aT),(eI .i64 bG)]))] (eI .i64 r) [] := by
 refine zf Tryz.func13 Tryz.ntmps13 ?_
 unfold nH at hr
 obtain ⟨bC,h_1,hr⟩ := aA hr
 refine zz ?_
 refine xp (aCd h_1) ?_
 refine zz ?_
 refine AB.seq <| AB.block ?_
 refine zz ?_
 refine zk hr rfl (fun h2 hr => ?_) (fun h2 hr => ?_)
 ·refine zz ?_
  obtain rfl := sj hr
  exact bH Tryz.results13 []
 ·refine zz ?_
  refine zk hr rfl (fun h3 hr => ?_) (fun h3 hr => ?_)
  ·refine zz ?_
   obtain rfl := sj hr
   exact bH Tryz.results13 []
  ·obtain ⟨x28,h_4,hr⟩ := aA hr
   obtain ⟨lA,h_5,hr⟩ := aA hr
   refine zz ?_
   refine xp (uC h_5) ?_
   refine zz ?_
   refine zk hr rfl (fun h6 hr => ?_) (fun h6 hr => ?_)
   ·refine zz ?_
    obtain rfl := sj hr
    exact bH Tryz.results13 []
   ·refine zz ?_
    obtain rfl := sj hr
    exact bH Tryz.results13 []
theorem aBT {N : Nat} {b : List Int} {stack : List (List Int)} {aO : List Int} {aT : Int} {bG : Int} {r : Bool} (hr : mB N b stack aO aT bG = some r) :
  Vm.Fn Tryz.prog 4 [] [(.row none 1 (b.map (eI .u8))),(.row none 1 (stack.map (eL 1 (eI .u8)))),(.agg (bL (eI .u8) aO [(eI .i64 aT),(eI .i64 bG)]))] (eB r) [] := by
 refine zf Tryz.func4 Tryz.ntmps4 ?_
 unfold mB at hr
 refine zz ?_
 refine AB.seq ?_
 obtain ⟨cD,h_1,hr⟩ := aA hr
 refine zz ?_
 refine xp (aF1 h_1) ?_
 refine zz ?_
 refine zk hr rfl (fun h2 hr => ?_) (fun h2 hr => ?_)
 ·refine zz ?_
  obtain rfl := sj hr
  exact bH Tryz.results4 []
 ·refine zz ?_
  refine AB.seq ?_
  refine AB.seq_g fun K1 hK1 hG1 => ?_
  have J1 : ∀ (bN : Bool),fI N b stack aO aT bG bN = some r → K1 (aE 63 [(0,(.row none 1 (b.map (eI .u8)))),(1,(.row none 1 (stack.map (eL 1 (eI .u8))))),(5,(.ptr 0 0)),(22,(eB bN))]) [some ⟨27,(bL (eI .u8) aO [(eI .i64 aT),(eI .i64 bG)])⟩] := by
   intro bN hr
   unfold fI at hr
   refine hK1 _ _ ?_
   refine zk hr rfl (fun h3 hr => ?_) (fun h3 hr => ?_)
   ·refine zz ?_
    obtain rfl := sj hr
    exact bH Tryz.results4 []
   ·obtain ⟨x27,h_4,hr⟩ := aA hr
    refine zz ?_
    refine zc (yL h_4) [] ?_
    obtain ⟨x35,h_5,hr⟩ := aA hr
    refine zz ?_
    refine xp (aCd h_5) ?_
    refine zz ?_
    refine AB.seq_g fun K2 hK2 hG2 => ?_
    have J2 : ∀ (x6 : Bool),iB N x6 = some r → K2 (aE 63 [(6,(eB x6))]) [] := by
     intro x6 hr
     unfold iB at hr
     refine hK2 _ _ ?_
     refine zz ?_
     obtain rfl := sj hr
     exact bH Tryz.results4 []
    rcases Bool.eq_false_or_eq_true (x27.2.2 == x35.2.2) with h6 | h6
    ·replace hr := cV hr h6
     rcases Bool.eq_false_or_eq_true (x27.2.1 == x35.2.1) with h7 | h7
     ·replace hr := cV hr h7
      obtain ⟨x50,h_8,hr⟩ := aA hr
      rcases Bool.eq_false_or_eq_true x50 with h10 | h10
      ·replace hr := cV hr h10
       obtain ⟨x56,h_11,hr⟩ := aA hr
       obtain ⟨x60,h_13,hr⟩ := aA hr
       refine AB.rs mixed [12,13] [11] [[0,1,2,3,4,5,6,7,8,9,10,11,12,13,14,15,16,17,18,19,20,21,22,23,24]] ?_
       refine zz ?_
       refine zgL (yC h_8) [] [1] ?_
       refine zz ?_
       refine xu (aBU h_11) ?_
       refine zz ?_
       refine xu (aCx h_13) ?_
       refine zz ?_
       exact hG2 _ _ _ _ (zG []) (J2 (x56 == x60) hr)
      ·replace hr := cU hr h10
       refine AB.rs mixed [12,13] [11] [[0,1,2,3,4,5,6,7,8,9,10,11,12,13,14,15,16,17,18,19,20,21,22,23,24]] ?_
       refine zz ?_
       refine zgL (yC h_8) [] [1] ?_
       refine zz ?_
       exact hG2 _ _ _ _ (zG []) (J2 false hr)
     ·replace hr := cU hr h7
      refine AB.rs mixed [12,13] [11] [[0,1,2,3,4,5,6,7,8,9,10,11,12,13,14,15,16,17,18,19,20,21,22,23,24]] ?_
      refine zz ?_
      refine xX rfl <| xX rfl <| xX rfl <| xX rfl <| xX rfl <| xX rfl <| xX rfl <| xX rfl <| xX rfl ?_
      refine zz ?_
      exact hG2 _ _ _ _ (zG []) (J2 false hr)
    ·replace hr := cU hr h6
     refine AB.rs mixed [12,13] [11] [[0,1,2,3,4,5,6,7,8,9,10,11,12,13,14,15,16,17,18,19,20,21,22,23,24]] ?_
     refine zz ?_
     refine xX rfl <| xX rfl <| xX rfl ?_
     refine zz ?_
     refine xX rfl <| xX rfl <| xX rfl <| xX rfl <| xX rfl <| xX rfl <| xX rfl <| xX rfl <| xX rfl ?_
     refine zz ?_
     exact hG2 _ _ _ _ (zG []) (J2 false hr)
  rcases Bool.eq_false_or_eq_true (decide (700 < (b.length : Int))) with h15 | h15
  ·replace hr := cV hr h15
   refine xr ?_
   refine zz ?_
   exact hG1 _ _ _ _ (zG [0]) (J1 true hr)
  ·replace hr := cU hr h15
   obtain ⟨bE,h_16,hr⟩ := aA hr
   refine xr ?_
   refine zz ?_
   refine z8 (v := (eB bE)) (h' := [some ⟨27,(bL (eI .u8) aO [(eI .i64 aT),(eI .i64 bG)])⟩]) rfl rfl h15 rfl (Vm.Fn.pure (aGc h_16) rfl rfl) ?_
   refine zz ?_
   exact hG1 _ _ _ _ (zG [0]) (J1 (!bE) hr)
end Go.Proofs.YtnllpckhipmpgaaGreatDoor
