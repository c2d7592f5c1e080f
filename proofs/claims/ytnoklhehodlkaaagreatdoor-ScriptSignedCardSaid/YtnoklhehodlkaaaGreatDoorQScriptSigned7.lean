/- Texts of ours, joined: Wk2, Wk3, Wk4. -/
import Derived.Test.YtnoklhehodlkaaaGreatDoorQScriptSigned6
set_option linter.unusedVariables false
set_option linter.unusedSimpArgs false
set_option maxRecDepth 20000
set_option maxHeartbeats 1000000
namespace Go.Proofs.YtnoklhehodlkaaaGreatDoor
open Go Go.Vm
theorem aBx {N : Nat} {b : List Int} {stack : List (List Int)} {dL : List Int} {eD : Int} {kN : Int} {r : (List (List Int)) × Int × Int} (hr : sS N b stack dL eD kN = some r) :
    Vm.Fn Tryz.prog 22 [] [(.row none 1 (b.map (eI .u8))), (.row none 1 (stack.map (eL 1 (eI .u8)))), (.agg (aO (eI .u8) dL [(eI .i64 eD), (eI .i64 kN)]))] (.tup [(.sl 0 0 r.1.length 1 false), (eI .i64 r.2.1), (eI .i64 r.2.2)]) [some ⟨22, r.1.map (eL 1 (eI .u8))⟩] := by
  refine zf Tryz.func22 Tryz.ntmps22 ?_
  unfold sS at hr
  obtain ⟨x17, h_1, hr⟩ := aA hr
  refine zz ?_
  refine zc (aDK h_1) [] ?_
  refine zz ?_
  refine AB.seq ?_
  refine zz ?_
  refine zk hr rfl (fun h2 hr => ?_) (fun h2 hr => ?_)
  · refine zz ?_
    obtain rfl := sj hr
    exact zr3 Tryz.results22 bC bC bC (zW 22 [2])
  · refine zz ?_
    refine AB.seq ?_
    obtain ⟨jD, h_3, hr⟩ := aA hr
    refine zz ?_
    refine vG (aDl h_3) [] [1] ?_
    refine zz ?_
    refine zk hr rfl (fun h4 hr => ?_) (fun h4 hr => ?_)
    · refine zz ?_
      obtain rfl := sj hr
      exact zr3 Tryz.results22 bC bC bC (zW 22 [2])
    · refine zz ?_
      refine AB.seq ?_
      obtain ⟨x27, h_5, hr⟩ := aA hr
      refine zz ?_
      refine xp (aCE h_5) ?_
      refine zz ?_
      refine zk hr rfl (fun h6 hr => ?_) (fun h6 hr => ?_)
      · refine zz ?_
        obtain rfl := sj hr
        exact zr3 Tryz.results22 bC bC bC (zW 22 [2])
      · refine zz ?_
        refine AB.seq ?_
        obtain ⟨eV, h_7, hr⟩ := aA hr
        refine AB.rd (dN []) (dN [55]) mixed <| DrawG.pick (n := 5) (i := 0) (by decide +kernel) rfl (gS (v := (.agg (aO (eI .u8) dL [(eI .i64 eD), (eI .i64 kN)]))) (sv (bA rfl (tH rfl (jI (ds := (aO (eI .u8) dL [(eI .i64 eD), (eI .i64 kN)])) jQ rfl zl rfl))))) <| DrawG.pick (n := 4) (i := 1) (by decide +kernel) rfl (gS (v := (.row none 1 (stack.map (eL 1 (eI .u8))))) (sv (fC rfl))) ?_
        refine DrawG.jn (m := 1) (L := lst [0, 1, 2, 3, 4] 6) (s1 := aG 50 [(9, (.sl 0 0 x17.1.length 4 true)), (11, (.ptr 1 0)), (32, (.agg (aO (eI .u8) dL [(eI .i64 eD), (eI .i64 kN), (.sl 2 0 eV.length 1 false), (.row (some true) 1 []), (eI .i64 0)])))]) (h1 := [some ⟨85, x17.1.flatMap cI⟩, some ⟨105, (aO (eI .u8) (List.replicate 32 0) [(eI .i64 0), (eI .i64 0), (.row (some true) 1 []), (.row (some true) 1 []), (eI .i64 0)])⟩, some ⟨22, eV.map (eL 1 (eI .u8))⟩]) ?_ (fun J => ?_)
        · refine DrawG.pick (n := 0) (i := 5) (by decide +kernel) rfl (gN (h' := [some ⟨85, x17.1.flatMap cI⟩, some ⟨105, (aO (eI .u8) dL [(eI .i64 eD), (eI .i64 kN), (.sl 2 0 eV.length 1 false), (.row (some true) 1 []), (eI .i64 0)])⟩, some ⟨22, eV.map (eL 1 (eI .u8))⟩]) (sv (bG rfl rfl (qH q7 rfl rfl rfl zl rfl)))) <| DrawG.nil (by decide +kernel) ?_
          refine zz ?_
          refine AB.seq_g fun K1 hK1 hG1 => ?_
          have J1 : ∀ (c0 : List Int) (rI : Int) (rN : Int) (qX : Int) (l1 : List (List Int)) (l2 : List aE), t7 N c0 rI rN qX l1 l2 = some r → K1 (aG 50 [(11, (.ptr 0 0))]) [some ⟨105, (aO (eI .u8) c0 [(eI .i64 rI), (eI .i64 rN), (.sl 1 0 l1.length 1 false), (.sl 2 0 l2.length 2 true), (eI .i64 qX)])⟩, some ⟨22, l1.map (eL 1 (eI .u8))⟩, some ⟨127, l2.flatMap aN⟩] := by
            intro c0 rI rN qX l1 l2 hr
            unfold t7 at hr
            refine hK1 _ _ <| AB.seq <| AB.ghost (Ghost.conv (fr' := [(11, (.ptr 0 0))]) (h' := [some ⟨105, (aO (eI .u8) c0 [(eI .i64 rI), (eI .i64 rN), (.row none 1 (l1.map (eL 1 (eI .u8)))), (.sl 2 0 l2.length 2 true), (eI .i64 qX)])⟩, none, some ⟨127, l2.flatMap aN⟩]) (FCv.cons rfl (Conv.same (aL rfl)) FCv.nil) (HCv.live (aK0 (fun _ => Conv.same (aL rfl)) (Convs.cons (Conv.same (aL rfl)) (Convs.cons (Conv.same (aL rfl)) (Convs.cons (Conv.row (aL rfl) rfl rfl (pX (fun _ => rfl)) (by first | rfl | (simp only [List.length_map, bR, bQ]; done))) (Convs.cons (Conv.same (aL rfl)) (Convs.cons (Conv.same (aL rfl)) Convs.nil)))))) rfl (HCv.dead (HCv.live (Convs.same (aL rfl)) (mK (fun _ => rfl) _) HCv.nil)))) ?_
            obtain ⟨x47, h_9, hr⟩ := aA hr
            refine AB.rs mixed [] [55] [[0, 1, 2, 3, 4, 5, 6, 7]] ?_
            refine zz ?_
            refine zg (uC h_9) [] ?_
            refine zz ?_
            obtain rfl := sj hr
            exact zd3 Tryz.results22 [3]
          obtain ⟨bD, hL2, hr⟩ := aA hr
          refine zz ?_
          refine AB.block <| AB.loopN (fun m s h => ∃ (x35 : Int) (v8 : List Int) (c0_5 : Int) (c0_6 : Int) (c0_7 : Int) (cX : List (List Int)) (l3 : List aE), kA N x17 m x35 v8 c0_5 c0_6 c0_7 cX l3 = some bD ∧ Ghost 0 s h (aG 50 [(11, (.ptr 0 0)), (33, (.sl 1 0 x17.1.length 4 true)), (34, (eI .i64 (x17.1.length : Int))), (35, (eI .i64 x35))]) [some ⟨105, (aO (eI .u8) v8 [(eI .i64 c0_5), (eI .i64 c0_6), (.sl 2 0 cX.length 1 false), (.sl 3 0 l3.length 2 true), (eI .i64 c0_7)])⟩, some ⟨85, x17.1.flatMap cI⟩, some ⟨22, cX.map (eL 1 (eI .u8))⟩, some ⟨127, l3.flatMap aN⟩]) (n := N) ⟨0, dL, eD, kN, 0, eV, [], hL2, (Ghost.trans (Ghost.virt (fr' := [(11, (.ptr 1 0)), (33, (.sl 0 0 x17.1.length 4 true)), (34, (eI .i64 (x17.1.length : Int))), (35, (eI .i64 0))]) (h1 := [some ⟨85, x17.1.flatMap cI⟩, some ⟨105, (aO (eI .u8) dL [(eI .i64 eD), (eI .i64 kN), (.sl 2 0 eV.length 1 false), (.sl 3 0 0 2 true), (eI .i64 0)])⟩, some ⟨22, eV.map (eL 1 (eI .u8))⟩]) 127 (FLe.same rfl (FLe.same rfl (FLe.same rfl (FLe.same rfl FLe.nil)))) (HLv.live (V.les_refl _ _) (mK (fun _ => rfl) _) (HLv.live (aGo (V.les_cons (V.le_refl _ _) (V.les_cons (V.le_refl _ _) (V.les_cons (V.le_refl _ _) (V.les_cons (V.le_virt rfl) (V.les_cons (V.le_refl _ _) V.les_nil)))))) rfl (HLv.live (V.les_refl _ _) (all_map (fun _ => rfl) _) HLv.nil)))) (rU [1, 0, 2, 3]))⟩ (by rintro s h ⟨_, _, _, _, _, _, _, h0, _⟩; simp [kA] at h0) ?_
          rintro m2 s h ⟨x35, v8, c0_5, c0_6, c0_7, cX, l3, hr2, hg⟩
          refine AB.ghost hg ?_
          clear hg hL2
          rw [kA] at hr2
          refine zz ?_
          refine AB.seq ?_
          refine zk hr2 rfl (fun h11 hr2 => ?_) (fun h11 hr2 => ?_)
          · refine zz ?_
            refine AB.seq <| AB.block ?_
            obtain ⟨x37, h_12, hr2⟩ := aA hr2
            refine zz ?_
            refine xw (v := (.agg [(eI .i64 x37.Code), (.row none 1 (x37.Data.map (eI .u8))), (eI .i64 x37.M), (eI .i64 x37.N)])) (bA rfl (aLd (C := cI) (K := 4) (fun _ => rfl) rfl h_12 (jI (ds := [(eI .i64 x37.Code), (.row none 1 (x37.Data.map (eI .u8))), (eI .i64 x37.M), (eI .i64 x37.N)]) wH rfl zl rfl))) ?_
            obtain ⟨x40, h_13, hr2⟩ := aA hr2
            refine zz ?_
            refine zc (aAi h_13) [0, 2, 3] ?_
            refine zz ?_
            refine zk hr2 rfl (fun h14 hr2 => ?_) (fun h14 hr2 => ?_)
            · refine zz ?_
              obtain rfl := sj hr2
              obtain rfl := sj hr
              exact zr3 Tryz.results22 bC bC bC (zW 22 [7])
            · refine zz ?_
              exact ⟨IntKind.i64.wrap (x35 + 1), x40.2.1, x40.2.2.1, x40.2.2.2.1, x40.2.2.2.2.2.2, x40.2.2.2.2.1, x40.2.2.2.2.2.1, hr2, (zG [0, 1, 5, 6])⟩
          · refine zz ?_
            obtain rfl := sj hr2
            refine zz ?_
            exact hG1 _ _ _ _ (zG [0, 2, 3]) (J1 v8 c0_5 c0_6 c0_7 cX l3 hr)
        · refine DrawG.fork (n := 3) [2, 4] (by decide +kernel) (by decide) ?_
          refine (Fork.cons rfl (gC (v := (.sl 2 0 eV.length 1 false)) (h' := [some ⟨42, (aO (eI .u8) dL [(eI .i64 eD), (eI .i64 kN)])⟩, some ⟨85, x17.1.flatMap cI⟩, some ⟨22, eV.map (eL 1 (eI .u8))⟩]) (zB (uC h_7) []) rfl (fun _ => ⟨_, rfl⟩) (sv (d6 rfl gL))) ?_ (Fork.cons rfl (gS (v := (.ptr 2 0)) (h' := [some ⟨42, (aO (eI .u8) dL [(eI .i64 eD), (eI .i64 kN)])⟩, some ⟨85, x17.1.flatMap cI⟩, some ⟨105, (aO (eI .u8) (List.replicate 32 0) [(eI .i64 0), (eI .i64 0), (.row (some true) 1 []), (.row (some true) 1 []), (eI .i64 0)])⟩]) (sv (eK q7 rfl rfl rfl))) ?_ Fork.nil))
          · refine DrawG.pick (n := 2) (i := 3) (by decide +kernel) rfl (gS (v := (.agg (aO (eI .u8) dL [(eI .i64 eD), (eI .i64 kN), (.sl 2 0 eV.length 1 false), (.row (some true) 1 []), (eI .i64 0)]))) (sv (cB rfl (aAh q7 aIp rfl)))) <| DrawG.pick (n := 1) (i := 4) (by decide +kernel) rfl (gS (v := (.ptr 3 0)) (h' := [some ⟨42, (aO (eI .u8) dL [(eI .i64 eD), (eI .i64 kN)])⟩, some ⟨85, x17.1.flatMap cI⟩, some ⟨22, eV.map (eL 1 (eI .u8))⟩, some ⟨105, (aO (eI .u8) (List.replicate 32 0) [(eI .i64 0), (eI .i64 0), (.row (some true) 1 []), (.row (some true) 1 []), (eI .i64 0)])⟩]) (sv (eK q7 rfl rfl rfl))) ?_
            exact DrawG.jg (by decide +kernel) (by decide +kernel) (zG [1, 3, 2]) J
          · refine DrawG.pick (n := 2) (i := 2) (by decide +kernel) rfl (gC (v := (.sl 3 0 eV.length 1 false)) (h' := [some ⟨42, (aO (eI .u8) dL [(eI .i64 eD), (eI .i64 kN)])⟩, some ⟨85, x17.1.flatMap cI⟩, some ⟨105, (aO (eI .u8) (List.replicate 32 0) [(eI .i64 0), (eI .i64 0), (.row (some true) 1 []), (.row (some true) 1 []), (eI .i64 0)])⟩, some ⟨22, eV.map (eL 1 (eI .u8))⟩]) (zB (uC h_7) []) rfl (fun _ => ⟨_, rfl⟩) (sv (d6 rfl gL))) <| DrawG.pick (n := 1) (i := 3) (by decide +kernel) rfl (gS (v := (.agg (aO (eI .u8) dL [(eI .i64 eD), (eI .i64 kN), (.sl 3 0 eV.length 1 false), (.row (some true) 1 []), (eI .i64 0)]))) (sv (cB rfl (aAh q7 aIp rfl)))) ?_
            exact DrawG.jg (by decide +kernel) (by decide +kernel) (zG [1, 2, 3]) J
theorem aFE {N : Nat} {r : Bool} (hr : vK N = some r) :
    Vm.Fn Tryz.prog 5 [] [] (eB r) [] := by
  refine zf Tryz.func5 Tryz.ntmps5 ?_
  unfold vK at hr
  obtain ⟨bW, h_1, hr⟩ := aA hr
  refine zz ?_
  refine OpsX.ghost (zv 1) ?_
  refine zz ?_
  refine xw (v := (.agg (aO (eI .u8) (List.replicate 32 0) [(eI .i64 0), (eI .i64 0)]))) (cB rfl (aAh jQ aKH rfl)) <| OpsX.ghost (zv 0) ?_
  refine OpsX.ghost (zv 2) ?_
  refine zc (aBx h_1) [] ?_
  obtain ⟨x17, h_2, hr⟩ := aA hr
  refine zz ?_
  refine vG (zQ h_2) [] [4] ?_
  refine zz ?_
  refine AB.seq_g fun K1 hK1 hG1 => ?_
  have J1 : ∀ (x0 : Bool), j6 N x0 = some r → K1 (aG 47 [(0, (eB x0))]) [] := by
    intro x0 hr
    unfold j6 at hr
    refine hK1 _ _ ?_
    refine zz ?_
    obtain rfl := sj hr
    exact bO Tryz.results5 []
  rcases Bool.eq_false_or_eq_true (bW.2.2 == 0) with h3 | h3
  · replace hr := fM hr h3
    rcases Bool.eq_false_or_eq_true (bW.2.1 == 2) with h4 | h4
    · replace hr := fM hr h4
      rcases Bool.eq_false_or_eq_true ((bW.1.length : Int) == 1) with h5 | h5
      · replace hr := fM hr h5
        obtain ⟨oG, h_6, hr⟩ := aA hr
        rcases Bool.eq_false_or_eq_true ((oG.length : Int) == 1) with h7 | h7
        · replace hr := fM hr h7
          rcases Bool.eq_false_or_eq_true (x17.2 == 82) with h8 | h8
          · replace hr := fM hr h8
            obtain ⟨x43, h_9, hr⟩ := aA hr
            refine xr ?_
            refine zz ?_
            refine xCg (v := (.sl 5 0 x43.length 1 false)) (h' := [none, none, none, some ⟨22, bW.1.map (eL 1 (eI .u8))⟩, some ⟨5, [1, 0].map (eI .u8)⟩, some ⟨5, x43.map (eI .u8)⟩]) rfl rfl h8 rfl (zB (l7 h_9) []) ?_
            refine zz ?_
            exact hG1 _ _ _ _ (zG []) (J1 ((x43.length : Int) == 0) hr)
          · replace hr := fQ hr h8
            refine xr ?_
            refine zz ?_
            exact hG1 _ _ _ _ (zG []) (J1 false hr)
        · replace hr := fQ hr h7
          refine xr ?_
          refine zz ?_
          refine xX rfl <| xX rfl <| xX rfl ?_
          refine zz ?_
          exact hG1 _ _ _ _ (zG []) (J1 false hr)
      · replace hr := fQ hr h5
        refine xr ?_
        refine zz ?_
        refine xX rfl <| xX rfl ?_
        refine zz ?_
        refine xX rfl <| xX rfl <| xX rfl ?_
        refine zz ?_
        exact hG1 _ _ _ _ (zG []) (J1 false hr)
    · replace hr := fQ hr h4
      refine xr ?_
      refine zz ?_
      refine xX rfl <| xX rfl <| xX rfl <| xX rfl <| xX rfl ?_
      refine zz ?_
      refine xX rfl <| xX rfl ?_
      refine zz ?_
      refine xX rfl <| xX rfl <| xX rfl ?_
      refine zz ?_
      exact hG1 _ _ _ _ (zG []) (J1 false hr)
  · replace hr := fQ hr h3
    refine xr ?_
    refine zz ?_
    refine xX rfl <| xX rfl <| xX rfl ?_
    refine zz ?_
    refine xX rfl <| xX rfl <| xX rfl <| xX rfl <| xX rfl ?_
    refine zz ?_
    refine xX rfl <| xX rfl ?_
    refine zz ?_
    refine xX rfl <| xX rfl <| xX rfl ?_
    refine zz ?_
    exact hG1 _ _ _ _ (zG []) (J1 false hr)
theorem aBT {N : Nat} {vh : List Int} {r : (List Int)} (hr : nX N vh = some r) :
    Vm.Fn Tryz.prog 26 [] [(.agg (vh.map (eI .u8)))] (.agg (r.map (eI .u64))) [] := by
  refine zf Tryz.func26 Tryz.ntmps26 ?_
  unfold nX at hr
  refine zz ?_
  refine AB.seq_g fun K1 hK1 hG1 => ?_
  have J1 : ∀ (l1 : List Int), nN N l1 = some r → K1 (aG 27 [(2, (.ptr 0 0)), (3, (.ptr 1 0))]) [some ⟨31, (List.replicate 4 0).map (eI .u64)⟩, some ⟨31, l1.map (eI .u64)⟩] := by
    intro l1 hr
    unfold nN at hr
    refine hK1 _ _ ?_
    obtain ⟨q, h_1, hr⟩ := aA hr
    refine zz ?_
    obtain rfl := sj hr
    exact eR Tryz.results26 bC (zG [])
  obtain ⟨bD, hL2, hr⟩ := aA hr
  refine zz ?_
  refine AB.block <| AB.loopN (fun m s h => ∃ (x6 : Int) (l2 : List Int), f5 N vh m x6 l2 = some bD ∧ Ghost 0 s h (aG 27 [(1, (.ptr 0 0)), (2, (.ptr 1 0)), (3, (.ptr 2 0)), (6, (eI .i64 x6))]) [some ⟨24, vh.map (eI .u8)⟩, some ⟨31, (List.replicate 4 0).map (eI .u64)⟩, some ⟨31, l2.map (eI .u64)⟩]) (n := N) ⟨0, List.replicate 4 0, hL2, (zG [0, 1, 2])⟩ (by rintro s h ⟨_, _, h0, _⟩; simp [f5] at h0) ?_
  rintro m2 s h ⟨x6, l2, hr2, hg⟩
  refine AB.ghost hg ?_
  clear hg hL2
  rw [f5] at hr2
  refine zz ?_
  refine AB.seq ?_
  refine zk hr2 rfl (fun h2 hr2 => ?_) (fun h2 hr2 => ?_)
  · refine zz ?_
    refine AB.seq <| AB.block ?_
    obtain ⟨d7, h_3, hr2⟩ := aA hr2
    obtain ⟨x16, h_4, hr2⟩ := aA hr2
    obtain ⟨dW, h_5, hr2⟩ := aA hr2
    refine zz ?_
    refine AB.rs mixed [] [] [[0, 1, 2, 3, 4, 5, 6, 7, 8, 9, 10, 11, 12, 13, 14]] ?_
    refine zz ?_
    exact ⟨IntKind.i64.wrap (x6 + 1), l2.set (Int.toNat (IntKind.i64.wrap (Int.tdiv (IntKind.i64.wrap (31 - x6)) 8))) (bits .or .u64 d7 dW), hr2, (zG [0, 1, 2])⟩
  · refine zz ?_
    obtain rfl := sj hr2
    refine zz ?_
    exact hG1 _ _ _ _ (zG [1, 2]) (J1 l2 hr)
theorem oV {N : Nat} {vn : Int} {r : (List Int)} (hr : gV N vn = some r) :
    Vm.Fn Tryz.prog 62 [] [(eI .u64 vn)] (.agg (r.map (eI .u64))) [] := by
  refine zf Tryz.func62 Tryz.ntmps62 ?_
  unfold gV at hr
  refine zz ?_
  refine xw (v := (.agg ([vn, 0, 0, 0].map (eI .u64)))) (cB rfl (k4 bE jL rfl)) ?_
  refine zz ?_
  obtain rfl := sj hr
  exact eR Tryz.results62 bC (zG [])
theorem y7 {N : Nat} {va : List Int} {b : List Int} {r : (List Int) × Bool} (hr : pQ N va b = some r) :
    Vm.Fn Tryz.prog 90 [] [(.agg (va.map (eI .u64))), (.agg (b.map (eI .u64)))] (.tup [(.agg (r.1.map (eI .u64))), (eB r.2)]) [] := by
  refine zf Tryz.func90 Tryz.ntmps90 ?_
  unfold pQ at hr
  refine zz ?_
  refine AB.seq_g fun K1 hK1 hG1 => ?_
  have J1 : ∀ (borrow : Int) (l1 : List Int), u3 N borrow l1 = some r → K1 (aG 29 [(4, (.ptr 0 0)), (6, (.ptr 1 0)), (7, (eI .u64 borrow))]) [some ⟨31, (List.replicate 4 0).map (eI .u64)⟩, some ⟨31, l1.map (eI .u64)⟩] := by
    intro borrow l1 hr
    unfold u3 at hr
    refine hK1 _ _ ?_
    obtain ⟨q, h_1, hr⟩ := aA hr
    refine zz ?_
    obtain rfl := sj hr
    exact vV Tryz.results90 bC bC (rU [])
  obtain ⟨bD, hL2, hr⟩ := aA hr
  refine zz ?_
  refine AB.block <| AB.loopN (fun m s h => ∃ (borrow_1 : Int) (x9 : Int) (l3 : List Int), mG N va b m borrow_1 x9 l3 = some bD ∧ Ghost 0 s h (aG 29 [(2, (.ptr 0 0)), (3, (.ptr 1 0)), (4, (.ptr 2 0)), (6, (.ptr 3 0)), (7, (eI .u64 borrow_1)), (9, (eI .i64 x9))]) [some ⟨31, va.map (eI .u64)⟩, some ⟨31, b.map (eI .u64)⟩, some ⟨31, (List.replicate 4 0).map (eI .u64)⟩, some ⟨31, l3.map (eI .u64)⟩]) (n := N) ⟨0, 0, List.replicate 4 0, hL2, (zG [0, 1, 2, 3])⟩ (by rintro s h ⟨_, _, _, h0, _⟩; simp [mG] at h0) ?_
  rintro m2 s h ⟨borrow_1, x9, l3, hr2, hg⟩
  refine AB.ghost hg ?_
  clear hg hL2
  rw [mG] at hr2
  refine zz ?_
  refine AB.seq ?_
  refine zk hr2 rfl (fun h2 hr2 => ?_) (fun h2 hr2 => ?_)
  · refine zz ?_
    refine AB.seq <| AB.block ?_
    obtain ⟨x15, h_3, hr2⟩ := aA hr2
    obtain ⟨x18, h_4, hr2⟩ := aA hr2
    obtain ⟨dE, h_5, hr2⟩ := aA hr2
    obtain ⟨jD, h_7, hr2⟩ := aA hr2
    refine zz ?_
    refine AB.rs mixed [115] [] [[0, 1, 2, 3, 4, 5, 6, 7, 8, 9, 10, 11, 12, 13, 14]] ?_
    refine zz ?_
    refine xu (xO h_5) ?_
    refine zz ?_
    exact ⟨dE.2, IntKind.i64.wrap (x9 + 1), l3.set (Int.toNat x9) dE.1, hr2, (zG [0, 1, 2, 3])⟩
  · refine zz ?_
    obtain rfl := sj hr2
    refine zz ?_
    exact hG1 _ _ _ _ (zG [2, 3]) (J1 borrow_1 l3 hr)
theorem zE {N : Nat} {r : (List Int)} (hr : nJ N = some r) :
    Vm.Fn Tryz.prog 92 [] [] (.agg (r.map (eI .u64))) [] := by
  refine zf Tryz.func92 Tryz.ntmps92 ?_
  unfold nJ at hr
  obtain ⟨x5, h_1, hr⟩ := aA hr
  obtain ⟨x6, h_2, hr⟩ := aA hr
  obtain ⟨q, h_3, hr⟩ := aA hr
  refine zz ?_
  refine xw (v := (.agg ([0, 0, 0, 0].map (eI .u64)))) (cB rfl (k4 bE jL rfl)) <| xp (oV h_1) <| xp (y7 h_2) ?_
  refine zz ?_
  obtain rfl := sj hr
  exact eR Tryz.results92 bC (zG [])
theorem r6 {N : Nat} {va : List Int} {vi : Int} {r : Bool} (hr : kW N va vi = some r) :
    Vm.Fn Tryz.prog 116 [] [(.agg (va.map (eI .u64))), (eI .i64 vi)] (eB r) [] := by
  refine zf Tryz.func116 Tryz.ntmps116 ?_
  unfold kW at hr
  obtain ⟨x7, h_1, hr⟩ := aA hr
  obtain ⟨bW, h_2, hr⟩ := aA hr
  refine zz ?_
  obtain rfl := sj hr
  exact bO Tryz.results116 []
theorem aFQ {N : Nat} {va : List Int} {vn : Int} {r : (List Int)} (hr : z9 N va vn = some r) :
    Vm.Fn Tryz.prog 91 [] [(.agg (va.map (eI .u64))), (eI .i64 vn)] (.agg (r.map (eI .u64))) [] := by
  refine zf Tryz.func91 Tryz.ntmps91 ?_
  unfold z9 at hr
  refine zz ?_
  refine AB.seq ?_
  refine zz ?_
  refine zk hr rfl (fun h1 hr => ?_) (fun h1 hr => ?_)
  · obtain ⟨q, h_2, hr⟩ := aA hr
    refine zz ?_
    obtain rfl := sj hr
    exact eR Tryz.results91 bC (zG [])
  · refine zz ?_
    refine AB.seq ?_
    refine zz ?_
    refine zk hr rfl (fun h3 hr => ?_) (fun h3 hr => ?_)
    · refine zz ?_
      refine xw (v := (.agg ([0, 0, 0, 0].map (eI .u64)))) (cB rfl (k4 bE jL rfl)) ?_
      refine zz ?_
      obtain rfl := sj hr
      exact eR Tryz.results91 bC (zG [])
    · refine zz ?_
      refine AB.seq_g fun K1 hK1 hG1 => ?_
      have J1 : ∀ (l1 : List Int), zS N l1 = some r → K1 (aG 34 [(4, (.ptr 0 0)), (5, (.ptr 1 0))]) [some ⟨31, (List.replicate 4 0).map (eI .u64)⟩, some ⟨31, l1.map (eI .u64)⟩] := by
        intro l1 hr
        unfold zS at hr
        refine hK1 _ _ ?_
        obtain ⟨q_1, h_4, hr⟩ := aA hr
        refine zz ?_
        obtain rfl := sj hr
        exact eR Tryz.results91 bC (zG [])
      obtain ⟨bD, hL2, hr⟩ := aA hr
      refine zz ?_
      refine AB.block <| AB.loopN (fun m s h => ∃ (vi : Int) (l2 : List Int), gG N va vn m vi l2 = some bD ∧ Ghost 0 s h (aG 34 [(1, (eI .i64 vn)), (2, (.ptr 0 0)), (4, (.ptr 1 0)), (5, (.ptr 2 0)), (6, (eI .i64 vi))]) [some ⟨31, va.map (eI .u64)⟩, some ⟨31, (List.replicate 4 0).map (eI .u64)⟩, some ⟨31, l2.map (eI .u64)⟩]) (n := N) ⟨0, List.replicate 4 0, hL2, (zG [0, 1, 2])⟩ (by rintro s h ⟨_, _, h0, _⟩; simp [gG] at h0) ?_
      rintro m2 s h ⟨vi, l2, hr2, hg⟩
      refine AB.ghost hg ?_
      clear hg hL2
      rw [gG] at hr2
      refine AB.seq ?_
      refine zz ?_
      refine zk hr2 rfl (fun h5 hr2 => ?_) (fun h5 hr2 => ?_)
      · refine zz ?_
        refine AB.seq_g fun K3 hK3 hG3 => ?_
        have J3 : ∀ (cX : List Int), vD N va vn vi (gG N va vn m2) cX = some bD → K3 (aG 34 [(1, (eI .i64 vn)), (2, (.ptr 0 0)), (4, (.ptr 1 0)), (5, (.ptr 2 0)), (6, (eI .i64 vi))]) [some ⟨31, va.map (eI .u64)⟩, some ⟨31, (List.replicate 4 0).map (eI .u64)⟩, some ⟨31, cX.map (eI .u64)⟩] := by
          intro cX hr2
          unfold vD at hr2
          refine hK3 _ _ ?_
          refine zz ?_
          exact ⟨IntKind.i64.wrap (vi + 1), cX, hr2, (zG [0, 1, 2])⟩
        refine AB.block ?_
        obtain ⟨q_2, h_6, hr2⟩ := aA hr2
        obtain ⟨e9, h_7, hr2⟩ := aA hr2
        refine zz ?_
        refine xp (r6 h_7) ?_
        refine zz ?_
        refine zk hr2 rfl (fun h8 hr2 => ?_) (fun h8 hr2 => ?_)
        · obtain ⟨x26, h_9, hr2⟩ := aA hr2
          obtain ⟨mL, h_10, hr2⟩ := aA hr2
          refine AB.rs mixed [] [] [[0, 1, 2, 3, 4, 5, 6, 7, 8, 9]] ?_
          refine zz ?_
          exact hG3 _ _ _ _ (zG [0, 1, 2]) (J3 (l2.set (Int.toNat (IntKind.i64.wrap (Int.tdiv vi 64))) (bits .or .u64 x26 mL)) hr2)
        · refine zz ?_
          exact hG3 _ _ _ _ (zG [0, 1, 2]) (J3 l2 hr2)
      · refine zz ?_
        obtain rfl := sj hr2
        refine zz ?_
        exact hG1 _ _ _ _ (zG [1, 2]) (J1 l2 hr)
theorem wL {N : Nat} {r : (List Int)} (hr : oU N = some r) :
    Vm.Fn Tryz.prog 58 [] [] (.agg (r.map (eI .u64))) [] := by
  refine zf Tryz.func58 Tryz.ntmps58 ?_
  unfold oU at hr
  obtain ⟨x1, h_1, hr⟩ := aA hr
  obtain ⟨x2, h_2, hr⟩ := aA hr
  obtain ⟨q, h_3, hr⟩ := aA hr
  refine zz ?_
  refine xp (zE h_1) <| xp (aFQ h_2) ?_
  refine zz ?_
  obtain rfl := sj hr
  exact eR Tryz.results58 bC (zG [])
theorem nE {N : Nat} {va : List Int} {r : Bool} (hr : lR N va = some r) :
    Vm.Fn Tryz.prog 59 [] [(.agg (va.map (eI .u64)))] (eB r) [] := by
  refine zf Tryz.func59 Tryz.ntmps59 ?_
  unfold lR at hr
  obtain ⟨q, h_1, hr⟩ := aA hr
  refine zz ?_
  refine xw (v := (.agg ([0, 0, 0, 0].map (eI .u64)))) (cB rfl (k4 bE jL rfl)) ?_
  refine zz ?_
  obtain rfl := sj hr
  exact bO Tryz.results59 []
theorem vF {N : Nat} {va : List Int} {b : List Int} {r : Int} (hr : pP N va b = some r) :
    Vm.Fn Tryz.prog 60 [] [(.agg (va.map (eI .u64))), (.agg (b.map (eI .u64)))] (eI .i64 r) [] := by
  refine zf Tryz.func60 Tryz.ntmps60 ?_
  unfold pP at hr
  refine zz ?_
  refine AB.seq_g fun K1 hK1 hG1 => ?_
  have J1 : zF N = some r → K1 (aG 24 []) [] := by
    intro hr
    unfold zF at hr
    refine hK1 _ _ ?_
    refine zz ?_
    obtain rfl := sj hr
    exact bO Tryz.results60 []
  obtain ⟨bD, hL2, hr⟩ := aA hr
  refine zz ?_
  refine AB.block <| AB.loopN (fun m s h => ∃ (vi : Int), mT N va b m vi = some bD ∧ Ghost 0 s h (aG 24 [(2, (.ptr 0 0)), (3, (.ptr 1 0)), (5, (eI .i64 vi))]) [some ⟨31, va.map (eI .u64)⟩, some ⟨31, b.map (eI .u64)⟩]) (n := N) ⟨3, hL2, (zG [0, 1])⟩ (by rintro s h ⟨_, h0, _⟩; simp [mT] at h0) ?_
  rintro m2 s h ⟨vi, hr2, hg⟩
  refine AB.ghost hg ?_
  clear hg hL2
  rw [mT] at hr2
  refine AB.seq ?_
  refine zz ?_
  refine zk hr2 rfl (fun h1 hr2 => ?_) (fun h1 hr2 => ?_)
  · refine zz ?_
    refine AB.seq <| AB.block <| AB.seq <| AB.seq ?_
    obtain ⟨bW, h_2, hr2⟩ := aA hr2
    obtain ⟨aZ, h_3, hr2⟩ := aA hr2
    refine AB.rs mixed [] [] [[0, 1, 2, 3, 4, 5, 6]] ?_
    refine zz ?_
    refine zk hr2 rfl (fun h4 hr2 => ?_) (fun h4 hr2 => ?_)
    · refine zz ?_
      obtain rfl := sj hr2
      obtain rfl := sj hr
      exact bO Tryz.results60 []
    · refine zz ?_
      refine AB.seq <| AB.rs mixed [] [] [[0, 1, 2, 3, 4, 5, 6]] ?_
      refine zz ?_
      refine zk hr2 rfl (fun h5 hr2 => ?_) (fun h5 hr2 => ?_)
      · refine zz ?_
        obtain rfl := sj hr2
        obtain rfl := sj hr
        exact bO Tryz.results60 []
      · refine zz ?_
        exact ⟨IntKind.i64.wrap (vi - 1), hr2, (zG [0, 1])⟩
  · refine zz ?_
    obtain rfl := sj hr2
    refine zz ?_
    exact hG1 _ _ _ _ (zG []) (J1 hr)
theorem aBJ {N : Nat} {va : List Int} {b : List Int} {r : (List Int) × Bool} (hr : r8 N va b = some r) :
    Vm.Fn Tryz.prog 89 [] [(.agg (va.map (eI .u64))), (.agg (b.map (eI .u64)))] (.tup [(.agg (r.1.map (eI .u64))), (eB r.2)]) [] := by
  refine zf Tryz.func89 Tryz.ntmps89 ?_
  unfold r8 at hr
  refine zz ?_
  refine AB.seq_g fun K1 hK1 hG1 => ?_
  have J1 : ∀ (iL : Int) (l1 : List Int), uZ N iL l1 = some r → K1 (aG 29 [(4, (.ptr 0 0)), (6, (.ptr 1 0)), (7, (eI .u64 iL))]) [some ⟨31, (List.replicate 4 0).map (eI .u64)⟩, some ⟨31, l1.map (eI .u64)⟩] := by
    intro iL l1 hr
    unfold uZ at hr
    refine hK1 _ _ ?_
    obtain ⟨q, h_1, hr⟩ := aA hr
    refine zz ?_
    obtain rfl := sj hr
    exact vV Tryz.results89 bC bC (rU [])
  obtain ⟨bD, hL2, hr⟩ := aA hr
  refine zz ?_
  refine AB.block <| AB.loopN (fun m s h => ∃ (carry_1 : Int) (x9 : Int) (l3 : List Int), mI N va b m carry_1 x9 l3 = some bD ∧ Ghost 0 s h (aG 29 [(2, (.ptr 0 0)), (3, (.ptr 1 0)), (4, (.ptr 2 0)), (6, (.ptr 3 0)), (7, (eI .u64 carry_1)), (9, (eI .i64 x9))]) [some ⟨31, va.map (eI .u64)⟩, some ⟨31, b.map (eI .u64)⟩, some ⟨31, (List.replicate 4 0).map (eI .u64)⟩, some ⟨31, l3.map (eI .u64)⟩]) (n := N) ⟨0, 0, List.replicate 4 0, hL2, (zG [0, 1, 2, 3])⟩ (by rintro s h ⟨_, _, _, h0, _⟩; simp [mI] at h0) ?_
  rintro m2 s h ⟨carry_1, x9, l3, hr2, hg⟩
  refine AB.ghost hg ?_
  clear hg hL2
  rw [mI] at hr2
  refine zz ?_
  refine AB.seq ?_
  refine zk hr2 rfl (fun h2 hr2 => ?_) (fun h2 hr2 => ?_)
  · refine zz ?_
    refine AB.seq <| AB.block ?_
    obtain ⟨x15, h_3, hr2⟩ := aA hr2
    obtain ⟨x18, h_4, hr2⟩ := aA hr2
    obtain ⟨dE, h_5, hr2⟩ := aA hr2
    obtain ⟨jD, h_7, hr2⟩ := aA hr2
    refine zz ?_
    refine AB.rs mixed [114] [] [[0, 1, 2, 3, 4, 5, 6, 7, 8, 9, 10, 11, 12, 13, 14]] ?_
    refine zz ?_
    refine xu (iX h_5) ?_
    refine zz ?_
    exact ⟨dE.2, IntKind.i64.wrap (x9 + 1), l3.set (Int.toNat x9) dE.1, hr2, (zG [0, 1, 2, 3])⟩
  · refine zz ?_
    obtain rfl := sj hr2
    refine zz ?_
    exact hG1 _ _ _ _ (zG [2, 3]) (J1 carry_1 l3 hr)
theorem aBF {N : Nat} {hi : List Int} {lo : List Int} {b : List Int} {r : (List Int) × (List Int) × Bool} (hr : uM N hi lo b = some r) :
    Vm.Fn Tryz.prog 96 [] [(.agg (hi.map (eI .u64))), (.agg (lo.map (eI .u64))), (.agg (b.map (eI .u64)))] (.tup [(.agg (r.1.map (eI .u64))), (.agg (r.2.1.map (eI .u64))), (eB r.2.2)]) [] := by
  refine zf Tryz.func96 Tryz.ntmps96 ?_
  unfold uM at hr
  refine zz ?_
  refine AB.seq ?_
  obtain ⟨q, h_1, hr⟩ := aA hr
  obtain ⟨q_1, h_2, hr⟩ := aA hr
  obtain ⟨d7, h_3, hr⟩ := aA hr
  refine zz ?_
  refine xp (vF h_3) ?_
  refine zz ?_
  refine zk hr rfl (fun h4 hr => ?_) (fun h4 hr => ?_)
  · refine AB.seq <| AB.rd (dN []) (dN []) mixed <| DrawG.pick (n := 4) (i := 0) (by decide +kernel) rfl (gS (v := (.agg ((List.replicate 4 0).map (eI .u64)))) (sv (bA rfl (uN (E := (eI .u64)) (l := List.replicate 4 0) bE rfl rfl rfl)))) ?_
    refine DrawG.jn (m := 2) (L := lst [0, 1, 2] 5) (s1 := aG 61 [(6, (.ptr 0 0)), (7, (.ptr 1 0)), (8, (eB false)), (16, (.agg ((List.replicate 4 0).map (eI .u64))))]) (h1 := [some ⟨31, (List.replicate 4 0).map (eI .u64)⟩, some ⟨31, (List.replicate 4 0).map (eI .u64)⟩]) ?_ (fun J => ?_)
    · refine DrawG.pick (n := 1) (i := 3) (by decide +kernel) rfl (gN (h' := [some ⟨31, (List.replicate 4 0).map (eI .u64)⟩, some ⟨31, (List.replicate 4 0).map (eI .u64)⟩]) (sv (bG rfl rfl (s6 (E := (eI .u64)) (l := List.replicate 4 0) bE rfl rfl (fun _ => rfl) rfl rfl rfl)))) <| DrawG.pick (n := 0) (i := 4) (by decide +kernel) rfl (gS (v := (eB false)) (sv (bB rfl))) <| DrawG.nil (by decide +kernel) ?_
      refine zz ?_
      obtain rfl := sj hr
      exact zr3 Tryz.results96 bC bC bC (rU [])
    · refine DrawG.fork (n := 3) [1, 2] (by decide +kernel) (by decide) ?_
      refine (Fork.cons rfl (gS (v := (.agg ((List.replicate 4 0).map (eI .u64)))) (sv (bA rfl (uN (E := (eI .u64)) (l := List.replicate 4 0) bE rfl rfl rfl)))) ?_ (Fork.cons rfl (gN (h' := [some ⟨31, hi.map (eI .u64)⟩, some ⟨31, lo.map (eI .u64)⟩, some ⟨31, b.map (eI .u64)⟩, some ⟨31, (List.replicate 4 0).map (eI .u64)⟩, some ⟨31, (List.replicate 4 0).map (eI .u64)⟩]) (sv (bG rfl rfl (s6 (E := (eI .u64)) (l := List.replicate 4 0) bE rfl rfl (fun _ => rfl) rfl rfl rfl)))) ?_ Fork.nil))
      · refine DrawG.pick (n := 2) (i := 2) (by decide +kernel) rfl (gN (h' := [some ⟨31, hi.map (eI .u64)⟩, some ⟨31, lo.map (eI .u64)⟩, some ⟨31, b.map (eI .u64)⟩, some ⟨31, (List.replicate 4 0).map (eI .u64)⟩, some ⟨31, (List.replicate 4 0).map (eI .u64)⟩]) (sv (bG rfl rfl (s6 (E := (eI .u64)) (l := List.replicate 4 0) bE rfl rfl (fun _ => rfl) rfl rfl rfl)))) ?_
        exact DrawG.jg (by decide +kernel) (by decide +kernel) (zG [3, 4]) J
      · refine DrawG.pick (n := 2) (i := 1) (by decide +kernel) rfl (gS (v := (.agg ((List.replicate 4 0).map (eI .u64)))) (sv (bA rfl (uN (E := (eI .u64)) (l := List.replicate 4 0) bE rfl rfl rfl)))) ?_
        exact DrawG.jg (by decide +kernel) (by decide +kernel) (zG [3, 4]) J
  · refine zz ?_
    refine AB.seq_g fun K1 hK1 hG1 => ?_
    have J1 : ∀ (l0 : List Int) (l1 : List Int), u5 N l0 l1 = some r → K1 (aG 61 [(6, (.ptr 0 0)), (7, (.ptr 1 0))]) [some ⟨31, l0.map (eI .u64)⟩, some ⟨31, l1.map (eI .u64)⟩] := by
      intro l0 l1 hr
      unfold u5 at hr
      refine hK1 _ _ <| AB.seq ?_
      obtain ⟨q_2, h_5, hr⟩ := aA hr
      obtain ⟨q_3, h_6, hr⟩ := aA hr
      refine AB.rd (dN []) (dN []) mixed <| DrawG.pick (n := 4) (i := 0) (by decide +kernel) rfl (gS (v := (.agg (l0.map (eI .u64)))) (sv (bA rfl (uN (E := (eI .u64)) (l := l0) bE rfl rfl (aQ h_5))))) ?_
      refine DrawG.jn (m := 2) (L := lst [0, 1, 2] 5) (s1 := aG 61 [(6, (.ptr 0 0)), (7, (.ptr 1 0)), (60, (.agg (l1.map (eI .u64))))]) (h1 := [some ⟨31, l0.map (eI .u64)⟩, some ⟨31, l1.map (eI .u64)⟩]) ?_ (fun J => ?_)
      · refine DrawG.pick (n := 1) (i := 3) (by decide +kernel) rfl (gN (h' := [some ⟨31, l0.map (eI .u64)⟩, some ⟨31, l1.map (eI .u64)⟩]) (sv (bG rfl rfl (s6 (E := (eI .u64)) (l := l1) bE rfl rfl (fun _ => rfl) (aQ h_6) (aQ h_6) rfl)))) <| DrawG.pick (n := 0) (i := 4) (by decide +kernel) rfl (gS (v := (eB true)) (sv (bB rfl))) <| DrawG.nil (by decide +kernel) ?_
        refine zz ?_
        obtain rfl := sj hr
        exact zr3 Tryz.results96 bC bC bC (rU [])
      · refine DrawG.fork (n := 3) [1, 2] (by decide +kernel) (by decide) ?_
        refine (Fork.cons rfl (gS (v := (.agg (l1.map (eI .u64)))) (sv (bA rfl (uN (E := (eI .u64)) (l := l1) bE rfl rfl (aQ h_6))))) ?_ (Fork.cons rfl (gN (h' := [some ⟨31, l0.map (eI .u64)⟩, some ⟨31, l1.map (eI .u64)⟩]) (sv (bG rfl rfl (s6 (E := (eI .u64)) (l := l0) bE rfl rfl (fun _ => rfl) (aQ h_5) (aQ h_5) rfl)))) ?_ Fork.nil))
        · refine DrawG.pick (n := 2) (i := 2) (by decide +kernel) rfl (gN (h' := [some ⟨31, l0.map (eI .u64)⟩, some ⟨31, l1.map (eI .u64)⟩]) (sv (bG rfl rfl (s6 (E := (eI .u64)) (l := l0) bE rfl rfl (fun _ => rfl) (aQ h_5) (aQ h_5) rfl)))) ?_
          exact DrawG.jg (by decide +kernel) (by decide +kernel) (zG [0, 1]) J
        · refine DrawG.pick (n := 2) (i := 1) (by decide +kernel) rfl (gS (v := (.agg (l1.map (eI .u64)))) (sv (bA rfl (uN (E := (eI .u64)) (l := l1) bE rfl rfl (aQ h_6))))) ?_
          exact DrawG.jg (by decide +kernel) (by decide +kernel) (zG [0, 1]) J
    obtain ⟨bD, hL2, hr⟩ := aA hr
    refine zz ?_
    refine AB.block <| AB.loopN (fun m s h => ∃ (vi : Int) (l2 : List Int) (l3 : List Int), dR N lo b m vi l2 l3 = some bD ∧ Ghost 0 s h (aG 61 [(4, (.ptr 0 0)), (5, (.ptr 1 0)), (6, (.ptr 2 0)), (7, (.ptr 3 0)), (9, (eI .i64 vi))]) [some ⟨31, lo.map (eI .u64)⟩, some ⟨31, b.map (eI .u64)⟩, some ⟨31, l2.map (eI .u64)⟩, some ⟨31, l3.map (eI .u64)⟩]) (n := N) ⟨255, List.replicate 4 0, hi, hL2, (zG [1, 2, 3, 4])⟩ (by rintro s h ⟨_, _, _, h0, _⟩; simp [dR] at h0) ?_
    rintro m2 s h ⟨vi, l2, l3, hr2, hg⟩
    refine AB.ghost hg ?_
    clear hg hL2
    rw [dR] at hr2
    refine AB.seq ?_
    refine zz ?_
    refine zk hr2 rfl (fun h7 hr2 => ?_) (fun h7 hr2 => ?_)
    · refine zz ?_
      refine AB.seq_g fun K3 hK3 hG3 => ?_
      have J3 : ∀ (cX : List Int) (jF : List Int), pJ N lo b vi (dR N lo b m2) cX jF = some bD → K3 (aG 61 [(4, (.ptr 0 0)), (5, (.ptr 1 0)), (6, (.ptr 2 0)), (7, (.ptr 3 0)), (9, (eI .i64 vi))]) [some ⟨31, lo.map (eI .u64)⟩, some ⟨31, b.map (eI .u64)⟩, some ⟨31, cX.map (eI .u64)⟩, some ⟨31, jF.map (eI .u64)⟩] := by
        intro cX jF hr2
        unfold pJ at hr2
        refine hK3 _ _ ?_
        refine zz ?_
        exact ⟨IntKind.i64.wrap (vi - 1), cX, jF, hr2, (zG [0, 1, 2, 3])⟩
      refine AB.block ?_
      obtain ⟨q_4, h_8, hr2⟩ := aA hr2
      obtain ⟨e9, h_9, hr2⟩ := aA hr2
      refine zz ?_
      refine xp (r6 h_9) ?_
      obtain ⟨x27, h_10, hr2⟩ := aA hr2
      obtain ⟨q_5, h_11, hr2⟩ := aA hr2
      refine zz ?_
      refine xp (aBJ h_10) ?_
      refine zz ?_
      refine AB.seq_g fun K4 hK4 hG4 => ?_
      have J4 : ∀ (f7 : List Int), pD N lo b vi l2 e9 (dR N lo b m2) f7 = some bD → K4 (aG 61 [(4, (.ptr 0 0)), (5, (.ptr 1 0)), (6, (.ptr 2 0)), (7, (.ptr 3 0)), (9, (eI .i64 vi)), (10, (eB e9))]) [some ⟨31, lo.map (eI .u64)⟩, some ⟨31, b.map (eI .u64)⟩, some ⟨31, l2.map (eI .u64)⟩, some ⟨31, f7.map (eI .u64)⟩] := by
        intro f7 hr2
        unfold pD at hr2
        refine hK4 _ _ ?_
        refine AB.seq_g fun K5 hK5 hG5 => ?_
        have J5 : ∀ (x43 : Bool), mX N lo b vi l2 f7 (dR N lo b m2) x43 = some bD → K5 (aG 61 [(4, (.ptr 0 0)), (5, (.ptr 1 0)), (6, (.ptr 2 0)), (7, (.ptr 3 0)), (9, (eI .i64 vi)), (43, (eB x43))]) [some ⟨31, lo.map (eI .u64)⟩, some ⟨31, b.map (eI .u64)⟩, some ⟨31, l2.map (eI .u64)⟩, some ⟨31, f7.map (eI .u64)⟩] := by
          intro x43 hr2
          unfold mX at hr2
          refine hK5 _ _ ?_
          refine zk hr2 rfl (fun h12 hr2 => ?_) (fun h12 hr2 => ?_)
          · obtain ⟨q_6, h_13, hr2⟩ := aA hr2
            obtain ⟨x47, h_14, hr2⟩ := aA hr2
            obtain ⟨q_7, h_15, hr2⟩ := aA hr2
            refine zz ?_
            refine xp (y7 h_14) ?_
            obtain ⟨x52, h_16, hr2⟩ := aA hr2
            obtain ⟨x56, h_17, hr2⟩ := aA hr2
            refine zz ?_
            refine AB.rs mixed [] [] [[0, 1, 2, 3, 4, 5, 6, 7, 8, 9]] ?_
            refine zz ?_
            exact hG3 _ _ _ _ (zG [0, 1, 2, 3]) (J3 (l2.set (Int.toNat (IntKind.i64.wrap (Int.tdiv vi 64))) (bits .or .u64 x52 x56)) x47.1 hr2)
          · refine zz ?_
            exact hG3 _ _ _ _ (zG [0, 1, 2, 3]) (J3 l2 f7 hr2)
        rcases Bool.eq_false_or_eq_true e9 with h18 | h18
        · replace hr2 := fM hr2 h18
          refine xr ?_
          refine zz ?_
          exact hG5 _ _ _ _ (zG [0, 1, 2, 3]) (J5 true hr2)
        · replace hr2 := fQ hr2 h18
          obtain ⟨q_8, h_19, hr2⟩ := aA hr2
          obtain ⟨x41, h_20, hr2⟩ := aA hr2
          refine xr ?_
          refine zz ?_
          refine xCg (v := (eI .i64 x41)) (h' := [some ⟨31, lo.map (eI .u64)⟩, some ⟨31, b.map (eI .u64)⟩, some ⟨31, l2.map (eI .u64)⟩, some ⟨31, f7.map (eI .u64)⟩]) rfl rfl h18 rfl (Vm.Fn.pure (vF h_20) zR rfl) ?_
          refine zz ?_
          exact hG5 _ _ _ _ (zG [0, 1, 2, 3]) (J5 (decide (0 ≤ x41)) hr2)
      obtain ⟨q_9, h_21, hr2⟩ := aA hr2
      obtain ⟨nA, h_22, hr2⟩ := aA hr2
      refine zz ?_
      refine xp (r6 h_22) ?_
      refine zz ?_
      refine zk hr2 rfl (fun h23 hr2 => ?_) (fun h23 hr2 => ?_)
      · obtain ⟨oG, h_24, hr2⟩ := aA hr2
        refine zz ?_
        exact hG4 _ _ _ _ (zG [0, 1, 2, 3]) (J4 (x27.1.set (Int.toNat 0) (bits .or .u64 oG 1)) hr2)
      · refine zz ?_
        exact hG4 _ _ _ _ (zG [0, 1, 2, 3]) (J4 x27.1 hr2)
    · refine zz ?_
      obtain rfl := sj hr2
      refine zz ?_
      exact hG1 _ _ _ _ (zG [2, 3]) (J1 l2 l3 hr)
theorem nS {N : Nat} {va : List Int} {vm : List Int} {r : (List Int)} (hr : jK N va vm = some r) :
    Vm.Fn Tryz.prog 88 [] [(.agg (va.map (eI .u64))), (.agg (vm.map (eI .u64)))] (.agg (r.map (eI .u64))) [] := by
  refine zf Tryz.func88 Tryz.ntmps88 ?_
  unfold jK at hr
  obtain ⟨q, h_1, hr⟩ := aA hr
  obtain ⟨q_1, h_2, hr⟩ := aA hr
  obtain ⟨cL, h_3, hr⟩ := aA hr
  obtain ⟨q_2, h_4, hr⟩ := aA hr
  obtain ⟨q_3, h_5, hr⟩ := aA hr
  refine zz ?_
  refine xw (v := (.agg ([0, 0, 0, 0].map (eI .u64)))) (cB rfl (k4 bE jL rfl)) ?_
  refine zz ?_
  refine xp (aBF h_3) ?_
  refine zz ?_
  obtain rfl := sj hr
  exact eR Tryz.results88 bC (zG [])
theorem aDx {N : Nat} {va : List Int} {b : List Int} {vm : List Int} {r : (List Int)} (hr : rO N va b vm = some r) :
    Vm.Fn Tryz.prog 57 [] [(.agg (va.map (eI .u64))), (.agg (b.map (eI .u64))), (.agg (vm.map (eI .u64)))] (.agg (r.map (eI .u64))) [] := by
  refine zf Tryz.func57 Tryz.ntmps57 ?_
  unfold rO at hr
  refine zz ?_
  refine AB.seq ?_
  obtain ⟨q, h_1, hr⟩ := aA hr
  obtain ⟨bS, h_2, hr⟩ := aA hr
  refine zz ?_
  refine xp (nE h_2) ?_
  refine zz ?_
  refine zk hr rfl (fun h3 hr => ?_) (fun h3 hr => ?_)
  · refine zz ?_
    obtain rfl := sj hr
    exact eR Tryz.results57 bC (zG [])
  · refine zz ?_
    refine AB.seq ?_
    obtain ⟨q_1, h_4, hr⟩ := aA hr
    obtain ⟨aZ, h_5, hr⟩ := aA hr
    obtain ⟨q_2, h_7, hr⟩ := aA hr
    obtain ⟨x17, h_8, hr⟩ := aA hr
    obtain ⟨q_3, h_10, hr⟩ := aA hr
    obtain ⟨q_4, h_11, hr⟩ := aA hr
    refine AB.rs mixed [88] [] [[0, 1, 2, 3, 4, 5, 6, 7]] ?_
    refine zz ?_
    refine xu (nS h_5) ?_
    refine zz ?_
    refine xu (nS h_8) ?_
    obtain ⟨dE, h_12, hr⟩ := aA hr
    obtain ⟨q_5, h_13, hr⟩ := aA hr
    refine zz ?_
    refine xp (aBJ h_12) ?_
    refine zz ?_
    refine AB.seq_g fun K1 hK1 hG1 => ?_
    have J1 : ∀ (l1 : List Int), lE N l1 = some r → K1 (aG 38 [(6, (.ptr 0 0)), (7, (.ptr 1 0))]) [some ⟨31, (List.replicate 4 0).map (eI .u64)⟩, some ⟨31, l1.map (eI .u64)⟩] := by
      intro l1 hr
      unfold lE at hr
      refine hK1 _ _ ?_
      obtain ⟨q_6, h_14, hr⟩ := aA hr
      refine zz ?_
      obtain rfl := sj hr
      exact eR Tryz.results57 bC (zG [])
    refine AB.seq_g fun K2 hK2 hG2 => ?_
    have J2 : ∀ (mL : Bool), jU N vm dE mL = some r → K2 (aG 38 [(5, (.ptr 0 0)), (6, (.ptr 1 0)), (7, (.ptr 2 0)), (30, (eB mL))]) [some ⟨31, vm.map (eI .u64)⟩, some ⟨31, (List.replicate 4 0).map (eI .u64)⟩, some ⟨31, dE.1.map (eI .u64)⟩] := by
      intro mL hr
      unfold jU at hr
      refine hK2 _ _ ?_
      refine zk hr rfl (fun h15 hr => ?_) (fun h15 hr => ?_)
      · obtain ⟨fY, h_16, hr⟩ := aA hr
        obtain ⟨q_7, h_17, hr⟩ := aA hr
        refine zz ?_
        refine xp (y7 h_16) ?_
        refine zz ?_
        exact hG1 _ _ _ _ (zG [1, 2]) (J1 fY.1 hr)
      · refine zz ?_
        exact hG1 _ _ _ _ (zG [1, 2]) (J1 dE.1 hr)
    rcases Bool.eq_false_or_eq_true dE.2 with h18 | h18
    · replace hr := fM hr h18
      refine xr ?_
      refine zz ?_
      exact hG2 _ _ _ _ (zG [2, 3, 4]) (J2 true hr)
    · replace hr := fQ hr h18
      obtain ⟨x28, h_19, hr⟩ := aA hr
      refine xr ?_
      refine zz ?_
      refine xCg (v := (eI .i64 x28)) (h' := [some ⟨31, aZ.map (eI .u64)⟩, some ⟨31, x17.map (eI .u64)⟩, some ⟨31, vm.map (eI .u64)⟩, some ⟨31, (List.replicate 4 0).map (eI .u64)⟩, some ⟨31, dE.1.map (eI .u64)⟩]) rfl rfl h18 rfl (Vm.Fn.pure (vF h_19) zR rfl) ?_
      refine zz ?_
      exact hG2 _ _ _ _ (zG [2, 3, 4]) (J2 (decide (0 ≤ x28)) hr)
theorem xK {N : Nat} {va : List Int} {b : List Int} {r : (List Int)} (hr : lK N va b = some r) :
    Vm.Fn Tryz.prog 25 [] [(.agg (va.map (eI .u64))), (.agg (b.map (eI .u64)))] (.agg (r.map (eI .u64))) [] := by
  refine zf Tryz.func25 Tryz.ntmps25 ?_
  unfold lK at hr
  refine zz ?_
  refine AB.seq ?_
  obtain ⟨q, h_1, hr⟩ := aA hr
  obtain ⟨q_1, h_2, hr⟩ := aA hr
  obtain ⟨x7, h_3, hr⟩ := aA hr
  obtain ⟨x8, h_5, hr⟩ := aA hr
  obtain ⟨q_2, h_7, hr⟩ := aA hr
  refine AB.rs mixed [57, 58] [] [[0, 1, 2, 3, 4]] ?_
  refine zz ?_
  refine xu (wL h_3) <| xu (aDx h_5) ?_
  refine zz ?_
  obtain rfl := sj hr
  exact eR Tryz.results25 bC (zG [])
theorem k9 {N : Nat} {vh : List Int} {r : (List Int)} (hr : kZ N vh = some r) :
    Vm.Fn Tryz.prog 6 [] [(.agg (vh.map (eI .u8)))] (.agg (r.map (eI .u64))) [] := by
  refine zf Tryz.func6 Tryz.ntmps6 ?_
  unfold kZ at hr
  obtain ⟨q, h_1, hr⟩ := aA hr
  obtain ⟨x4, h_2, hr⟩ := aA hr
  obtain ⟨x6, h_3, hr⟩ := aA hr
  obtain ⟨q_1, h_4, hr⟩ := aA hr
  refine zz ?_
  refine xp (aBT h_2) <| xw (v := (.agg ([0, 0, 0, 0].map (eI .u64)))) (cB rfl (k4 bE jL rfl)) <| xp (xK h_3) ?_
  refine zz ?_
  obtain rfl := sj hr
  exact eR Tryz.results6 bC (zG [])
theorem aEd {N : Nat} {x : List Int} {r : Bool} (hr : rK N x = some r) :
    Vm.Fn Tryz.prog 27 [] [(.agg (x.map (eI .u64)))] (eB r) [] := by
  refine zf Tryz.func27 Tryz.ntmps27 ?_
  unfold rK at hr
  refine zz ?_
  refine AB.seq_g fun K1 hK1 hG1 => ?_
  have J1 : ∀ (x2 : Bool), q9 N x2 = some r → K1 (aG 12 [(2, (eB x2))]) [] := by
    intro x2 hr
    unfold q9 at hr
    refine hK1 _ _ ?_
    refine zz ?_
    obtain rfl := sj hr
    exact bO Tryz.results27 []
  obtain ⟨q, h_1, hr⟩ := aA hr
  obtain ⟨x4, h_2, hr⟩ := aA hr
  rcases Bool.eq_false_or_eq_true (!x4) with h4 | h4
  · replace hr := fM hr h4
    obtain ⟨x8, h_5, hr⟩ := aA hr
    obtain ⟨x9, h_7, hr⟩ := aA hr
    refine AB.rs mixed [58, 59, 60] [] [[0, 1, 2, 3, 4, 5, 6, 7, 8, 9]] ?_
    refine zz ?_
    refine xu (nE h_2) ?_
    refine zz ?_
    refine xu (wL h_5) <| xu (vF h_7) ?_
    refine zz ?_
    exact hG1 _ _ _ _ (zG []) (J1 (decide (x9 < 0)) hr)
  · replace hr := fQ hr h4
    refine AB.rs mixed [58, 59, 60] [] [[0, 1, 2, 3, 4, 5, 6, 7, 8, 9]] ?_
    refine zz ?_
    refine xu (nE h_2) ?_
    refine zz ?_
    exact hG1 _ _ _ _ (zG []) (J1 false hr)
theorem aGh {N : Nat} {va : List Int} {r : Int} (hr : aAa N va = some r) :
    Vm.Fn Tryz.prog 117 [] [(.agg (va.map (eI .u64)))] (eI .i64 r) [] := by
  refine zf Tryz.func117 Tryz.ntmps117 ?_
  unfold aAa at hr
  refine zz ?_
  refine AB.seq_g fun K1 hK1 hG1 => ?_
  have J1 : uU N = some r → K1 (aG 13 []) [] := by
    intro hr
    unfold uU at hr
    refine hK1 _ _ ?_
    refine zz ?_
    obtain rfl := sj hr
    exact bO Tryz.results117 []
  obtain ⟨bD, hL2, hr⟩ := aA hr
  refine zz ?_
  refine AB.block <| AB.loopN (fun m s h => ∃ (vi : Int), mS N va m vi = some bD ∧ Ghost 0 s h (aG 13 [(1, (.ptr 0 0)), (3, (eI .i64 vi))]) [some ⟨31, va.map (eI .u64)⟩]) (n := N) ⟨255, hL2, (zG [0])⟩ (by rintro s h ⟨_, h0, _⟩; simp [mS] at h0) ?_
  rintro m2 s h ⟨vi, hr2, hg⟩
  refine AB.ghost hg ?_
  clear hg hL2
  rw [mS] at hr2
  refine AB.seq ?_
  refine zz ?_
  refine zk hr2 rfl (fun h1 hr2 => ?_) (fun h1 hr2 => ?_)
  · refine zz ?_
    refine AB.seq <| AB.block ?_
    obtain ⟨q, h_2, hr2⟩ := aA hr2
    obtain ⟨bS, h_3, hr2⟩ := aA hr2
    refine zz ?_
    refine xp (r6 h_3) ?_
    refine zz ?_
    refine zk hr2 rfl (fun h4 hr2 => ?_) (fun h4 hr2 => ?_)
    · refine zz ?_
      obtain rfl := sj hr2
      obtain rfl := sj hr
      exact bO Tryz.results117 []
    · refine zz ?_
      exact ⟨IntKind.i64.wrap (vi - 1), hr2, (zG [0])⟩
  · refine zz ?_
    obtain rfl := sj hr2
    refine zz ?_
    exact hG1 _ _ _ _ (zG []) (J1 hr)
theorem aGf {N : Nat} {va : List Int} {b : List Int} {r : (List Int) × (List Int)} (hr : xP N va b = some r) :
    Vm.Fn Tryz.prog 95 [] [(.agg (va.map (eI .u64))), (.agg (b.map (eI .u64)))] (.tup [(.agg (r.1.map (eI .u64))), (.agg (r.2.map (eI .u64)))]) [] := by
  refine zf Tryz.func95 Tryz.ntmps95 ?_
  unfold xP at hr
  refine zz ?_
  refine AB.seq_g fun K1 hK1 hG1 => ?_
  have J1 : ∀ (l2 : List Int), sC N l2 = some r → K1 (aG 71 [(4, (.ptr 0 0)), (5, (.ptr 1 0)), (6, (.ptr 2 0))]) [some ⟨31, (List.replicate 4 0).map (eI .u64)⟩, some ⟨31, (List.replicate 4 0).map (eI .u64)⟩, some ⟨160, l2.map (eI .u64)⟩] := by
    intro l2 hr
    unfold sC at hr
    refine hK1 _ _ <| AB.seq ?_
    obtain ⟨q, h_1, hr⟩ := aA hr
    obtain ⟨x64, h_2, hr⟩ := aA hr
    refine AB.rs mixed [] [] [[0, 1, 2]] ?_
    refine zz ?_
    refine xw (v := (.sl 2 (Int.toNat 0 * 1) x64.length 1 false)) (dU rfl rfl rfl (aFR (E := (eI .u64)) (l := l2) aCr jL rfl rfl rfl (aQ h_1) zl rfl rfl h_2)) ?_
    refine xw (v := (eI .i64 ((min x64.length (List.replicate 4 0).length : Nat) : Int))) (h' := [some ⟨31, (List.replicate 4 0).map (eI .u64)⟩, some ⟨31, (yD (List.replicate 4 0) x64).map (eI .u64)⟩, some ⟨160, l2.map (eI .u64)⟩]) (aGb rfl rfl (aKe (E := (eI .u64)) (l := List.replicate 4 0) rfl aH7 jL rfl rfl (aNc (l := l2) rfl (fun _ => rfl) h_2) rfl)) ?_
    refine zz ?_
    refine AB.seq ?_
    obtain ⟨x67, h_3, hr⟩ := aA hr
    refine AB.rs mixed [] [] [[0, 1, 2]] ?_
    refine zz ?_
    refine xw (v := (.sl 2 (Int.toNat 4 * 1) x67.length 1 false)) (dU rfl rfl rfl (aFR (E := (eI .u64)) (l := l2) aCr jL rfl rfl rfl (aQ h_1) zl rfl rfl h_3)) ?_
    refine xw (v := (eI .i64 ((min x67.length (List.replicate 4 0).length : Nat) : Int))) (h' := [some ⟨31, (yD (List.replicate 4 0) x67).map (eI .u64)⟩, some ⟨31, (yD (List.replicate 4 0) x64).map (eI .u64)⟩, some ⟨160, l2.map (eI .u64)⟩]) (aGb rfl rfl (aKe (E := (eI .u64)) (l := List.replicate 4 0) rfl aH7 jL rfl rfl (aNc (l := l2) rfl (fun _ => rfl) h_3) rfl)) ?_
    obtain ⟨q_1, h_4, hr⟩ := aA hr
    obtain ⟨q_2, h_5, hr⟩ := aA hr
    refine zz ?_
    obtain rfl := sj hr
    exact vV Tryz.results95 bC bC (rU [])
  obtain ⟨bD, hL2, hr⟩ := aA hr
  refine zz ?_
  refine AB.block <| AB.loopN (fun m s h => ∃ (x15 : Int) (l4 : List Int), jH N va b m x15 l4 = some bD ∧ Ghost 0 s h (aG 71 [(2, (.ptr 0 0)), (3, (.ptr 1 0)), (4, (.ptr 2 0)), (5, (.ptr 3 0)), (6, (.ptr 4 0)), (15, (eI .i64 x15))]) [some ⟨31, va.map (eI .u64)⟩, some ⟨31, b.map (eI .u64)⟩, some ⟨31, (List.replicate 4 0).map (eI .u64)⟩, some ⟨31, (List.replicate 4 0).map (eI .u64)⟩, some ⟨160, l4.map (eI .u64)⟩]) (n := N) ⟨0, List.replicate 8 0, hL2, (zG [0, 1, 2, 3, 4])⟩ (by rintro s h ⟨_, _, h0, _⟩; simp [jH] at h0) ?_
  rintro m2 s h ⟨x15, l4, hr2, hg⟩
  refine AB.ghost hg ?_
  clear hg hL2
  rw [jH] at hr2
  refine zz ?_
  refine AB.seq ?_
  refine zk hr2 rfl (fun h6 hr2 => ?_) (fun h6 hr2 => ?_)
  · refine zz ?_
    refine AB.seq_g fun K3 hK3 hG3 => ?_
    have J3 : ∀ (pB : List Int), uW N va b x15 (jH N va b m2) pB = some bD → K3 (aG 71 [(2, (.ptr 0 0)), (3, (.ptr 1 0)), (4, (.ptr 2 0)), (5, (.ptr 3 0)), (6, (.ptr 4 0)), (15, (eI .i64 x15))]) [some ⟨31, va.map (eI .u64)⟩, some ⟨31, b.map (eI .u64)⟩, some ⟨31, (List.replicate 4 0).map (eI .u64)⟩, some ⟨31, (List.replicate 4 0).map (eI .u64)⟩, some ⟨160, pB.map (eI .u64)⟩] := by
      intro pB hr2
      unfold uW at hr2
      refine hK3 _ _ ?_
      refine zz ?_
      exact ⟨IntKind.i64.wrap (x15 + 1), pB, hr2, (zG [0, 1, 2, 3, 4])⟩
    refine AB.block ?_
    refine zz ?_
    refine AB.seq_g fun K4 hK4 hG4 => ?_
    have J4 : ∀ (iL : Int) (uE : List Int), vP N va b x15 (jH N va b m2) iL uE = some bD → K4 (aG 71 [(2, (.ptr 0 0)), (3, (.ptr 1 0)), (4, (.ptr 2 0)), (5, (.ptr 3 0)), (6, (.ptr 4 0)), (7, (eI .i64 x15)), (8, (eI .u64 iL)), (15, (eI .i64 x15))]) [some ⟨31, va.map (eI .u64)⟩, some ⟨31, b.map (eI .u64)⟩, some ⟨31, (List.replicate 4 0).map (eI .u64)⟩, some ⟨31, (List.replicate 4 0).map (eI .u64)⟩, some ⟨160, uE.map (eI .u64)⟩] := by
      intro iL uE hr2
      unfold vP at hr2
      refine hK4 _ _ ?_
      obtain ⟨x61, h_7, hr2⟩ := aA hr2
      refine zz ?_
      exact hG3 _ _ _ _ (zG [0, 1, 2, 3, 4]) (J3 (uE.set (Int.toNat (IntKind.i64.wrap (x15 + 4))) iL) hr2)
    obtain ⟨res5, hL5, hr2⟩ := aA hr2
    refine zz ?_
    refine AB.block <| AB.loopN (fun m s h => ∃ (carry_1 : Int) (x18 : Int) (l4_3 : List Int), mP N va b x15 m carry_1 x18 l4_3 = some res5 ∧ Ghost 0 s h (aG 71 [(2, (.ptr 0 0)), (3, (.ptr 1 0)), (4, (.ptr 2 0)), (5, (.ptr 3 0)), (6, (.ptr 4 0)), (7, (eI .i64 x15)), (8, (eI .u64 carry_1)), (15, (eI .i64 x15)), (18, (eI .i64 x18))]) [some ⟨31, va.map (eI .u64)⟩, some ⟨31, b.map (eI .u64)⟩, some ⟨31, (List.replicate 4 0).map (eI .u64)⟩, some ⟨31, (List.replicate 4 0).map (eI .u64)⟩, some ⟨160, l4_3.map (eI .u64)⟩]) (n := N) ⟨0, 0, l4, hL5, (zG [0, 1, 2, 3, 4])⟩ (by rintro s h ⟨_, _, _, h0, _⟩; simp [mP] at h0) ?_
    rintro m5 s h ⟨carry_1, x18, l4_3, hr5, hg⟩
    refine AB.ghost hg ?_
    clear hg hL5
    rw [mP] at hr5
    refine zz ?_
    refine AB.seq ?_
    refine zk hr5 rfl (fun h8 hr5 => ?_) (fun h8 hr5 => ?_)
    · refine zz ?_
      refine AB.seq <| AB.block ?_
      refine zz ?_
      refine AB.seq ?_
      obtain ⟨e9, h_9, hr5⟩ := aA hr5
      obtain ⟨x26, h_10, hr5⟩ := aA hr5
      obtain ⟨x28, h_11, hr5⟩ := aA hr5
      refine AB.rs mixed [121] [] [[0, 1, 2, 3, 4, 5, 6, 7, 8, 9, 10, 11]] ?_
      refine zz ?_
      refine xu (xH h_11) ?_
      obtain ⟨x35, h_13, hr5⟩ := aA hr5
      obtain ⟨x38, h_14, hr5⟩ := aA hr5
      refine zz ?_
      refine xp (iX h_14) ?_
      obtain ⟨x44, h_15, hr5⟩ := aA hr5
      refine zz ?_
      refine xp (iX h_15) ?_
      refine zz ?_
      exact ⟨IntKind.u64.wrap ((IntKind.u64.wrap (x28.1 + x38.2)) + x44.2), IntKind.i64.wrap (x18 + 1), l4_3.set (Int.toNat (IntKind.i64.wrap (x15 + x18))) x44.1, hr5, (zG [0, 1, 2, 3, 4])⟩
    · refine zz ?_
      obtain rfl := sj hr5
      refine zz ?_
      exact hG4 _ _ _ _ (zG [0, 1, 2, 3, 4]) (J4 carry_1 l4_3 hr2)
  · refine zz ?_
    obtain rfl := sj hr2
    refine zz ?_
    exact hG1 _ _ _ _ (zG [2, 3, 4]) (J1 l4 hr)
theorem uV {N : Nat} {va : List Int} {b : List Int} {vm : List Int} {r : (List Int)} (hr : mQ N va b vm = some r) :
    Vm.Fn Tryz.prog 64 [] [(.agg (va.map (eI .u64))), (.agg (b.map (eI .u64))), (.agg (vm.map (eI .u64)))] (.agg (r.map (eI .u64))) [] := by
  refine zf Tryz.func64 Tryz.ntmps64 ?_
  unfold mQ at hr
  refine zz ?_
  refine AB.seq ?_
  obtain ⟨q, h_1, hr⟩ := aA hr
  obtain ⟨d7, h_2, hr⟩ := aA hr
  refine zz ?_
  refine xp (nE h_2) ?_
  refine zz ?_
  refine zk hr rfl (fun h3 hr => ?_) (fun h3 hr => ?_)
  · refine zz ?_
    obtain rfl := sj hr
    exact eR Tryz.results64 bC (zG [])
  · refine zz ?_
    refine AB.seq ?_
    obtain ⟨q_1, h_4, hr⟩ := aA hr
    obtain ⟨x18, h_5, hr⟩ := aA hr
    obtain ⟨q_2, h_7, hr⟩ := aA hr
    obtain ⟨dE, h_8, hr⟩ := aA hr
    obtain ⟨dW, h_10, hr⟩ := aA hr
    obtain ⟨q_3, h_12, hr⟩ := aA hr
    obtain ⟨q_4, h_13, hr⟩ := aA hr
    refine AB.rd (dN [88, 95]) (dN []) mixed <| DrawG.pick (n := 13) (i := 0) (by decide +kernel) rfl (gS (v := (.agg (va.map (eI .u64)))) (sv (bA rfl (uN (E := (eI .u64)) (l := va) bE rfl rfl (aQ h_4))))) <| DrawG.pick (n := 12) (i := 1) (by decide +kernel) rfl (gS (v := (.agg (vm.map (eI .u64)))) (sv (bA rfl (uN (E := (eI .u64)) (l := vm) bE rfl rfl (aQ h_1))))) <| DrawG.pick (n := 11) (i := 2) (by decide +kernel) rfl (gU (fun _ => (Vm.Fn.pure (nS h_5) zR zR)) rfl (sv (d6 rfl kL))) <| DrawG.pick (n := 10) (i := 3) (by decide +kernel) rfl (gS (v := (.agg (b.map (eI .u64)))) (sv (bA rfl (uN (E := (eI .u64)) (l := b) bE rfl rfl (aQ h_7))))) ?_
    refine DrawG.pick (n := 9) (i := 4) (by decide +kernel) rfl (gS (v := (.agg (vm.map (eI .u64)))) (sv (bA rfl (uN (E := (eI .u64)) (l := vm) bE rfl rfl (aQ h_1))))) <| DrawG.pick (n := 8) (i := 5) (by decide +kernel) rfl (gU (fun _ => (Vm.Fn.pure (nS h_8) zR zR)) rfl (sv (d6 rfl kL))) <| DrawG.pick (n := 7) (i := 6) (by decide +kernel) rfl (gU (fun _ => (Vm.Fn.pure (aGf h_10) zR zR)) rfl (sv (d6 rfl kL))) <| DrawG.pick (n := 6) (i := 7) (by decide +kernel) rfl (gS (v := (.tup [(.agg (dW.1.map (eI .u64))), (.agg (dW.2.map (eI .u64)))])) (sv (fC rfl))) <| DrawG.pick (n := 5) (i := 8) (by decide +kernel) rfl (gS (v := (.agg (dW.1.map (eI .u64)))) (sv (aCj rfl rfl))) ?_
    refine DrawG.pick (n := 4) (i := 9) (by decide +kernel) rfl (gS (v := (.agg (dW.2.map (eI .u64)))) (sv (aCj rfl rfl))) ?_
    refine DrawG.jn (m := 1) (L := lst [0, 1, 2, 3, 4, 5, 6, 7, 8, 9, 10, 11, 12] 14) (s1 := aG 34 [(5, (.ptr 0 0)), (6, (.ptr 1 0)), (7, (.ptr 2 0)), (8, (.ptr 3 0)), (24, (.agg (dW.2.map (eI .u64))))]) (h1 := [some ⟨31, vm.map (eI .u64)⟩, some ⟨31, (List.replicate 4 0).map (eI .u64)⟩, some ⟨31, dW.1.map (eI .u64)⟩, some ⟨31, (List.replicate 4 0).map (eI .u64)⟩]) ?_ (fun J => ?_)
    · refine DrawG.pick (n := 0) (i := 13) (by decide +kernel) rfl (gN (h' := [some ⟨31, vm.map (eI .u64)⟩, some ⟨31, (List.replicate 4 0).map (eI .u64)⟩, some ⟨31, dW.1.map (eI .u64)⟩, some ⟨31, dW.2.map (eI .u64)⟩]) (sv (bG rfl rfl (s6 (E := (eI .u64)) (l := List.replicate 4 0) bE rfl rfl (fun _ => rfl) rfl (aQ h_13) rfl)))) <| DrawG.nil (by decide +kernel) ?_
      obtain ⟨x29, h_14, hr⟩ := aA hr
      obtain ⟨q_5, h_15, hr⟩ := aA hr
      obtain ⟨q_6, h_16, hr⟩ := aA hr
      refine zz ?_
      refine xp (aBF h_14) ?_
      refine zz ?_
      obtain rfl := sj hr
      exact eR Tryz.results64 bC (zG [])
    · refine DrawG.fork (n := 3) [10, 11] (by decide +kernel) (by decide) ?_
      refine (Fork.cons rfl (gS (v := (.ptr 4 0)) (h' := [some ⟨31, va.map (eI .u64)⟩, some ⟨31, b.map (eI .u64)⟩, some ⟨31, vm.map (eI .u64)⟩, some ⟨31, (List.replicate 4 0).map (eI .u64)⟩, some ⟨31, (List.replicate 4 0).map (eI .u64)⟩]) (sv (eK bE rfl rfl rfl))) ?_ (Fork.cons rfl (gS (v := (.ptr 4 0)) (h' := [some ⟨31, va.map (eI .u64)⟩, some ⟨31, b.map (eI .u64)⟩, some ⟨31, vm.map (eI .u64)⟩, some ⟨31, (List.replicate 4 0).map (eI .u64)⟩, some ⟨31, (List.replicate 4 0).map (eI .u64)⟩]) (sv (eK bE rfl rfl rfl))) ?_ Fork.nil))
      · refine DrawG.pick (n := 2) (i := 11) (by decide +kernel) rfl (gS (v := (.ptr 5 0)) (h' := [some ⟨31, va.map (eI .u64)⟩, some ⟨31, b.map (eI .u64)⟩, some ⟨31, vm.map (eI .u64)⟩, some ⟨31, (List.replicate 4 0).map (eI .u64)⟩, some ⟨31, (List.replicate 4 0).map (eI .u64)⟩, some ⟨31, (List.replicate 4 0).map (eI .u64)⟩]) (sv (eK bE rfl rfl rfl))) <| DrawG.pick (n := 1) (i := 12) (by decide +kernel) rfl (gN (h' := [some ⟨31, va.map (eI .u64)⟩, some ⟨31, b.map (eI .u64)⟩, some ⟨31, vm.map (eI .u64)⟩, some ⟨31, (List.replicate 4 0).map (eI .u64)⟩, some ⟨31, dW.1.map (eI .u64)⟩, some ⟨31, (List.replicate 4 0).map (eI .u64)⟩]) (sv (bG rfl rfl (s6 (E := (eI .u64)) (l := List.replicate 4 0) bE rfl rfl (fun _ => rfl) rfl (aQ h_12) rfl)))) ?_
        exact DrawG.jg (by decide +kernel) (by decide +kernel) (zG [2, 3, 4, 5]) J
      · refine DrawG.pick (n := 2) (i := 10) (by decide +kernel) rfl (gS (v := (.ptr 5 0)) (h' := [some ⟨31, va.map (eI .u64)⟩, some ⟨31, b.map (eI .u64)⟩, some ⟨31, vm.map (eI .u64)⟩, some ⟨31, (List.replicate 4 0).map (eI .u64)⟩, some ⟨31, (List.replicate 4 0).map (eI .u64)⟩, some ⟨31, (List.replicate 4 0).map (eI .u64)⟩]) (sv (eK bE rfl rfl rfl))) <| DrawG.pick (n := 1) (i := 12) (by decide +kernel) rfl (gN (h' := [some ⟨31, va.map (eI .u64)⟩, some ⟨31, b.map (eI .u64)⟩, some ⟨31, vm.map (eI .u64)⟩, some ⟨31, (List.replicate 4 0).map (eI .u64)⟩, some ⟨31, (List.replicate 4 0).map (eI .u64)⟩, some ⟨31, dW.1.map (eI .u64)⟩]) (sv (bG rfl rfl (s6 (E := (eI .u64)) (l := List.replicate 4 0) bE rfl rfl (fun _ => rfl) rfl (aQ h_12) rfl)))) ?_
        exact DrawG.jg (by decide +kernel) (by decide +kernel) (zG [2, 3, 5, 4]) J
theorem aDR {N : Nat} {va : List Int} {ve : List Int} {vm : List Int} {r : (List Int)} (hr : rX N va ve vm = some r) :
    Vm.Fn Tryz.prog 93 [] [(.agg (va.map (eI .u64))), (.agg (ve.map (eI .u64))), (.agg (vm.map (eI .u64)))] (.agg (r.map (eI .u64))) [] := by
  refine zf Tryz.func93 Tryz.ntmps93 ?_
  unfold rX at hr
  refine zz ?_
  refine AB.seq ?_
  obtain ⟨q, h_1, hr⟩ := aA hr
  obtain ⟨bS, h_2, hr⟩ := aA hr
  refine zz ?_
  refine xp (nE h_2) ?_
  refine zz ?_
  refine zk hr rfl (fun h3 hr => ?_) (fun h3 hr => ?_)
  · refine zz ?_
    obtain rfl := sj hr
    exact eR Tryz.results93 bC (zG [])
  · refine zz ?_
    refine AB.seq ?_
    obtain ⟨cL, h_4, hr⟩ := aA hr
    obtain ⟨aZ, h_6, hr⟩ := aA hr
    obtain ⟨q_1, h_8, hr⟩ := aA hr
    refine AB.rs mixed [62, 88] [] [[0, 1, 2, 3, 4]] <| xu (oV h_4) ?_
    refine zz ?_
    refine xu (nS h_6) ?_
    refine zz ?_
    refine AB.seq_g fun K1 hK1 hG1 => ?_
    have J1 : ∀ (l1 : List Int), vL N l1 = some r → K1 (aG 34 [(6, (.ptr 0 0)), (7, (.ptr 1 0))]) [some ⟨31, (List.replicate 4 0).map (eI .u64)⟩, some ⟨31, l1.map (eI .u64)⟩] := by
      intro l1 hr
      unfold vL at hr
      refine hK1 _ _ ?_
      obtain ⟨q_2, h_9, hr⟩ := aA hr
      refine zz ?_
      obtain rfl := sj hr
      exact eR Tryz.results93 bC (zG [])
    obtain ⟨q_3, h_10, hr⟩ := aA hr
    obtain ⟨x16, h_11, hr⟩ := aA hr
    refine zz ?_
    refine xp (aGh h_11) ?_
    obtain ⟨bD, hL2, hr⟩ := aA hr
    refine zz ?_
    refine AB.block <| AB.loopN (fun m s h => ∃ (vi : Int) (l4 : List Int), fT N va ve vm m vi l4 = some bD ∧ Ghost 0 s h (aG 34 [(3, (.ptr 0 0)), (4, (.ptr 1 0)), (5, (.ptr 2 0)), (6, (.ptr 3 0)), (7, (.ptr 4 0)), (8, (eI .i64 vi))]) [some ⟨31, va.map (eI .u64)⟩, some ⟨31, ve.map (eI .u64)⟩, some ⟨31, vm.map (eI .u64)⟩, some ⟨31, (List.replicate 4 0).map (eI .u64)⟩, some ⟨31, l4.map (eI .u64)⟩]) (n := N) ⟨IntKind.i64.wrap (x16 - 1), aZ, hL2, (zG [0, 1, 2, 3, 4])⟩ (by rintro s h ⟨_, _, h0, _⟩; simp [fT] at h0) ?_
    rintro m2 s h ⟨vi, l4, hr2, hg⟩
    refine AB.ghost hg ?_
    clear hg hL2
    rw [fT] at hr2
    refine AB.seq ?_
    refine zz ?_
    refine zk hr2 rfl (fun h12 hr2 => ?_) (fun h12 hr2 => ?_)
    · refine zz ?_
      refine AB.seq_g fun K3 hK3 hG3 => ?_
      have J3 : ∀ (pB : List Int), lJ N va ve vm vi (fT N va ve vm m2) pB = some bD → K3 (aG 34 [(3, (.ptr 0 0)), (4, (.ptr 1 0)), (5, (.ptr 2 0)), (6, (.ptr 3 0)), (7, (.ptr 4 0)), (8, (eI .i64 vi))]) [some ⟨31, va.map (eI .u64)⟩, some ⟨31, ve.map (eI .u64)⟩, some ⟨31, vm.map (eI .u64)⟩, some ⟨31, (List.replicate 4 0).map (eI .u64)⟩, some ⟨31, pB.map (eI .u64)⟩] := by
        intro pB hr2
        unfold lJ at hr2
        refine hK3 _ _ ?_
        refine zz ?_
        exact ⟨IntKind.i64.wrap (vi - 1), pB, hr2, (zG [0, 1, 2, 3, 4])⟩
      refine AB.block ?_
      obtain ⟨q_4, h_13, hr2⟩ := aA hr2
      obtain ⟨x25, h_14, hr2⟩ := aA hr2
      obtain ⟨q_5, h_15, hr2⟩ := aA hr2
      refine zz ?_
      refine xp (uV h_14) ?_
      obtain ⟨x28, h_16, hr2⟩ := aA hr2
      refine zz ?_
      refine xp (r6 h_16) ?_
      refine zz ?_
      refine zk hr2 rfl (fun h17 hr2 => ?_) (fun h17 hr2 => ?_)
      · obtain ⟨q_6, h_18, hr2⟩ := aA hr2
        obtain ⟨nA, h_19, hr2⟩ := aA hr2
        obtain ⟨q_7, h_20, hr2⟩ := aA hr2
        refine zz ?_
        refine xp (uV h_19) ?_
        refine zz ?_
        exact hG3 _ _ _ _ (zG [0, 1, 2, 3, 4]) (J3 nA hr2)
      · refine zz ?_
        exact hG3 _ _ _ _ (zG [0, 1, 2, 3, 4]) (J3 x25 hr2)
    · refine zz ?_
      obtain rfl := sj hr2
      refine zz ?_
      exact hG1 _ _ _ _ (zG [3, 4]) (J1 l4 hr)
theorem aFU {N : Nat} {va : List Int} {ve : List Int} {r : (List Int)} (hr : xJ N va ve = some r) :
    Vm.Fn Tryz.prog 61 [] [(.agg (va.map (eI .u64))), (.agg (ve.map (eI .u64)))] (.agg (r.map (eI .u64))) [] := by
  refine zf Tryz.func61 Tryz.ntmps61 ?_
  unfold xJ at hr
  refine zz ?_
  refine AB.seq ?_
  obtain ⟨q, h_1, hr⟩ := aA hr
  obtain ⟨q_1, h_2, hr⟩ := aA hr
  obtain ⟨x7, h_3, hr⟩ := aA hr
  obtain ⟨x8, h_5, hr⟩ := aA hr
  obtain ⟨q_2, h_7, hr⟩ := aA hr
  refine AB.rs mixed [92, 93] [] [[0, 1, 2, 3, 4]] ?_
  refine zz ?_
  refine xu (zE h_3) <| xu (aDR h_5) ?_
  refine zz ?_
  obtain rfl := sj hr
  exact eR Tryz.results61 bC (zG [])
theorem aAD {N : Nat} {ve : List Int} {r : (List Int)} (hr : qO N ve = some r) :
    Vm.Fn Tryz.prog 28 [] [(.agg (ve.map (eI .u64)))] (.agg (r.map (eI .u64))) [] := by
  refine zf Tryz.func28 Tryz.ntmps28 ?_
  unfold qO at hr
  refine zz ?_
  refine AB.seq ?_
  obtain ⟨x3, h_1, hr⟩ := aA hr
  obtain ⟨q, h_3, hr⟩ := aA hr
  obtain ⟨x5, h_4, hr⟩ := aA hr
  obtain ⟨q_1, h_6, hr⟩ := aA hr
  refine AB.rs mixed [61, 62] [] [[0, 1, 2, 3]] <| xu (oV h_1) ?_
  refine zz ?_
  refine xu (aFU h_4) ?_
  refine zz ?_
  obtain rfl := sj hr
  exact eR Tryz.results28 bC (zG [])
theorem z7 {N : Nat} {x : List Int} {r : (List Int) × Int} (hr : o9 N x = some r) :
    Vm.Fn Tryz.prog 7 [] [(.agg (x.map (eI .u64)))] (.tup [(.agg (r.1.map (eI .u64))), (eI .i64 r.2)]) [] := by
  refine zf Tryz.func7 Tryz.ntmps7 ?_
  unfold o9 at hr
  refine zz ?_
  refine AB.seq ?_
  obtain ⟨q, h_1, hr⟩ := aA hr
  obtain ⟨x5, h_2, hr⟩ := aA hr
  refine zz ?_
  refine xp (aEd h_2) ?_
  refine zz ?_
  refine zk hr rfl (fun h3 hr => ?_) (fun h3 hr => ?_)
  · refine zz ?_
    refine xw (v := (.agg ([0, 0, 0, 0].map (eI .u64)))) (cB rfl (k4 bE jL rfl)) ?_
    refine zz ?_
    obtain rfl := sj hr
    exact vV Tryz.results7 bC bC (rU [])
  · obtain ⟨x9, h_4, hr⟩ := aA hr
    obtain ⟨q_1, h_5, hr⟩ := aA hr
    refine zz ?_
    refine xp (aAD h_4) ?_
    refine zz ?_
    obtain rfl := sj hr
    exact vV Tryz.results7 bC bC (rU [])
theorem aEG {N : Nat} {va : List Int} {r : (List Int)} (hr : tC N va = some r) :
    Vm.Fn Tryz.prog 66 [] [(.agg (va.map (eI .u64)))] (.agg (r.map (eI .u8))) [] := by
  refine zf Tryz.func66 Tryz.ntmps66 ?_
  unfold tC at hr
  refine zz ?_
  refine AB.seq_g fun K1 hK1 hG1 => ?_
  have J1 : ∀ (l1 : List Int), vY N l1 = some r → K1 (aG 24 [(2, (.ptr 0 0)), (3, (.ptr 1 0))]) [some ⟨24, (List.replicate 32 0).map (eI .u8)⟩, some ⟨24, l1.map (eI .u8)⟩] := by
    intro l1 hr
    unfold vY at hr
    refine hK1 _ _ ?_
    obtain ⟨q, h_1, hr⟩ := aA hr
    refine zz ?_
    obtain rfl := sj hr
    exact eR Tryz.results66 bC (zG [])
  obtain ⟨bD, hL2, hr⟩ := aA hr
  refine zz ?_
  refine AB.block <| AB.loopN (fun m s h => ∃ (x6 : Int) (l2 : List Int), i9 N va m x6 l2 = some bD ∧ Ghost 0 s h (aG 24 [(1, (.ptr 0 0)), (2, (.ptr 1 0)), (3, (.ptr 2 0)), (6, (eI .i64 x6))]) [some ⟨31, va.map (eI .u64)⟩, some ⟨24, (List.replicate 32 0).map (eI .u8)⟩, some ⟨24, l2.map (eI .u8)⟩]) (n := N) ⟨0, List.replicate 32 0, hL2, (zG [0, 1, 2])⟩ (by rintro s h ⟨_, _, h0, _⟩; simp [i9] at h0) ?_
  rintro m2 s h ⟨x6, l2, hr2, hg⟩
  refine AB.ghost hg ?_
  clear hg hL2
  rw [i9] at hr2
  refine zz ?_
  refine AB.seq ?_
  refine zk hr2 rfl (fun h2 hr2 => ?_) (fun h2 hr2 => ?_)
  · refine zz ?_
    refine AB.seq <| AB.block ?_
    obtain ⟨aZ, h_3, hr2⟩ := aA hr2
    obtain ⟨x19, h_4, hr2⟩ := aA hr2
    obtain ⟨dE, h_5, hr2⟩ := aA hr2
    refine zz ?_
    exact ⟨IntKind.i64.wrap (x6 + 1), l2.set (Int.toNat x6) (IntKind.u8.wrap x19), hr2, (zG [0, 1, 2])⟩
  · refine zz ?_
    obtain rfl := sj hr2
    refine zz ?_
    exact hG1 _ _ _ _ (zG [1, 2]) (J1 l2 hr)
theorem nL {N : Nat} {va : List Int} {r : (List Int)} (hr : jN N va = some r) :
    Vm.Fn Tryz.prog 33 [] [(.agg (va.map (eI .u64)))] (.row none 1 (r.map (eI .u8))) [] := by
  refine zf Tryz.func33 Tryz.ntmps33 ?_
  unfold jN at hr
  obtain ⟨q, h_1, hr⟩ := aA hr
  obtain ⟨x5, h_2, hr⟩ := aA hr
  obtain ⟨q_1, h_3, hr⟩ := aA hr
  refine zz ?_
  refine xp (aEG h_2) ?_
  refine zz ?_
  obtain rfl := sj hr
  exact eR Tryz.results33 bC (Ghost.trans (zv 1) (zG []))
theorem aDL {N : Nat} {va : List Int} {b : List Int} {r : (List Int)} (hr : u2 N va b = some r) :
    Vm.Fn Tryz.prog 65 [] [(.row none 1 (va.map (eI .u8))), (.row none 1 (b.map (eI .u8)))] (.sl 0 0 r.length 1 false) [some ⟨5, r.map (eI .u8)⟩] := by
  refine zf Tryz.func65 Tryz.ntmps65 ?_
  unfold u2 at hr
  obtain ⟨bW, h_1, hr⟩ := aA hr
  refine zz ?_
  refine xw (v := (.sl 0 0 0 1 false)) (h' := [some ⟨5, bW.map (eI .u8)⟩]) (aNe rfl rfl (mkC (E := (eI .u8)) (y := 0) bH jC ⟨zl, rfl, rfl⟩ rfl rfl rfl h_1 rfl rfl)) ?_
  obtain ⟨aZ, h_2, hr⟩ := aA hr
  obtain ⟨x16, h_3, hr⟩ := aA hr
  refine zz ?_
  refine xw (v := (.sl 1 0 aZ.length 1 false)) (h' := [none, some ⟨5, aZ.map (eI .u8)⟩]) (bV rfl rfl (aO3 (E := (eI .u8)) (Nat.zero_le _) bH jC ⟨rfl, rfl, zl⟩ rfl (aGP (fun _ => rfl)) h_2 rfl rfl)) ?_
  refine zz ?_
  obtain rfl := sj hr
  exact bO Tryz.results65 [2]
theorem qL {N : Nat} {l : List (List Int)} {r : (List Int)} (hr : lQ N l = some r) :
    Vm.Fn Tryz.prog 32 [] [(.row none 1 (l.map (eL 1 (eI .u8))))] (.sl 0 0 r.length 1 false) [some ⟨5, r.map (eI .u8)⟩] := by
  refine zf Tryz.func32 Tryz.ntmps32 ?_
  unfold lQ at hr
  refine zz ?_
  refine AB.seq_g fun K1 hK1 hG1 => ?_
  have J1 : ∀ (l0 : List Int), xV N l0 = some r → K1 (aG 17 [(3, (.sl 0 0 l0.length 1 false))]) [some ⟨5, l0.map (eI .u8)⟩] := by
    intro l0 hr
    unfold xV at hr
    refine hK1 _ _ ?_
    refine zz ?_
    obtain rfl := sj hr
    exact bO Tryz.results32 [0]
  obtain ⟨bD, hL2, hr⟩ := aA hr
  refine zz ?_
  refine AB.block <| AB.loopN (fun m s h => ∃ (x8 : Int) (aS : List Int), j9 N l m x8 aS = some bD ∧ Ghost 0 s h (aG 17 [(3, (.sl 0 0 aS.length 1 false)), (6, (.row none 1 (l.map (eL 1 (eI .u8))))), (7, (eI .i64 (l.length : Int))), (8, (eI .i64 x8))]) [some ⟨5, aS.map (eI .u8)⟩]) (n := N) ⟨0, [], hL2, (zW 5 [0])⟩ (by rintro s h ⟨_, _, h0, _⟩; simp [j9] at h0) ?_
  rintro m2 s h ⟨x8, aS, hr2, hg⟩
  refine AB.ghost hg ?_
  clear hg hL2
  rw [j9] at hr2
  refine zz ?_
  refine AB.seq ?_
  refine zk hr2 rfl (fun h1 hr2 => ?_) (fun h1 hr2 => ?_)
  · refine zz ?_
    refine AB.seq <| AB.block ?_
    obtain ⟨bS, h_2, hr2⟩ := aA hr2
    obtain ⟨aZ, h_3, hr2⟩ := aA hr2
    refine zz ?_
    refine vG (aDL h_3) [] [0] ?_
    refine zz ?_
    exact ⟨IntKind.i64.wrap (x8 + 1), aZ, hr2, (zG [1])⟩
  · refine zz ?_
    obtain rfl := sj hr2
    refine zz ?_
    exact hG1 _ _ _ _ (zG [0]) (J1 aS hr)
theorem aGn {N : Nat} {vn : Int} {r : (List Int)} (hr : xI N vn = some r) :
    Vm.Fn Tryz.prog 118 [] [(eI .u64 vn)] (.sl 0 0 r.length 1 false) [some ⟨5, r.map (eI .u8)⟩] := by
  refine zf Tryz.func118 Tryz.ntmps118 ?_
  unfold xI at hr
  refine zz ?_
  refine AB.seq_g fun K1 hK1 hG1 => ?_
  have J1 : ∀ (l0 : List Int), vQ N vn l0 = some r → K1 (aG 31 [(0, (eI .u64 vn)), (3, (.sl 0 0 l0.length 1 false))]) [some ⟨5, l0.map (eI .u8)⟩] := by
    intro l0 hr
    unfold vQ at hr
    refine hK1 _ _ ?_
    refine AB.seq_g fun K2 hK2 hG2 => ?_
    have J2 : ∀ (aS : List Int), zV N aS = some r → K2 (aG 31 [(3, (.sl 0 0 aS.length 1 false))]) [some ⟨5, aS.map (eI .u8)⟩] := by
      intro aS hr
      unfold zV at hr
      refine hK2 _ _ ?_
      refine zz ?_
      obtain rfl := sj hr
      exact bO Tryz.results118 [0]
    obtain ⟨u4, hL3, hr⟩ := aA hr
    refine zz ?_
    refine AB.block <| AB.loopN (fun m s h => ∃ (vi : Int) (mJ : List Int), k5 N vn m vi mJ = some u4 ∧ Ghost 0 s h (aG 31 [(0, (eI .u64 vn)), (3, (.sl 0 0 mJ.length 1 false)), (4, (eI .i64 vi))]) [some ⟨5, mJ.map (eI .u8)⟩]) (n := N) ⟨7, l0, hL3, (zG [0])⟩ (by rintro s h ⟨_, _, h0, _⟩; simp [k5] at h0) ?_
    rintro m3 s h ⟨vi, mJ, hr3, hg⟩
    refine AB.ghost hg ?_
    clear hg hL3
    rw [k5] at hr3
    refine AB.seq ?_
    refine zz ?_
    refine zk hr3 rfl (fun h1 hr3 => ?_) (fun h1 hr3 => ?_)
    · refine zz ?_
      refine AB.seq <| AB.block ?_
      obtain ⟨x26, h_2, hr3⟩ := aA hr3
      obtain ⟨x29, h_3, hr3⟩ := aA hr3
      refine zz ?_
      exact ⟨IntKind.i64.wrap (vi - 1), x29, hr3, (zG [2])⟩
    · refine zz ?_
      obtain rfl := sj hr3
      refine zz ?_
      exact hG2 _ _ _ _ (zG [0]) (J2 mJ hr)
  obtain ⟨res4, hL4, hr⟩ := aA hr
  refine AB.block <| AB.loopN (fun m s h => ∃ (kU : List Int), mY N vn m kU = some res4 ∧ Ghost 0 s h (aG 31 [(0, (eI .u64 vn)), (3, (.sl 0 0 kU.length 1 false))]) [some ⟨5, kU.map (eI .u8)⟩]) (n := N) ⟨[128], hL4, (rU [0])⟩ (by rintro s h ⟨_, h0, _⟩; simp [mY] at h0) ?_
  rintro m4 s h ⟨kU, hr4, hg⟩
  refine AB.ghost hg ?_
  clear hg hL4
  rw [mY] at hr4
  refine AB.seq ?_
  refine zz ?_
  refine zk hr4 rfl (fun h4 hr4 => ?_) (fun h4 hr4 => ?_)
  · refine zz ?_
    refine AB.block ?_
    obtain ⟨x16, h_5, hr4⟩ := aA hr4
    refine zz ?_
    exact ⟨x16, hr4, (zG [2])⟩
  · refine zz ?_
    obtain rfl := sj hr4
    refine zz ?_
    exact hG1 _ _ _ _ (zG [0]) (J1 kU hr)
theorem aDj {N : Nat} {r : (List Int)} (hr : t8 N = some r) :
    Vm.Fn Tryz.prog 119 [] [] (.agg (r.map (eI .u32))) [] := by
  refine zf Tryz.func119 Tryz.ntmps119 ?_
  unfold t8 at hr
  refine zz ?_
  refine xw (v := (.agg ([1779033703, 3144134277, 1013904242, 2773480762, 1359893119, 2600822924, 528734635, 1541459225].map (eI .u32)))) (cB rfl (k4 aCo tA rfl)) ?_
  refine zz ?_
  obtain rfl := sj hr
  exact eR Tryz.results119 bC (zG [])
theorem gM {N : Nat} {x : Int} {vn : Int} {r : Int} (hr : gT N x vn = some r) :
    Vm.Fn Tryz.prog 128 [] [(eI .u32 x), (eI .i64 vn)] (eI .u32 r) [] := by
  refine zf Tryz.func128 Tryz.ntmps128 ?_
  unfold gT at hr
  obtain ⟨x8, h_1, hr⟩ := aA hr
  refine zz ?_
  refine xw (aG2 rfl (aI5 ..)) <| xp (q6 h_1) ?_
  refine zz ?_
  obtain rfl := sj hr
  exact bO Tryz.results128 []
theorem aCG {N : Nat} {block : List Int} {r : (List Int)} (hr : pL N block = some r) :
    Vm.Fn Tryz.prog 126 [] [(.agg (block.map (eI .u8)))] (.agg (r.map (eI .u32))) [] := by
  refine zf Tryz.func126 Tryz.ntmps126 ?_
  unfold pL at hr
  refine zz ?_
  refine AB.seq_g fun K1 hK1 hG1 => ?_
  have J1 : ∀ (l1 : List Int), oZ N l1 = some r → K1 (aG 97 [(2, (.ptr 0 0)), (3, (.ptr 1 0))]) [some ⟨164, (List.replicate 64 0).map (eI .u32)⟩, some ⟨164, l1.map (eI .u32)⟩] := by
    intro l1 hr
    unfold oZ at hr
    refine hK1 _ _ ?_
    refine AB.seq_g fun K2 hK2 hG2 => ?_
    have J2 : ∀ (c5 : List Int), oX N c5 = some r → K2 (aG 97 [(2, (.ptr 0 0)), (3, (.ptr 1 0))]) [some ⟨164, (List.replicate 64 0).map (eI .u32)⟩, some ⟨164, c5.map (eI .u32)⟩] := by
      intro c5 hr
      unfold oX at hr
      refine hK2 _ _ ?_
      obtain ⟨q, h_1, hr⟩ := aA hr
      refine zz ?_
      obtain rfl := sj hr
      exact eR Tryz.results126 bC (zG [])
    obtain ⟨u4, hL3, hr⟩ := aA hr
    refine zz ?_
    refine AB.block <| AB.loopN (fun m s h => ∃ (vi : Int) (cO : List Int), g7 N m vi cO = some u4 ∧ Ghost 0 s h (aG 97 [(2, (.ptr 0 0)), (3, (.ptr 1 0)), (5, (eI .i64 vi))]) [some ⟨164, (List.replicate 64 0).map (eI .u32)⟩, some ⟨164, cO.map (eI .u32)⟩]) (n := N) ⟨16, l1, hL3, (zG [0, 1])⟩ (by rintro s h ⟨_, _, h0, _⟩; simp [g7] at h0) ?_
    rintro m3 s h ⟨vi, cO, hr3, hg⟩
    refine AB.ghost hg ?_
    clear hg hL3
    rw [g7] at hr3
    refine AB.seq ?_
    refine zz ?_
    refine zk hr3 rfl (fun h2 hr3 => ?_) (fun h2 hr3 => ?_)
    · refine zz ?_
      refine AB.seq <| AB.block <| AB.seq ?_
      obtain ⟨x49, h_3, hr3⟩ := aA hr3
      obtain ⟨x51, h_4, hr3⟩ := aA hr3
      obtain ⟨x56, h_6, hr3⟩ := aA hr3
      obtain ⟨x62, h_8, hr3⟩ := aA hr3
      refine AB.rs mixed [128] [] [[0, 1, 2, 3, 4, 5, 6, 7, 8, 9, 10, 11, 12, 13, 14, 15, 16, 17]] ?_
      refine zz ?_
      refine xu (gM h_4) ?_
      refine zz ?_
      refine xu (gM h_6) ?_
      refine zz ?_
      refine AB.seq ?_
      obtain ⟨x66, h_9, hr3⟩ := aA hr3
      obtain ⟨x68, h_10, hr3⟩ := aA hr3
      obtain ⟨x73, h_12, hr3⟩ := aA hr3
      obtain ⟨x79, h_14, hr3⟩ := aA hr3
      refine AB.rs mixed [128] [] [[0, 1, 2, 3, 4, 5, 6, 7, 8, 9, 10, 11, 12, 13, 14, 15, 16, 17]] ?_
      refine zz ?_
      refine xu (gM h_10) ?_
      refine zz ?_
      refine xu (gM h_12) ?_
      obtain ⟨x84, h_15, hr3⟩ := aA hr3
      obtain ⟨x90, h_16, hr3⟩ := aA hr3
      obtain ⟨x95, h_17, hr3⟩ := aA hr3
      refine zz ?_
      refine AB.rs mixed [] [] [[0, 1, 2, 3, 4, 5, 6, 7, 8, 9, 10, 11, 12, 13, 14, 15]] ?_
      refine zz ?_
      exact ⟨IntKind.i64.wrap (vi + 1), cO.set (Int.toNat vi) (IntKind.u32.wrap ((IntKind.u32.wrap ((IntKind.u32.wrap (x84 + (bits .xor .u32 (bits .xor .u32 x51 x56) x62))) + x90)) + (bits .xor .u32 (bits .xor .u32 x68 x73) x79))), hr3, (zG [0, 1])⟩
    · refine zz ?_
      obtain rfl := sj hr3
      refine zz ?_
      exact hG2 _ _ _ _ (zG [0, 1]) (J2 cO hr)
  obtain ⟨res4, hL4, hr⟩ := aA hr
  refine zz ?_
  refine AB.block <| AB.loopN (fun m s h => ∃ (vi_1 : Int) (l2 : List Int), eF N block m vi_1 l2 = some res4 ∧ Ghost 0 s h (aG 97 [(1, (.ptr 0 0)), (2, (.ptr 1 0)), (3, (.ptr 2 0)), (4, (eI .i64 vi_1))]) [some ⟨148, block.map (eI .u8)⟩, some ⟨164, (List.replicate 64 0).map (eI .u32)⟩, some ⟨164, l2.map (eI .u32)⟩]) (n := N) ⟨0, List.replicate 64 0, hL4, (zG [0, 1, 2])⟩ (by rintro s h ⟨_, _, h0, _⟩; simp [eF] at h0) ?_
  rintro m4 s h ⟨vi_1, l2, hr4, hg⟩
  refine AB.ghost hg ?_
  clear hg hL4
  rw [eF] at hr4
  refine AB.seq ?_
  refine zz ?_
  refine zk hr4 rfl (fun h18 hr4 => ?_) (fun h18 hr4 => ?_)
  · refine zz ?_
    refine AB.seq <| AB.block ?_
    obtain ⟨x15, h_19, hr4⟩ := aA hr4
    obtain ⟨x18, h_20, hr4⟩ := aA hr4
    obtain ⟨dW, h_21, hr4⟩ := aA hr4
    obtain ⟨x25, h_22, hr4⟩ := aA hr4
    obtain ⟨mL, h_23, hr4⟩ := aA hr4
    obtain ⟨oG, h_24, hr4⟩ := aA hr4
    obtain ⟨x38, h_25, hr4⟩ := aA hr4
    obtain ⟨x42, h_26, hr4⟩ := aA hr4
    refine AB.rs mixed [] [] [[0, 1, 2, 3, 4, 5, 6, 7, 8, 9, 10, 11, 12, 13, 14, 15, 16, 17, 18, 19, 20, 21, 22, 23, 24, 25, 26, 27, 28, 29, 30, 31]] ?_
    refine zz ?_
    exact ⟨IntKind.i64.wrap (vi_1 + 1), l2.set (Int.toNat vi_1) (bits .or .u32 (bits .or .u32 (bits .or .u32 x18 x25) oG) (IntKind.u32.wrap x38)), hr4, (zG [0, 1, 2])⟩
  · refine zz ?_
    obtain rfl := sj hr4
    refine zz ?_
    exact hG1 _ _ _ _ (zG [1, 2]) (J1 l2 hr)
theorem aBG {N : Nat} {r : (List Int)} (hr : rC N = some r) :
    Vm.Fn Tryz.prog 127 [] [] (.agg (r.map (eI .u32))) [] := by
  refine zf Tryz.func127 Tryz.ntmps127 ?_
  unfold rC at hr
  refine zz ?_
  refine xw (v := (.agg ([1116352408, 1899447441, 3049323471, 3921009573, 961987163, 1508970993, 2453635748, 2870763221, 3624381080, 310598401, 607225278, 1426881987, 1925078388, 2162078206, 2614888103, 3248222580, 3835390401, 4022224774, 264347078, 604807628, 770255983, 1249150122, 1555081692, 1996064986, 2554220882, 2821834349, 2952996808, 3210313671, 3336571891, 3584528711, 113926993, 338241895, 666307205, 773529912, 1294757372, 1396182291, 1695183700, 1986661051, 2177026350, 2456956037, 2730485921, 2820302411, 3259730800, 3345764771, 3516065817, 3600352804, 4094571909, 275423344, 430227734, 506948616, 659060556, 883997877, 958139571, 1322822218, 1537002063, 1747873779, 1955562222, 2024104815, 2227730452, 2361852424, 2428436474, 2756734187, 3204031479, 3329325298].map (eI .u32)))) (cB rfl (k4 aIq tA rfl)) ?_
  refine zz ?_
  obtain rfl := sj hr
  exact eR Tryz.results127 bC (zG [])
theorem aCA {N : Nat} {bX : List Int} {block : List Int} {r : (List Int)} (hr : mB N bX block = some r) :
    Vm.Fn Tryz.prog 120 [] [(.agg (bX.map (eI .u32))), (.agg (block.map (eI .u8)))] (.agg (r.map (eI .u32))) [] := by
  refine zf Tryz.func120 Tryz.ntmps120 ?_
  unfold mB at hr
  obtain ⟨q, h_1, hr⟩ := aA hr
  obtain ⟨x19, h_2, hr⟩ := aA hr
  obtain ⟨eX, h_3, hr⟩ := aA hr
  obtain ⟨q_1, h_4, hr⟩ := aA hr
  obtain ⟨q_2, h_5, hr⟩ := aA hr
  refine zz ?_
  refine xp (aCG h_2) <| xp (aBG h_3) ?_
  refine zz ?_
  refine AB.seq ?_
  obtain ⟨dE, h_6, hr⟩ := aA hr
  obtain ⟨e9, h_7, hr⟩ := aA hr
  obtain ⟨x25, h_8, hr⟩ := aA hr
  obtain ⟨x27, h_9, hr⟩ := aA hr
  obtain ⟨x29, h_10, hr⟩ := aA hr
  obtain ⟨eV, h_11, hr⟩ := aA hr
  obtain ⟨oG, h_12, hr⟩ := aA hr
  obtain ⟨x35, h_13, hr⟩ := aA hr
  refine AB.rs mixed [] [] [[0, 1, 2, 3, 4, 5, 6, 7, 8, 9, 10, 11, 12, 13, 14, 15, 16, 17, 18, 19, 20, 21, 22, 23]] ?_
  refine zz ?_
  refine AB.seq_g fun K1 hK1 hG1 => ?_
  have J1 : ∀ (va : Int) (b : Int) (c : Int) (d : Int) (ve : Int) (f : Int) (g : Int) (vh : Int), o4 N bX va b c d ve f g vh = some r → K1 (aG 133 [(2, (.ptr 0 0)), (4, (.ptr 1 0)), (7, (eI .u32 va)), (8, (eI .u32 b)), (9, (eI .u32 c)), (10, (eI .u32 d)), (11, (eI .u32 ve)), (12, (eI .u32 f)), (13, (eI .u32 g)), (14, (eI .u32 vh))]) [some ⟨146, bX.map (eI .u32)⟩, some ⟨146, (List.replicate 8 0).map (eI .u32)⟩] := by
    intro va b c d ve f g vh hr
    unfold o4 at hr
    refine hK1 _ _ ?_
    obtain ⟨aKw, h_14, hr⟩ := aA hr
    obtain ⟨aJT, h_15, hr⟩ := aA hr
    obtain ⟨aB7, h_16, hr⟩ := aA hr
    obtain ⟨aKJ, h_17, hr⟩ := aA hr
    obtain ⟨aKg, h_18, hr⟩ := aA hr
    obtain ⟨gF, h_19, hr⟩ := aA hr
    obtain ⟨gE, h_20, hr⟩ := aA hr
    obtain ⟨aKZ, h_21, hr⟩ := aA hr
    refine zz ?_
    refine xw (v := (.agg ([IntKind.u32.wrap (aKw + va), IntKind.u32.wrap (aJT + b), IntKind.u32.wrap (aB7 + c), IntKind.u32.wrap (aKJ + d), IntKind.u32.wrap (aKg + ve), IntKind.u32.wrap (gF + f), IntKind.u32.wrap (gE + g), IntKind.u32.wrap (aKZ + vh)].map (eI .u32)))) (cB rfl (k4 aCo tA rfl)) ?_
    refine zz ?_
    obtain rfl := sj hr
    exact eR Tryz.results120 bC (zG [])
  obtain ⟨bD, hL2, hr⟩ := aA hr
  refine zz ?_
  refine AB.block <| AB.loopN (fun m s h => ∃ (va_1 : Int) (b_1 : Int) (c_1 : Int) (d_1 : Int) (ve_1 : Int) (f_1 : Int) (g_1 : Int) (vh_1 : Int) (vi : Int), gY N bX x19 eX m va_1 b_1 c_1 d_1 ve_1 f_1 g_1 vh_1 vi = some bD ∧ Ghost 0 s h (aG 133 [(2, (.ptr 0 0)), (4, (.ptr 1 0)), (5, (.ptr 2 0)), (6, (.ptr 3 0)), (7, (eI .u32 va_1)), (8, (eI .u32 b_1)), (9, (eI .u32 c_1)), (10, (eI .u32 d_1)), (11, (eI .u32 ve_1)), (12, (eI .u32 f_1)), (13, (eI .u32 g_1)), (14, (eI .u32 vh_1)), (15, (eI .i64 vi))]) [some ⟨146, bX.map (eI .u32)⟩, some ⟨146, (List.replicate 8 0).map (eI .u32)⟩, some ⟨164, x19.map (eI .u32)⟩, some ⟨164, eX.map (eI .u32)⟩]) (n := N) ⟨dE, e9, x25, x27, x29, eV, oG, x35, 0, hL2, (zG [0, 2, 3, 4])⟩ (by rintro s h ⟨_, _, _, _, _, _, _, _, _, h0, _⟩; simp [gY] at h0) ?_
  rintro m2 s h ⟨va_1, b_1, c_1, d_1, ve_1, f_1, g_1, vh_1, vi, hr2, hg⟩
  refine AB.ghost hg ?_
  clear hg hL2
  rw [gY] at hr2
  refine AB.seq ?_
  refine zz ?_
  refine zk hr2 rfl (fun h22 hr2 => ?_) (fun h22 hr2 => ?_)
  · refine zz ?_
    refine AB.seq <| AB.block <| AB.seq ?_
    obtain ⟨x43, h_23, hr2⟩ := aA hr2
    obtain ⟨x45, h_25, hr2⟩ := aA hr2
    obtain ⟨x48, h_27, hr2⟩ := aA hr2
    obtain ⟨x61, h_29, hr2⟩ := aA hr2
    obtain ⟨x65, h_30, hr2⟩ := aA hr2
    refine AB.rs mixed [128] [] [[0, 1, 2, 3, 4, 5, 6, 7, 8, 9, 10, 11, 12, 13, 14, 15, 16, 17, 18, 19, 20, 21, 22, 23, 24, 25, 26, 27]] ?_
    refine zz ?_
    refine xu (gM h_23) ?_
    refine zz ?_
    refine xu (gM h_25) ?_
    refine zz ?_
    refine xu (gM h_27) ?_
    refine zz ?_
    refine xw (v := (eI .u32 (bits .xor .u32 (IntKind.max .u32) ve_1))) (aG2 rfl (aHK rfl _)) ?_
    obtain ⟨x69, h_31, hr2⟩ := aA hr2
    obtain ⟨x71, h_32, hr2⟩ := aA hr2
    obtain ⟨x74, h_33, hr2⟩ := aA hr2
    refine zz ?_
    refine xp (gM h_31) ?_
    refine zz ?_
    refine xp (gM h_32) ?_
    refine zz ?_
    refine xp (gM h_33) ?_
    refine zz ?_
    exact ⟨IntKind.u32.wrap ((IntKind.u32.wrap ((IntKind.u32.wrap ((IntKind.u32.wrap ((IntKind.u32.wrap (vh_1 + (bits .xor .u32 (bits .xor .u32 x43 x45) x48))) + (bits .xor .u32 (bits .and .u32 ve_1 f_1) (bits .and .u32 (bits .xor .u32 (IntKind.max .u32) ve_1) g_1)))) + x61)) + x65)) + (IntKind.u32.wrap ((bits .xor .u32 (bits .xor .u32 x69 x71) x74) + (bits .xor .u32 (bits .xor .u32 (bits .and .u32 va_1 b_1) (bits .and .u32 va_1 c_1)) (bits .and .u32 b_1 c_1))))), va_1, b_1, c_1, IntKind.u32.wrap (d_1 + (IntKind.u32.wrap ((IntKind.u32.wrap ((IntKind.u32.wrap ((IntKind.u32.wrap (vh_1 + (bits .xor .u32 (bits .xor .u32 x43 x45) x48))) + (bits .xor .u32 (bits .and .u32 ve_1 f_1) (bits .and .u32 (bits .xor .u32 (IntKind.max .u32) ve_1) g_1)))) + x61)) + x65))), ve_1, f_1, g_1, IntKind.i64.wrap (vi + 1), hr2, (zG [0, 1, 2, 3])⟩
  · refine zz ?_
    obtain rfl := sj hr2
    refine zz ?_
    exact hG1 _ _ _ _ (zG [0, 1]) (J1 va_1 b_1 c_1 d_1 ve_1 f_1 g_1 vh_1 hr)
theorem aCg {N : Nat} {b : List Int} {r : (List Int)} (hr : uQ N b = some r) :
    Vm.Fn Tryz.prog 94 [] [(.row none 1 (b.map (eI .u8)))] (.agg (r.map (eI .u8))) [] := by
  refine zf Tryz.func94 Tryz.ntmps94 ?_
  unfold uQ at hr
  obtain ⟨bW, h_1, hr⟩ := aA hr
  obtain ⟨x15, h_2, hr⟩ := aA hr
  obtain ⟨x16, h_3, hr⟩ := aA hr
  refine zz ?_
  refine zc (aGn h_2) [] ?_
  obtain ⟨x17, h_4, hr⟩ := aA hr
  obtain ⟨q, h_5, hr⟩ := aA hr
  refine zz ?_
  refine xp (aDj h_4) ?_
  refine zz ?_
  refine AB.seq_g fun K1 hK1 hG1 => ?_
  have J1 : ∀ (l1 : List Int), vJ N l1 = some r → K1 (aG 66 [(2, (.ptr 0 0)), (4, (.ptr 1 0))]) [some ⟨24, (List.replicate 32 0).map (eI .u8)⟩, some ⟨146, l1.map (eI .u32)⟩] := by
    intro l1 hr
    unfold vJ at hr
    refine hK1 _ _ ?_
    refine zz ?_
    refine AB.seq_g fun K2 hK2 hG2 => ?_
    have J2 : ∀ (c5 : List Int), vB N c5 = some r → K2 (aG 66 [(2, (.ptr 0 0)), (7, (.ptr 1 0))]) [some ⟨24, (List.replicate 32 0).map (eI .u8)⟩, some ⟨24, c5.map (eI .u8)⟩] := by
      intro c5 hr
      unfold vB at hr
      refine hK2 _ _ ?_
      obtain ⟨q_1, h_6, hr⟩ := aA hr
      refine zz ?_
      obtain rfl := sj hr
      exact eR Tryz.results94 bC (zG [])
    obtain ⟨q_2, h_7, hr⟩ := aA hr
    obtain ⟨u4, hL3, hr⟩ := aA hr
    refine zz ?_
    refine AB.block <| AB.loopN (fun m s h => ∃ (fY : Int) (cO : List Int), mF N l1 m fY cO = some u4 ∧ Ghost 0 s h (aG 66 [(2, (.ptr 0 0)), (7, (.ptr 1 0)), (33, (.agg (l1.map (eI .u32)))), (34, (eI .i64 fY))]) [some ⟨24, (List.replicate 32 0).map (eI .u8)⟩, some ⟨24, cO.map (eI .u8)⟩]) (n := N) ⟨0, List.replicate 32 0, hL3, (zG [0, 2])⟩ (by rintro s h ⟨_, _, h0, _⟩; simp [mF] at h0) ?_
    rintro m3 s h ⟨fY, cO, hr3, hg⟩
    refine AB.ghost hg ?_
    clear hg hL3
    rw [mF] at hr3
    refine zz ?_
    refine AB.seq ?_
    refine zk hr3 rfl (fun h8 hr3 => ?_) (fun h8 hr3 => ?_)
    · refine zz ?_
      refine AB.seq <| AB.block ?_
      obtain ⟨x37, h_9, hr3⟩ := aA hr3
      refine zz ?_
      refine xw (v := (eI .u32 x37)) (aKm rfl rfl (ixA (E := (eI .u32)) aCo tA rfl rfl h_9)) ?_
      obtain ⟨x50, h_10, hr3⟩ := aA hr3
      obtain ⟨x53, h_11, hr3⟩ := aA hr3
      obtain ⟨x56, h_12, hr3⟩ := aA hr3
      obtain ⟨x60, h_13, hr3⟩ := aA hr3
      obtain ⟨x61, h_14, hr3⟩ := aA hr3
      obtain ⟨x62, h_15, hr3⟩ := aA hr3
      obtain ⟨x63, h_16, hr3⟩ := aA hr3
      refine zz ?_
      exact ⟨IntKind.i64.wrap (fY + 1), (((cO.set (Int.toNat (IntKind.i64.wrap (4 * fY))) (IntKind.u8.wrap x50)).set (Int.toNat (IntKind.i64.wrap ((IntKind.i64.wrap (4 * fY)) + 1))) (IntKind.u8.wrap x53)).set (Int.toNat (IntKind.i64.wrap ((IntKind.i64.wrap (4 * fY)) + 2))) (IntKind.u8.wrap x56)).set (Int.toNat (IntKind.i64.wrap ((IntKind.i64.wrap (4 * fY)) + 3))) (IntKind.u8.wrap x37), hr3, (zG [0, 1])⟩
    · refine zz ?_
      obtain rfl := sj hr3
      refine zz ?_
      exact hG2 _ _ _ _ (zG [0, 1]) (J2 cO hr)
  refine zz ?_
  refine AB.ghost (zv 4) ?_
  obtain ⟨res4, hL4, hr⟩ := aA hr
  refine AB.block <| AB.loopN (fun m s h => ∃ (vi : Int) (l1_3 : List Int), mU N x16 m vi l1_3 = some res4 ∧ Ghost 0 s h (aG 66 [(2, (.ptr 0 0)), (3, (.row none 1 (x16.map (eI .u8)))), (4, (.ptr 1 0)), (5, (eI .i64 vi))]) [some ⟨24, (List.replicate 32 0).map (eI .u8)⟩, some ⟨146, l1_3.map (eI .u32)⟩]) (n := N) ⟨0, x17, hL4, (zG [0, 5])⟩ (by rintro s h ⟨_, _, h0, _⟩; simp [mU] at h0) ?_
  rintro m4 s h ⟨vi, l1_3, hr4, hg⟩
  refine AB.ghost hg ?_
  clear hg hL4
  rw [mU] at hr4
  refine AB.seq ?_
  refine zz ?_
  refine zk hr4 rfl (fun h17 hr4 => ?_) (fun h17 hr4 => ?_)
  · refine zz ?_
    refine AB.seq <| AB.block ?_
    refine zz ?_
    refine AB.seq ?_
    obtain ⟨x28, h_18, hr4⟩ := aA hr4
    refine AB.rs mixed [] [] [[0, 1, 2, 3, 4]] ?_
    refine zz ?_
    refine xw (v := (eI .i64 ((min x28.length (List.replicate 64 0).length : Nat) : Int))) (h' := [some ⟨24, (List.replicate 32 0).map (eI .u8)⟩, some ⟨146, l1_3.map (eI .u32)⟩, some ⟨148, (yD (List.replicate 64 0) x28).map (eI .u8)⟩]) (aGb rfl rfl (aKe (E := (eI .u8)) (l := List.replicate 64 0) rfl bH jC rfl rfl (aGP (fun _ => rfl)) rfl)) ?_
    obtain ⟨q_3, h_19, hr4⟩ := aA hr4
    obtain ⟨q_4, h_20, hr4⟩ := aA hr4
    obtain ⟨nA, h_21, hr4⟩ := aA hr4
    obtain ⟨q_5, h_22, hr4⟩ := aA hr4
    refine zz ?_
    refine xp (aCA h_21) ?_
    refine zz ?_
    exact ⟨IntKind.i64.wrap (vi + 64), nA, hr4, (zG [0, 1])⟩
  · refine zz ?_
    obtain rfl := sj hr4
    refine zz ?_
    exact hG1 _ _ _ _ (zG [0, 1]) (J1 l1_3 hr)
theorem nY {N : Nat} {tag : ByteArray} {b : List Int} {r : (List Int)} (hr : o7 N tag b = some r) :
    Vm.Fn Tryz.prog 63 [] [(eS tag), (.row none 1 (b.map (eI .u8)))] (.agg (r.map (eI .u8))) [] := by
  refine zf Tryz.func63 Tryz.ntmps63 ?_
  unfold o7 at hr
  obtain ⟨x7, h_1, hr⟩ := aA hr
  obtain ⟨x8, h_2, hr⟩ := aA hr
  obtain ⟨q, h_3, hr⟩ := aA hr
  refine zz ?_
  refine aNr (h' := [some ⟨24, (List.replicate 32 0).map (eI .u8)⟩, some ⟨5, x7.map (eI .u8)⟩]) rfl ti9 bH jC h_1 rfl rfl <| vG (aCg h_2) [] [1] ?_
  refine zz ?_
  refine AB.seq ?_
  obtain ⟨bS, h_4, hr⟩ := aA hr
  obtain ⟨cL, h_5, hr⟩ := aA hr
  obtain ⟨aZ, h_6, hr⟩ := aA hr
  obtain ⟨x15, h_7, hr⟩ := aA hr
  obtain ⟨q_1, h_9, hr⟩ := aA hr
  refine AB.rs mixed [] [94] [[0, 1, 2, 3, 4, 5, 6, 7]] ?_
  refine zz ?_
  refine zgL (aCg h_7) [] [6] ?_
  refine zz ?_
  obtain rfl := sj hr
  exact eR Tryz.results63 bC (zG [])
theorem aEr {N : Nat} {x : List Int} {vm : List Int} {r : (List Int)} (hr : tO N x vm = some r) :
    Vm.Fn Tryz.prog 29 [] [(.agg (x.map (eI .u64))), (.agg (vm.map (eI .u8)))] (.agg (r.map (eI .u64))) [] := by
  refine zf Tryz.func29 Tryz.ntmps29 ?_
  unfold tO at hr
  refine zz ?_
  refine AB.seq ?_
  obtain ⟨q, h_1, hr⟩ := aA hr
  refine AB.ghost (zv 1) ?_
  obtain ⟨q_1, h_2, hr⟩ := aA hr
  obtain ⟨x7, h_3, hr⟩ := aA hr
  obtain ⟨bS, h_5, hr⟩ := aA hr
  obtain ⟨bW, h_7, hr⟩ := aA hr
  obtain ⟨cL, h_9, hr⟩ := aA hr
  obtain ⟨q_2, h_11, hr⟩ := aA hr
  refine AB.rd (dN [6, 33]) (dN [32, 63]) mixed <| DrawG.pick (n := 8) (i := 0) (by decide +kernel) rfl (gS (v := (.agg (x.map (eI .u64)))) (sv (bA rfl (uN (E := (eI .u64)) (l := x) bE rfl rfl (aQ h_2))))) <| DrawG.pick (n := 7) (i := 1) (by decide +kernel) rfl (gU (fun _ => (Vm.Fn.pure (nL h_3) zR rfl)) rfl (sv (d6 rfl kL))) <| DrawG.pick (n := 6) (i := 2) (by decide +kernel) rfl (gS (v := (.row none 1 (vm.map (eI .u8)))) (sv (dU rfl rfl rfl (slE (E := (eI .u8)) (l := vm) s8 jC rfl rfl (aQ h_1) zl)))) ?_
  refine DrawG.jn (m := 1) (L := lst [0, 1, 2, 3, 4, 5, 6, 7] 9) (s1 := aG 17 [(4, (.ptr 0 0)), (5, (.ptr 1 0)), (12, (.agg (cL.map (eI .u64))))]) (h1 := [some ⟨31, (List.replicate 4 0).map (eI .u64)⟩, some ⟨31, (List.replicate 4 0).map (eI .u64)⟩]) ?_ (fun J => ?_)
  · refine DrawG.pick (n := 0) (i := 8) (by decide +kernel) rfl (gN (h' := [some ⟨31, (List.replicate 4 0).map (eI .u64)⟩, some ⟨31, cL.map (eI .u64)⟩]) (sv (bG rfl rfl (s6 (E := (eI .u64)) (l := List.replicate 4 0) bE rfl rfl (fun _ => rfl) rfl (aQ h_11) rfl)))) <| DrawG.nil (by decide +kernel) ?_
    refine zz ?_
    refine AB.seq ?_
    obtain ⟨aZ, h_12, hr⟩ := aA hr
    refine zz ?_
    refine xp (nE h_12) ?_
    refine zz ?_
    refine zk hr rfl (fun h13 hr => ?_) (fun h13 hr => ?_)
    · obtain ⟨x15, h_14, hr⟩ := aA hr
      obtain ⟨q_3, h_15, hr⟩ := aA hr
      refine zz ?_
      refine xp (oV h_14) ?_
      refine zz ?_
      obtain rfl := sj hr
      exact eR Tryz.results29 bC (zG [])
    · refine zz ?_
      obtain rfl := sj hr
      exact eR Tryz.results29 bC (zG [])
  · refine DrawG.fork (n := 5) [3, 7] (by decide +kernel) (by decide) ?_
    refine (Fork.cons rfl (gS (v := (.sl 3 0 2 1 false)) (h' := [some ⟨31, x.map (eI .u64)⟩, none, some ⟨31, (List.replicate 4 0).map (eI .u64)⟩, some ⟨22, [x7, vm].map (eL 1 (eI .u8))⟩]) (sv (dH rfl (nZ (xs := [x7, vm].map (eL 1 (eI .u8))) cP bH zl zl rfl rfl rfl rfl rfl rfl rfl)))) ?_ (Fork.cons rfl (gS (v := (.ptr 3 0)) (h' := [some ⟨31, x.map (eI .u64)⟩, none, some ⟨31, (List.replicate 4 0).map (eI .u64)⟩, some ⟨31, (List.replicate 4 0).map (eI .u64)⟩]) (sv (eK bE rfl rfl rfl))) ?_ Fork.nil))
    · refine DrawG.fork (n := 4) [4, 7] (by decide +kernel) (by decide) ?_
      refine (Fork.cons rfl (gC (v := (.sl 4 0 bS.length 1 false)) (h' := [some ⟨31, x.map (eI .u64)⟩, none, some ⟨31, (List.replicate 4 0).map (eI .u64)⟩, some ⟨22, [x7, vm].map (eL 1 (eI .u8))⟩, some ⟨5, bS.map (eI .u8)⟩]) (zL (qL h_5) [] [3]) rfl (fun _ => ⟨_, rfl⟩) (sv (d6 rfl gL))) ?_ (Fork.cons rfl (gS (v := (.ptr 4 0)) (h' := [some ⟨31, x.map (eI .u64)⟩, none, some ⟨31, (List.replicate 4 0).map (eI .u64)⟩, some ⟨22, [x7, vm].map (eL 1 (eI .u8))⟩, some ⟨31, (List.replicate 4 0).map (eI .u64)⟩]) (sv (eK bE rfl rfl rfl))) ?_ Fork.nil))
      · refine DrawG.fork (n := 3) [5, 7] (by decide +kernel) (by decide) ?_
        refine (Fork.cons rfl (gC (v := (.agg (bW.map (eI .u8)))) (h' := [some ⟨31, x.map (eI .u64)⟩, none, some ⟨31, (List.replicate 4 0).map (eI .u64)⟩, some ⟨22, [x7, vm].map (eL 1 (eI .u8))⟩, some ⟨5, bS.map (eI .u8)⟩]) (zL (nY h_7) [] [4]) rfl (fun _ => ⟨[], by simp⟩) (sv (d6 rfl gL))) ?_ (Fork.cons rfl (gS (v := (.ptr 5 0)) (h' := [some ⟨31, x.map (eI .u64)⟩, none, some ⟨31, (List.replicate 4 0).map (eI .u64)⟩, some ⟨22, [x7, vm].map (eL 1 (eI .u8))⟩, some ⟨5, bS.map (eI .u8)⟩, some ⟨31, (List.replicate 4 0).map (eI .u64)⟩]) (sv (eK bE rfl rfl rfl))) ?_ Fork.nil))
        · refine DrawG.pick (n := 2) (i := 6) (by decide +kernel) rfl (gU (fun _ => (Vm.Fn.pure (k9 h_9) zR zR)) rfl (sv (d6 rfl kL))) <| DrawG.pick (n := 1) (i := 7) (by decide +kernel) rfl (gS (v := (.ptr 5 0)) (h' := [some ⟨31, x.map (eI .u64)⟩, none, some ⟨31, (List.replicate 4 0).map (eI .u64)⟩, some ⟨22, [x7, vm].map (eL 1 (eI .u8))⟩, some ⟨5, bS.map (eI .u8)⟩, some ⟨31, (List.replicate 4 0).map (eI .u64)⟩]) (sv (eK bE rfl rfl rfl))) ?_
          exact DrawG.jg (by decide +kernel) (by decide +kernel) (zG [2, 5]) J
        · refine DrawG.pick (n := 2) (i := 5) (by decide +kernel) rfl (gC (v := (.agg (bW.map (eI .u8)))) (h' := [some ⟨31, x.map (eI .u64)⟩, none, some ⟨31, (List.replicate 4 0).map (eI .u64)⟩, some ⟨22, [x7, vm].map (eL 1 (eI .u8))⟩, some ⟨5, bS.map (eI .u8)⟩, some ⟨31, (List.replicate 4 0).map (eI .u64)⟩]) (zL (nY h_7) [] [4]) rfl (fun _ => ⟨[], by simp⟩) (sv (d6 rfl gL))) <| DrawG.pick (n := 1) (i := 6) (by decide +kernel) rfl (gU (fun _ => (Vm.Fn.pure (k9 h_9) zR zR)) rfl (sv (d6 rfl kL))) ?_
          exact DrawG.jg (by decide +kernel) (by decide +kernel) (zG [2, 5]) J
      · refine DrawG.pick (n := 3) (i := 4) (by decide +kernel) rfl (gC (v := (.sl 5 0 bS.length 1 false)) (h' := [some ⟨31, x.map (eI .u64)⟩, none, some ⟨31, (List.replicate 4 0).map (eI .u64)⟩, some ⟨22, [x7, vm].map (eL 1 (eI .u8))⟩, some ⟨31, (List.replicate 4 0).map (eI .u64)⟩, some ⟨5, bS.map (eI .u8)⟩]) (zL (qL h_5) [] [3]) rfl (fun _ => ⟨_, rfl⟩) (sv (d6 rfl gL))) <| DrawG.pick (n := 2) (i := 5) (by decide +kernel) rfl (gC (v := (.agg (bW.map (eI .u8)))) (h' := [some ⟨31, x.map (eI .u64)⟩, none, some ⟨31, (List.replicate 4 0).map (eI .u64)⟩, some ⟨22, [x7, vm].map (eL 1 (eI .u8))⟩, some ⟨31, (List.replicate 4 0).map (eI .u64)⟩, some ⟨5, bS.map (eI .u8)⟩]) (zL (nY h_7) [] [5]) rfl (fun _ => ⟨[], by simp⟩) (sv (d6 rfl gL))) ?_
        refine DrawG.pick (n := 1) (i := 6) (by decide +kernel) rfl (gU (fun _ => (Vm.Fn.pure (k9 h_9) zR zR)) rfl (sv (d6 rfl kL))) ?_
        exact DrawG.jg (by decide +kernel) (by decide +kernel) (zG [2, 4]) J
    · refine DrawG.pick (n := 4) (i := 3) (by decide +kernel) rfl (gS (v := (.sl 4 0 2 1 false)) (h' := [some ⟨31, x.map (eI .u64)⟩, none, some ⟨31, (List.replicate 4 0).map (eI .u64)⟩, some ⟨31, (List.replicate 4 0).map (eI .u64)⟩, some ⟨22, [x7, vm].map (eL 1 (eI .u8))⟩]) (sv (dH rfl (nZ (xs := [x7, vm].map (eL 1 (eI .u8))) cP bH zl zl rfl rfl rfl rfl rfl rfl rfl)))) <| DrawG.pick (n := 3) (i := 4) (by decide +kernel) rfl (gC (v := (.sl 5 0 bS.length 1 false)) (h' := [some ⟨31, x.map (eI .u64)⟩, none, some ⟨31, (List.replicate 4 0).map (eI .u64)⟩, some ⟨31, (List.replicate 4 0).map (eI .u64)⟩, some ⟨22, [x7, vm].map (eL 1 (eI .u8))⟩, some ⟨5, bS.map (eI .u8)⟩]) (zL (qL h_5) [] [4]) rfl (fun _ => ⟨_, rfl⟩) (sv (d6 rfl gL))) ?_
      refine DrawG.pick (n := 2) (i := 5) (by decide +kernel) rfl (gC (v := (.agg (bW.map (eI .u8)))) (h' := [some ⟨31, x.map (eI .u64)⟩, none, some ⟨31, (List.replicate 4 0).map (eI .u64)⟩, some ⟨31, (List.replicate 4 0).map (eI .u64)⟩, some ⟨22, [x7, vm].map (eL 1 (eI .u8))⟩, some ⟨5, bS.map (eI .u8)⟩]) (zL (nY h_7) [] [5]) rfl (fun _ => ⟨[], by simp⟩) (sv (d6 rfl gL))) <| DrawG.pick (n := 1) (i := 6) (by decide +kernel) rfl (gU (fun _ => (Vm.Fn.pure (k9 h_9) zR zR)) rfl (sv (d6 rfl kL))) ?_
      exact DrawG.jg (by decide +kernel) (by decide +kernel) (zG [2, 3]) J
theorem aBR {N : Nat} {vr : List Int} {p : List Int} {vm : List Int} {r : (List Int)} (hr : n8 N vr p vm = some r) :
    Vm.Fn Tryz.prog 30 [] [(.agg (vr.map (eI .u64))), (.agg (p.map (eI .u64))), (.agg (vm.map (eI .u8)))] (.agg (r.map (eI .u64))) [] := by
  refine zf Tryz.func30 Tryz.ntmps30 ?_
  unfold n8 at hr
  refine zz ?_
  refine AB.seq ?_
  obtain ⟨q, h_1, hr⟩ := aA hr
  obtain ⟨x8, h_2, hr⟩ := aA hr
  obtain ⟨q_1, h_4, hr⟩ := aA hr
  obtain ⟨bS, h_5, hr⟩ := aA hr
  obtain ⟨q_2, h_7, hr⟩ := aA hr
  obtain ⟨d7, h_8, hr⟩ := aA hr
  obtain ⟨aZ, h_10, hr⟩ := aA hr
  obtain ⟨x15, h_12, hr⟩ := aA hr
  obtain ⟨q_3, h_14, hr⟩ := aA hr
  refine AB.rs mixed [6, 33] [32, 63] [[0, 1, 2, 3, 4], [5, 6, 7, 8, 9]] ?_
  refine zz ?_
  refine xu (nL h_2) ?_
  refine zz ?_
  refine xu (nL h_5) ?_
  refine zz ?_
  refine ⟨_, _, (zv 2), ?_⟩
  refine zz ?_
  refine zgL (qL h_8) [] [4] ?_
  refine zgL (nY h_10) [] [5] ?_
  refine xu (k9 h_12) ?_
  refine zz ?_
  obtain rfl := sj hr
  exact eR Tryz.results30 bC (zG [])
theorem aBN {N : Nat} {va : List Int} {b : List Int} {r : (List Int)} (hr : oA N va b = some r) :
    Vm.Fn Tryz.prog 31 [] [(.agg (va.map (eI .u64))), (.agg (b.map (eI .u64)))] (.agg (r.map (eI .u64))) [] := by
  refine zf Tryz.func31 Tryz.ntmps31 ?_
  unfold oA at hr
  refine zz ?_
  refine AB.seq ?_
  obtain ⟨q, h_1, hr⟩ := aA hr
  obtain ⟨q_1, h_2, hr⟩ := aA hr
  obtain ⟨x7, h_3, hr⟩ := aA hr
  obtain ⟨x8, h_5, hr⟩ := aA hr
  obtain ⟨q_2, h_7, hr⟩ := aA hr
  refine AB.rs mixed [58, 64] [] [[0, 1, 2, 3, 4]] ?_
  refine zz ?_
  refine xu (wL h_3) <| xu (uV h_5) ?_
  refine zz ?_
  obtain rfl := sj hr
  exact eR Tryz.results31 bC (zG [])
theorem aFB {N : Nat} {x : List Int} {vm : List Int} {r : (List Int) × (List Int) × Int} (hr : vC N x vm = some r) :
    Vm.Fn Tryz.prog 8 [] [(.agg (x.map (eI .u64))), (.agg (vm.map (eI .u8)))] (.tup [(.agg (dG (eI .u64) r.1 (dG (eI .u64) r.2.1 []))), (eI .i64 r.2.2)]) [] := by
  refine zf Tryz.func8 Tryz.ntmps8 ?_
  unfold vC at hr
  refine zz ?_
  refine xw (v := (.ptr 2 0)) (h' := [some ⟨31, x.map (eI .u64)⟩, some ⟨24, vm.map (eI .u8)⟩, some ⟨37, (dG (eI .u64) (List.replicate 4 0) (dG (eI .u64) (List.replicate 4 0) []))⟩]) (eK uD rfl rfl rfl) ?_
  obtain ⟨q, h_1, hr⟩ := aA hr
  obtain ⟨cL, h_2, hr⟩ := aA hr
  obtain ⟨q_1, h_3, hr⟩ := aA hr
  refine zz ?_
  refine xp (z7 h_2) ?_
  refine zz ?_
  refine AB.seq ?_
  refine zz ?_
  refine zk hr rfl (fun h4 hr => ?_) (fun h4 hr => ?_)
  · refine zz ?_
    refine xw (v := (.agg (dG (eI .u64) (List.replicate 4 0) (dG (eI .u64) (List.replicate 4 0) [])))) (cB rfl (aAh uD aED rfl)) ?_
    refine zz ?_
    obtain rfl := sj hr
    exact vV Tryz.results8 bC bC (zG [])
  · obtain ⟨q_2, h_5, hr⟩ := aA hr
    obtain ⟨dE, h_6, hr⟩ := aA hr
    obtain ⟨q_3, h_7, hr⟩ := aA hr
    refine zz ?_
    refine xp (aEr h_6) ?_
    refine zz ?_
    refine AB.seq ?_
    obtain ⟨e9, h_8, hr⟩ := aA hr
    obtain ⟨x26, h_10, hr⟩ := aA hr
    obtain ⟨q_4, h_12, hr⟩ := aA hr
    refine AB.rs mixed [28, 30] [] [[0, 1, 2, 3, 4, 5, 6]] ?_
    refine zz ?_
    refine xu (aAD h_8) ?_
    refine zz ?_
    refine xu (aBR h_10) ?_
    refine zz ?_
    refine AB.seq ?_
    obtain ⟨eV, h_13, hr⟩ := aA hr
    obtain ⟨nA, h_15, hr⟩ := aA hr
    obtain ⟨q_5, h_17, hr⟩ := aA hr
    refine AB.rs mixed [25, 31] [] [[0, 1, 2, 3, 4, 5, 6, 7, 8]] ?_
    refine zz ?_
    refine xu (aBN h_13) <| xu (xK h_15) <| xw (v := (.agg (dG (eI .u64) x26 (dG (eI .u64) nA [])))) (cB rfl (aJU (ps' := [(0, (.agg (dG (eI .u64) x26 []))), (1, (.agg (dG (eI .u64) nA [])))]) (by simp only [uS (l := x26) (aQ h_12), uS (l := nA) (aQ h_17)]) (aAh uD aED rfl))) ?_
    refine zz ?_
    obtain rfl := sj hr
    exact vV Tryz.results8 bC bC (zG [])
theorem aDD {N : Nat} {s_E : List Int} {s_S : List Int} {r : (List Int)} (hr : r9 N s_E s_S = some r) :
    Vm.Fn Tryz.prog 9 [] [(.agg (dG (eI .u64) s_E (dG (eI .u64) s_S [])))] (.row none 1 (r.map (eI .u8))) [] := by
  refine zf Tryz.func9 Tryz.ntmps9 ?_
  unfold r9 at hr
  refine zz ?_
  refine AB.seq ?_
  obtain ⟨q, h_1, hr⟩ := aA hr
  obtain ⟨x5, h_2, hr⟩ := aA hr
  obtain ⟨q_1, h_4, hr⟩ := aA hr
  obtain ⟨x8, h_5, hr⟩ := aA hr
  obtain ⟨bS, h_7, hr⟩ := aA hr
  refine AB.rs mixed [33] [32] [[0, 1, 2, 3, 4, 5, 6, 7, 8]] ?_
  refine zz ?_
  refine xu (nL h_2) ?_
  refine zz ?_
  refine xu (nL h_5) ?_
  refine zz ?_
  refine zgL (qL h_7) [] [1] ?_
  refine zz ?_
  obtain rfl := sj hr
  exact eR Tryz.results9 bC (Ghost.trans (zv 2) (zG []))
theorem aDV {N : Nat} {aJ : Int} {aU : List Int} {bU : Int} {bN : Int} {r : Int} (hr : k6 N aJ aU bU bN = some r) :
    Vm.Fn Tryz.prog 67 [] [(.agg [(eI .i64 aJ), (.row none 1 (aU.map (eI .u8))), (eI .i64 bU), (eI .i64 bN)])] (eI .i64 r) [] := by
  refine zf Tryz.func67 Tryz.ntmps67 ?_
  unfold k6 at hr
  refine zz ?_
  refine AB.seq <| AB.block ?_
  obtain ⟨x6, h_1, hr⟩ := aA hr
  refine zz ?_
  refine xp (z5 h_1) ?_
  refine zz ?_
  refine zk hr rfl (fun h2 hr => ?_) (fun h2 hr => ?_)
  · refine zz ?_
    obtain rfl := sj hr
    exact bO Tryz.results67 []
  · refine AB.seq_g fun K1 hK1 hG1 => ?_
    have J1 : ∀ (x8 : Bool), lD N aJ aU bU bN x8 = some r → K1 (aG 49 [(1, (.ptr 0 0)), (8, (eB x8))]) [some ⟨85, [(eI .i64 aJ), (.row none 1 (aU.map (eI .u8))), (eI .i64 bU), (eI .i64 bN)]⟩] := by
      intro x8 hr
      unfold lD at hr
      refine hK1 _ _ ?_
      refine zk hr rfl (fun h3 hr => ?_) (fun h3 hr => ?_)
      · refine zz ?_
        obtain rfl := sj hr
        exact bO Tryz.results67 []
      · refine AB.seq_g fun K2 hK2 hG2 => ?_
        have J2 : ∀ (x18 : Bool), jS N aJ aU bU bN x18 = some r → K2 (aG 49 [(1, (.ptr 0 0)), (18, (eB x18))]) [some ⟨85, [(eI .i64 aJ), (.row none 1 (aU.map (eI .u8))), (eI .i64 bU), (eI .i64 bN)]⟩] := by
          intro x18 hr
          unfold jS at hr
          refine hK2 _ _ ?_
          refine zk hr rfl (fun h4 hr => ?_) (fun h4 hr => ?_)
          · refine zz ?_
            obtain rfl := sj hr
            exact bO Tryz.results67 []
          · refine zz ?_
            refine zk hr rfl (fun h5 hr => ?_) (fun h5 hr => ?_)
            · refine zz ?_
              obtain rfl := sj hr
              exact bO Tryz.results67 []
            · refine AB.seq_g fun K3 hK3 hG3 => ?_
              have J3 : ∀ (x37 : Bool), k7 N x37 = some r → K3 (aG 49 [(37, (eB x37))]) [] := by
                intro x37 hr
                unfold k7 at hr
                refine hK3 _ _ ?_
                refine zk hr rfl (fun h6 hr => ?_) (fun h6 hr => ?_)
                · refine zz ?_
                  obtain rfl := sj hr
                  exact bO Tryz.results67 []
                · refine zz ?_
                  obtain rfl := sj hr
                  exact bO Tryz.results67 []
              rcases Bool.eq_false_or_eq_true (aJ == 11) with h7 | h7
              · replace hr := fM hr h7
                obtain ⟨x46, h_8, hr⟩ := aA hr
                refine xr ?_
                refine zz ?_
                refine xCg (v := (eB x46)) (h' := [some ⟨85, [(eI .i64 aJ), (.row none 1 (aU.map (eI .u8))), (eI .i64 bU), (eI .i64 bN)]⟩]) rfl rfl h7 rfl (Vm.Fn.pure (yE h_8) rfl rfl) ?_
                refine zz ?_
                exact hG3 _ _ _ _ (zG []) (J3 (!x46) hr)
              · replace hr := fQ hr h7
                refine xr ?_
                refine zz ?_
                exact hG3 _ _ _ _ (zG []) (J3 false hr)
        rcases Bool.eq_false_or_eq_true (aJ != 11) with h9 | h9
        · replace hr := fM hr h9
          rcases Bool.eq_false_or_eq_true (bU != 0) with h10 | h10
          · replace hr := fM hr h10
            refine xr ?_
            refine zz ?_
            exact hG2 _ _ _ _ (zG [0]) (J2 true hr)
          · replace hr := fQ hr h10
            refine xr ?_
            refine zz ?_
            exact hG2 _ _ _ _ (zG [0]) (J2 (bN != 0) hr)
        · replace hr := fQ hr h9
          refine xr ?_
          refine zz ?_
          exact hG2 _ _ _ _ (zG [0]) (J2 false hr)
    rcases Bool.eq_false_or_eq_true (aJ != 1) with h11 | h11
    · replace hr := fM hr h11
      refine xr ?_
      refine zz ?_
      exact hG1 _ _ _ _ (zG [0]) (J1 (decide (0 < (aU.length : Int))) hr)
    · replace hr := fQ hr h11
      refine xr ?_
      refine zz ?_
      exact hG1 _ _ _ _ (zG [0]) (J1 false hr)
theorem sO {N : Nat} {data : List Int} {r : (List Int)} (hr : l6 N data = some r) :
    Vm.Fn Tryz.prog 38 [] [(.row none 1 (data.map (eI .u8)))] (.sl 0 0 r.length 1 false) [some ⟨5, r.map (eI .u8)⟩] := by
  refine zf Tryz.func38 Tryz.ntmps38 ?_
  unfold l6 at hr
  obtain ⟨x9, h_1, hr⟩ := aA hr
  refine zz ?_
  refine OpsX.ghost (zv 0) ?_
  refine zz ?_
  refine vG (lM h_1) [] [1] ?_
  refine zz ?_
  obtain rfl := sj hr
  exact bO Tryz.results38 [2]
theorem aC2 {N : Nat} {aJ : Int} {aU : List Int} {bU : Int} {bN : Int} {r : (List Int)} (hr : nC N aJ aU bU bN = some r) :
    Vm.Fn Tryz.prog 68 [] [(.agg [(eI .i64 aJ), (.row none 1 (aU.map (eI .u8))), (eI .i64 bU), (eI .i64 bN)])] (.sl 0 0 r.length 1 false) [some ⟨5, r.map (eI .u8)⟩] := by
  refine zf Tryz.func68 Tryz.ntmps68 ?_
  unfold nC at hr
  refine zz ?_
  refine AB.seq ?_
  refine zz ?_
  refine AB.block ?_
  refine zz ?_
  refine zk hr rfl (fun h1 hr => ?_) (fun h1 hr => ?_)
  · obtain ⟨x9, h_2, hr⟩ := aA hr
    refine zz ?_
    refine zc (sO h_2) [] ?_
    refine zz ?_
    obtain rfl := sj hr
    exact bO Tryz.results68 [1]
  · refine zz ?_
    refine zk hr rfl (fun h3 hr => ?_) (fun h3 hr => ?_)
    · refine zz ?_
      obtain rfl := sj hr
      exact eR Tryz.results68 bC (rU [1])
    · refine zz ?_
      obtain rfl := sj hr
      exact eR Tryz.results68 bC (rU [1])
theorem aBS {N : Nat} {l : List aM} {r : (List Int) × Int} (hr : q5 N l = some r) :
    Vm.Fn Tryz.prog 35 [] [(.row none 4 (l.map v5))] (.tup [(.sl 0 0 r.1.length 1 false), (eI .i64 r.2)]) [some ⟨5, r.1.map (eI .u8)⟩] := by
  refine zf Tryz.func35 Tryz.ntmps35 ?_
  unfold q5 at hr
  refine zz ?_
  refine AB.seq_g fun K1 hK1 hG1 => ?_
  have J1 : ∀ (l0 : List Int), n6 N l0 = some r → K1 (aG 28 [(4, (.sl 0 0 l0.length 1 false))]) [some ⟨5, l0.map (eI .u8)⟩] := by
    intro l0 hr
    unfold n6 at hr
    refine hK1 _ _ <| AB.seq ?_
    refine zz ?_
    refine zk hr rfl (fun h1 hr => ?_) (fun h1 hr => ?_)
    · refine zz ?_
      obtain rfl := sj hr
      exact vV Tryz.results35 bC bC (zW 5 [1])
    · refine zz ?_
      obtain rfl := sj hr
      exact zd2 Tryz.results35 [0]
  obtain ⟨bD, hL2, hr⟩ := aA hr
  refine zz ?_
  refine AB.block <| AB.loopN (fun m s h => ∃ (bS : Int) (aS : List Int), f9 N l m bS aS = some bD ∧ Ghost 0 s h (aG 28 [(4, (.sl 0 0 aS.length 1 false)), (8, (.row none 4 (l.map v5))), (9, (eI .i64 (l.length : Int))), (10, (eI .i64 bS))]) [some ⟨5, aS.map (eI .u8)⟩]) (n := N) ⟨0, [], hL2, (zW 5 [0])⟩ (by rintro s h ⟨_, _, h0, _⟩; simp [f9] at h0) ?_
  rintro m2 s h ⟨bS, aS, hr2, hg⟩
  refine AB.ghost hg ?_
  clear hg hL2
  rw [f9] at hr2
  refine zz ?_
  refine AB.seq ?_
  refine zk hr2 rfl (fun h2 hr2 => ?_) (fun h2 hr2 => ?_)
  · refine zz ?_
    refine AB.seq <| AB.block ?_
    obtain ⟨cL, h_3, hr2⟩ := aA hr2
    refine zz ?_
    refine AB.seq ?_
    obtain ⟨x15, h_4, hr2⟩ := aA hr2
    refine zz ?_
    refine xp (aDV h_4) ?_
    refine zz ?_
    refine zk hr2 rfl (fun h5 hr2 => ?_) (fun h5 hr2 => ?_)
    · refine zz ?_
      obtain rfl := sj hr2
      obtain rfl := sj hr
      exact vV Tryz.results35 bC bC (zW 5 [2])
    · obtain ⟨dE, h_6, hr2⟩ := aA hr2
      obtain ⟨dW, h_7, hr2⟩ := aA hr2
      refine zz ?_
      refine zc (aC2 h_6) [] ?_
      refine zz ?_
      exact ⟨IntKind.i64.wrap (bS + 1), dW, hr2, (zG [3])⟩
  · refine zz ?_
    obtain rfl := sj hr2
    refine zz ?_
    exact hG1 _ _ _ _ (zG [0]) (J1 aS hr)
theorem aDz {N : Nat} {vm : Int} {keys : List (List Int)} {r : (List Int) × Int} (hr : sB N vm keys = some r) :
    Vm.Fn Tryz.prog 10 [] [(eI .i64 vm), (.row none 4 (keys.map (eA (eI .u64))))] (.tup [(.sl 0 0 r.1.length 1 false), (eI .i64 r.2)]) [some ⟨5, r.1.map (eI .u8)⟩] := by
  refine zf Tryz.func10 Tryz.ntmps10 ?_
  unfold sB at hr
  refine zz ?_
  refine AB.seq_g fun K1 hK1 hG1 => ?_
  have J1 : ∀ (l0 : List aM), rD N vm keys l0 = some r → K1 (aG 34 [(0, (eI .i64 vm)), (1, (.row none 4 (keys.map (eA (eI .u64))))), (6, (.sl 0 0 l0.length 4 true))]) [some ⟨85, l0.flatMap cI⟩] := by
    intro l0 hr
    unfold rD at hr
    refine hK1 _ _ ?_
    obtain ⟨mL, h_1, hr⟩ := aA hr
    obtain ⟨eV, h_2, hr⟩ := aA hr
    refine zz ?_
    refine xw (v := (.sl 1 0 1 4 true)) (h' := [some ⟨85, l0.flatMap cI⟩, some ⟨85, [(aM.mk 11 [] vm (keys.length : Int))].flatMap cI⟩]) (dH rfl (aBh (C := cI) (xs := [(aM.mk 11 [] vm (keys.length : Int))]) (K := 4) (fun _ => rfl) (fun _ => rfl) aIw wH ⟨zl, zl, zl⟩ rfl rfl rfl rfl rfl rfl)) ?_
    refine zz ?_
    refine vG (aBS h_2) [] [2] ?_
    refine zz ?_
    obtain rfl := sj hr
    exact zd2 Tryz.results10 [3]
  obtain ⟨bD, hL2, hr⟩ := aA hr
  refine zz ?_
  refine AB.block <| AB.loopN (fun m s h => ∃ (cL : Int) (aS : List aM), jM N vm keys m cL aS = some bD ∧ Ghost 0 s h (aG 34 [(0, (eI .i64 vm)), (1, (.row none 4 (keys.map (eA (eI .u64))))), (6, (.sl 0 0 aS.length 4 true)), (10, (.row none 4 (keys.map (eA (eI .u64))))), (11, (eI .i64 (keys.length : Int))), (12, (eI .i64 cL))]) [some ⟨85, aS.flatMap cI⟩]) (n := N) ⟨0, [], hL2, (zW 85 [0])⟩ (by rintro s h ⟨_, _, h0, _⟩; simp [jM] at h0) ?_
  rintro m2 s h ⟨cL, aS, hr2, hg⟩
  refine AB.ghost hg ?_
  clear hg hL2
  rw [jM] at hr2
  refine zz ?_
  refine AB.seq ?_
  refine zk hr2 rfl (fun h3 hr2 => ?_) (fun h3 hr2 => ?_)
  · refine zz ?_
    refine AB.seq <| AB.block ?_
    obtain ⟨aZ, h_4, hr2⟩ := aA hr2
    obtain ⟨q, h_5, hr2⟩ := aA hr2
    refine zz ?_
    refine xw (v := (.agg (aZ.map (eI .u64)))) (bA rfl (aJ0 (E := (eI .u64)) bE rfl h_4 (aQ h_5))) ?_
    obtain ⟨x17, h_6, hr2⟩ := aA hr2
    obtain ⟨q_1, h_7, hr2⟩ := aA hr2
    refine zz ?_
    refine xp (t6 h_6) ?_
    obtain ⟨dW, h_8, hr2⟩ := aA hr2
    refine zz ?_
    refine OpsX.ghost (Ghost.conv (fr' := [(0, (eI .i64 vm)), (1, (.row none 4 (keys.map (eA (eI .u64))))), (6, (.sl 0 0 aS.length 4 true)), (8, (.ptr 1 0)), (9, (.eptr [.agg (x17.map (eI .u8))] 0 0)), (10, (.row none 4 (keys.map (eA (eI .u64))))), (11, (eI .i64 (keys.length : Int))), (12, (eI .i64 cL)), (13, (eB (decide (cL < (keys.length : Int))))), (15, (.agg (aZ.map (eI .u64)))), (16, (.agg (aZ.map (eI .u64)))), (17, (.agg (x17.map (eI .u8)))), (18, (.sl 0 0 aS.length 4 true)), (19, (.row none 1 (x17.map (eI .u8)))), (20, (.agg [(eI .i64 1), (.row none 1 (x17.map (eI .u8))), (eI .i64 0), (eI .i64 0)]))]) (h' := [some ⟨85, aS.flatMap cI⟩, some ⟨31, aZ.map (eI .u64)⟩, none]) (FCv.cons rfl (Conv.same (aL rfl)) (FCv.cons rfl (Conv.same (aL rfl)) (FCv.cons rfl (Conv.same (aL rfl)) (FCv.cons rfl (Conv.same (aL rfl)) (FCv.cons rfl (Conv.ptr (E := (eI .u8)) (aL rfl) rfl rfl (fun _ => rfl) (Nat.le_of_ble_eq_true (by first | exact rfl | exact aHE (by assumption) rfl | exact aHx (by assumption) rfl))) (FCv.cons rfl (Conv.same (aL rfl)) (FCv.cons rfl (Conv.same (aL rfl)) (FCv.cons rfl (Conv.same (aL rfl)) (FCv.cons rfl (Conv.same (aL rfl)) (FCv.cons rfl (Conv.same (aL rfl)) (FCv.cons rfl (Conv.same (aL rfl)) (FCv.cons rfl (Conv.same (aL rfl)) (FCv.cons rfl (Conv.same (aL rfl)) (FCv.cons rfl (Conv.row (aL rfl) rfl rfl (pX (fun _ => rfl)) (by first | rfl | (simp only [List.length_map, bR, bQ]; done) | (rw [List.length_map]; exact Eq.symm (aQ h_7)))) (FCv.cons rfl (Conv.agg (Convs.cons (Conv.same (aL rfl)) (Convs.cons (Conv.row (aL rfl) rfl rfl (pX (fun _ => rfl)) (by first | rfl | (simp only [List.length_map, bR, bQ]; done) | (rw [List.length_map]; exact Eq.symm (aQ h_7)))) (Convs.cons (Conv.same (aL rfl)) (Convs.cons (Conv.same (aL rfl)) Convs.nil))))) FCv.nil))))))))))))))) (HCv.live (Convs.same (aL rfl)) (mK (fun _ => rfl) _) (HCv.live (Convs.same (aL rfl)) (all_map (fun _ => rfl) _) (HCv.dead HCv.nil)))) ?_
    refine xw (v := (.sl 3 0 1 4 true)) (h' := [some ⟨85, aS.flatMap cI⟩, some ⟨31, aZ.map (eI .u64)⟩, none, some ⟨85, [(aM.mk 1 x17 0 0)].flatMap cI⟩]) (dH rfl (aBh (C := cI) (xs := [(aM.mk 1 x17 0 0)]) (K := 4) (fun _ => rfl) (fun _ => rfl) aIw wH ⟨zl, zl, zl⟩ rfl rfl rfl rfl rfl rfl)) ?_
    refine zz ?_
    exact ⟨IntKind.i64.wrap (cL + 1), dW, hr2, (zG [4])⟩
  · refine zz ?_
    obtain rfl := sj hr2
    refine zz ?_
    exact hG1 _ _ _ _ (zG [0]) (J1 aS hr)
theorem m8 {N : Nat} {b : List Int} {aCt : List (List Int)} {dL : List Int} {eD : Int} {kN : Int} {r : Int} (hr : iS N b aCt dL eD kN = some r) :
    Vm.Fn Tryz.prog 11 [] [(.row none 1 (b.map (eI .u8))), (.row none 1 (aCt.map (eL 1 (eI .u8)))), (.agg (aO (eI .u8) dL [(eI .i64 eD), (eI .i64 kN)]))] (eI .i64 r) [] := by
  refine zf Tryz.func11 Tryz.ntmps11 ?_
  unfold iS at hr
  obtain ⟨aZ, h_1, hr⟩ := aA hr
  refine zz ?_
  refine zc (aBx h_1) [] ?_
  refine zz ?_
  refine AB.seq <| AB.block ?_
  refine zz ?_
  refine zk hr rfl (fun h2 hr => ?_) (fun h2 hr => ?_)
  · refine zz ?_
    obtain rfl := sj hr
    exact bO Tryz.results11 []
  · refine zz ?_
    refine zk hr rfl (fun h3 hr => ?_) (fun h3 hr => ?_)
    · refine zz ?_
      obtain rfl := sj hr
      exact bO Tryz.results11 []
    · obtain ⟨x28, h_4, hr⟩ := aA hr
      obtain ⟨mL, h_5, hr⟩ := aA hr
      refine zz ?_
      refine xp (rB h_5) ?_
      refine zz ?_
      refine zk hr rfl (fun h6 hr => ?_) (fun h6 hr => ?_)
      · refine zz ?_
        obtain rfl := sj hr
        exact bO Tryz.results11 []
      · refine zz ?_
        obtain rfl := sj hr
        exact bO Tryz.results11 []
theorem aDq {N : Nat} {age : Int} {rest : List Int} {r : (List Int)} (hr : r7 N age rest = some r) :
    Vm.Fn Tryz.prog 13 [] [(eI .u32 age), (.row none 1 (rest.map (eI .u8)))] (.sl 0 0 r.length 1 false) [some ⟨5, r.map (eI .u8)⟩] := by
  refine zf Tryz.func13 Tryz.ntmps13 ?_
  unfold r7 at hr
  obtain ⟨x6, h_1, hr⟩ := aA hr
  obtain ⟨x7, h_2, hr⟩ := aA hr
  obtain ⟨bW, h_3, hr⟩ := aA hr
  refine zz ?_
  refine zc (l7 h_1) [] ?_
  refine vG (sO h_2) [] [0] ?_
  refine zz ?_
  refine OpsX.ghost (zv 1) ?_
  refine OpsX.ghost (zv 2) ?_
  refine zz ?_
  refine vG (lM h_3) [] [3] ?_
  refine zz ?_
  obtain rfl := sj hr
  exact bO Tryz.results13 [4]
theorem aDu {N : Nat} {aDA : Int} {rest : List Int} {r : (List Int)} (hr : rM N aDA rest = some r) :
    Vm.Fn Tryz.prog 12 [] [(eI .u32 aDA), (.row none 1 (rest.map (eI .u8)))] (.sl 0 0 r.length 1 false) [some ⟨5, r.map (eI .u8)⟩] := by
  refine zf Tryz.func12 Tryz.ntmps12 ?_
  unfold rM at hr
  obtain ⟨x6, h_1, hr⟩ := aA hr
  obtain ⟨x7, h_2, hr⟩ := aA hr
  obtain ⟨bW, h_3, hr⟩ := aA hr
  refine zz ?_
  refine zc (l7 h_1) [] ?_
  refine vG (sO h_2) [] [0] ?_
  refine zz ?_
  refine OpsX.ghost (zv 1) ?_
  refine OpsX.ghost (zv 2) ?_
  refine zz ?_
  refine vG (lM h_3) [] [3] ?_
  refine zz ?_
  obtain rfl := sj hr
  exact bO Tryz.results12 [4]
theorem aCP {N : Nat} {p : List Int} {r : (List Int)} (hr : qK N p = some r) :
    Vm.Fn Tryz.prog 15 [] [(.agg (p.map (eI .u64)))] (.sl 0 0 r.length 1 false) [some ⟨5, r.map (eI .u8)⟩] := by
  refine zf Tryz.func15 Tryz.ntmps15 ?_
  unfold qK at hr
  obtain ⟨q, h_1, hr⟩ := aA hr
  obtain ⟨x5, h_2, hr⟩ := aA hr
  obtain ⟨q_1, h_3, hr⟩ := aA hr
  refine zz ?_
  refine xp (t6 h_2) ?_
  obtain ⟨x7, h_4, hr⟩ := aA hr
  obtain ⟨bS, h_5, hr⟩ := aA hr
  refine zz ?_
  refine vG (sO h_4) [] [1] ?_
  refine zz ?_
  refine OpsX.ghost (zv 2) ?_
  refine OpsX.ghost (zv 3) ?_
  refine zz ?_
  refine vG (lM h_5) [] [4] ?_
  refine zz ?_
  obtain rfl := sj hr
  exact bO Tryz.results15 [5]
theorem aCX {N : Nat} {va : List Int} {b : List Int} {r : (List Int)} (hr : qG N va b = some r) :
    Vm.Fn Tryz.prog 14 [] [(.row none 1 (va.map (eI .u8))), (.row none 1 (b.map (eI .u8)))] (.sl 0 0 r.length 1 false) [some ⟨5, r.map (eI .u8)⟩] := by
  refine zf Tryz.func14 Tryz.ntmps14 ?_
  unfold qG at hr
  obtain ⟨bW, h_1, hr⟩ := aA hr
  refine zz ?_
  refine OpsX.ghost (zv 0) ?_
  refine OpsX.ghost (zv 1) ?_
  refine OpsX.ghost (zv 2) ?_
  refine zz ?_
  refine vG (lM h_1) [] [3] ?_
  refine zz ?_
  obtain rfl := sj hr
  exact bO Tryz.results14 [4]
end Go.Proofs.YtnoklhehodlkaaaGreatDoor
set_option linter.unusedVariables false
set_option linter.unusedSimpArgs false
set_option maxRecDepth 20000
set_option maxHeartbeats 1000000
namespace Go.Proofs.YtnoklhehodlkaaaGreatDoor
open Go Go.Vm
theorem aAB {N : Nat} {dS : List Int} {vm : Int} {msg : List Int} {lock : Int} {r : Bool} (hr : i4 N dS vm msg lock = some r) :
    Vm.Fn Tryz.prog 3 [] [(.row none 1 (dS.map (eI .u8))), (eI .u8 vm), (.agg (msg.map (eI .u8))), (eI .u16 lock)] (eB r) [] := by
  refine zf Tryz.func3 Tryz.ntmps3 ?_
  unfold i4 at hr
  refine zz ?_
  refine AB.seq ?_
  obtain ⟨x26, h_1, hr⟩ := aA hr
  refine zz ?_
  refine xp (aFE h_1) ?_
  refine zz ?_
  refine zk hr rfl (fun h2 hr => ?_) (fun h2 hr => ?_)
  · refine zz ?_
    obtain rfl := sj hr
    exact bO Tryz.results3 []
  · refine zz ?_
    refine AB.seq_g fun K1 hK1 hG1 => ?_
    have J1 : ∀ (l1 : List (List Int)) (l2 : List (List Int)), lC N msg lock l1 l2 = some r → K1 (aG 154 [(3, (eI .u16 lock)), (6, (.ptr 0 0)), (9, (.sl 1 0 l1.length 4 true)), (10, (.sl 2 0 l2.length 1 false))]) [some ⟨24, msg.map (eI .u8)⟩, some ⟨31, l1.flatMap (uP (eI .u64))⟩, some ⟨22, l2.map (eL 1 (eI .u8))⟩] := by
      intro l1 l2 hr
      unfold lC at hr
      refine hK1 _ _ <| AB.seq ?_
      refine zz ?_
      refine zk hr rfl (fun h3 hr => ?_) (fun h3 hr => ?_)
      · refine zz ?_
        obtain rfl := sj hr
        exact bO Tryz.results3 []
      · refine zz ?_
        refine AB.seq_g fun K2 hK2 hG2 => ?_
        have J2 : ∀ (vn : Int), lI N msg lock l1 l2 vn = some r → K2 (aG 154 [(3, (eI .u16 lock)), (6, (.ptr 0 0)), (9, (.sl 1 0 l1.length 4 true)), (10, (.sl 2 0 l2.length 1 false)), (17, (eI .i64 vn))]) [some ⟨24, msg.map (eI .u8)⟩, some ⟨31, l1.flatMap (uP (eI .u64))⟩, some ⟨22, l2.map (eL 1 (eI .u8))⟩] := by
          intro vn hr
          unfold lI at hr
          refine hK2 _ _ ?_
          obtain ⟨q, h_4, hr⟩ := aA hr
          refine zz ?_
          refine xw (v := (.agg (aO (eI .u8) msg [(eI .i64 (IntKind.i64.wrap lock)), (eI .i64 (IntKind.i64.wrap lock))]))) (cB rfl (aJU (ps' := [(0, (.agg (aO (eI .u8) msg []))), (1, (eI .i64 (IntKind.i64.wrap lock))), (2, (eI .i64 (IntKind.i64.wrap lock)))]) (by simp only [sD (l := msg) (aQ h_4)]) (aAh jQ aKH rfl))) <| xw (v := (.ptr 3 0)) (h' := [some ⟨24, msg.map (eI .u8)⟩, some ⟨31, l1.flatMap (uP (eI .u64))⟩, some ⟨22, l2.map (eL 1 (eI .u8))⟩, some ⟨42, (aO (eI .u8) (List.replicate 32 0) [(eI .i64 0), (eI .i64 0)])⟩]) (eK jQ rfl rfl rfl) ?_
          obtain ⟨q_1, h_5, hr⟩ := aA hr
          obtain ⟨x99, h_6, hr⟩ := aA hr
          refine zz ?_
          refine xw (v := (eI .i64 (if vn > 1 then vn else 1))) (aOh rfl aOl) ?_
          refine zz ?_
          refine OpsX.ghost (Ghost.conv (fr' := [(3, (eI .u16 lock)), (6, (.ptr 0 0)), (9, (.row none 4 (l1.map (eA (eI .u64))))), (10, (.sl 2 0 l2.length 1 false)), (17, (eI .i64 vn)), (20, (.ptr 3 0)), (89, (.agg (msg.map (eI .u8)))), (90, (eI .u16 lock)), (91, (eI .i64 (IntKind.i64.wrap lock))), (92, (eI .u16 lock)), (93, (eI .i64 (IntKind.i64.wrap lock))), (94, (.agg (aO (eI .u8) msg [(eI .i64 (IntKind.i64.wrap lock)), (eI .i64 (IntKind.i64.wrap lock))]))), (96, (eI .i64 vn)), (97, (eI .i64 (if vn > 1 then vn else 1))), (98, (.row none 4 (l1.map (eA (eI .u64)))))]) (h' := [some ⟨24, msg.map (eI .u8)⟩, none, some ⟨22, l2.map (eL 1 (eI .u8))⟩, some ⟨42, (aO (eI .u8) msg [(eI .i64 (IntKind.i64.wrap lock)), (eI .i64 (IntKind.i64.wrap lock))])⟩]) (FCv.cons rfl (Conv.same (aL rfl)) (FCv.cons rfl (Conv.same (aL rfl)) (FCv.cons rfl (Conv.rowKA (C := (uP (eI .u64))) (E := (eI .u64)) (fun _ => rfl) (fun _ => rfl) (fun _ => rfl) (fun x hx => uS (aF3 h_5 x hx)) (aL rfl) rfl rfl rfl) (FCv.cons rfl (Conv.same (aL rfl)) (FCv.cons rfl (Conv.same (aL rfl)) (FCv.cons rfl (Conv.same (aL rfl)) (FCv.cons rfl (Conv.same (aL rfl)) (FCv.cons rfl (Conv.same (aL rfl)) (FCv.cons rfl (Conv.same (aL rfl)) (FCv.cons rfl (Conv.same (aL rfl)) (FCv.cons rfl (Conv.same (aL rfl)) (FCv.cons rfl (Conv.same (aL rfl)) (FCv.cons rfl (Conv.same (aL rfl)) (FCv.cons rfl (Conv.same (aL rfl)) (FCv.cons rfl (Conv.rowKA (C := (uP (eI .u64))) (E := (eI .u64)) (fun _ => rfl) (fun _ => rfl) (fun _ => rfl) (fun x hx => uS (aF3 h_5 x hx)) (aL rfl) rfl rfl rfl) FCv.nil))))))))))))))) (HCv.live (Convs.same (aL rfl)) (all_map (fun _ => rfl) _) (HCv.dead (HCv.live (Convs.same (aL rfl)) (all_map (fun _ => rfl) _) (HCv.live (Convs.same (aL rfl)) rfl HCv.nil))))) ?_
          refine zc (aDz h_6) [] ?_
          refine zz ?_
          refine AB.seq ?_
          refine AB.seq_g fun K3 hK3 hG3 => ?_
          have J3 : ∀ (y9 : Bool), i8 N msg lock l1 l2 vn x99 y9 = some r → K3 (aG 154 [(3, (eI .u16 lock)), (9, (.row none 4 (l1.map (eA (eI .u64))))), (10, (.sl 0 0 l2.length 1 false)), (17, (eI .i64 vn)), (20, (.ptr 1 0)), (21, (.sl 2 0 x99.1.length 1 false)), (113, (eB y9))]) [some ⟨22, l2.map (eL 1 (eI .u8))⟩, some ⟨42, (aO (eI .u8) msg [(eI .i64 (IntKind.i64.wrap lock)), (eI .i64 (IntKind.i64.wrap lock))])⟩, some ⟨5, x99.1.map (eI .u8)⟩] := by
            intro y9 hr
            unfold i8 at hr
            refine hK3 _ _ ?_
            refine zk hr rfl (fun h7 hr => ?_) (fun h7 hr => ?_)
            · refine zz ?_
              obtain rfl := sj hr
              exact bO Tryz.results3 []
            · obtain ⟨eU, h_8, hr⟩ := aA hr
              obtain ⟨gF, h_9, hr⟩ := aA hr
              refine zz ?_
              refine vG (aDq h_8) [] [2] ?_
              refine vG (aDu h_9) [] [3] ?_
              obtain ⟨aB5, h_10, hr⟩ := aA hr
              obtain ⟨q_2, h_11, hr⟩ := aA hr
              obtain ⟨gE, h_12, hr⟩ := aA hr
              obtain ⟨cA, h_13, hr⟩ := aA hr
              refine zz ?_
              refine xw (v := (.agg (aB5.map (eI .u64)))) (bA rfl (aJ0 (E := (eI .u64)) bE rfl h_10 (aQ h_11))) <| zc (aCP h_12) [] ?_
              refine zz ?_
              refine vG (aCX h_13) [] [5, 4] ?_
              refine zz ?_
              refine xw (v := (.ptr 7 0)) (h' := [some ⟨22, l2.map (eL 1 (eI .u8))⟩, some ⟨42, (aO (eI .u8) msg [(eI .i64 (IntKind.i64.wrap lock)), (eI .i64 (IntKind.i64.wrap lock))])⟩, some ⟨5, x99.1.map (eI .u8)⟩, some ⟨5, eU.map (eI .u8)⟩, some ⟨5, gF.map (eI .u8)⟩, some ⟨5, gE.map (eI .u8)⟩, some ⟨5, cA.map (eI .u8)⟩, some ⟨42, (aO (eI .u8) (List.replicate 32 0) [(eI .i64 0), (eI .i64 0)])⟩]) (eK jQ rfl rfl rfl) ?_
              refine zz ?_
              refine AB.seq_g fun K4 hK4 hG4 => ?_
              have J4 : ∀ (x8 : Bool), jA N x8 = some r → K4 (aG 154 [(8, (eB x8))]) [] := by
                intro x8 hr
                unfold jA at hr
                refine hK4 _ _ ?_
                refine zz ?_
                obtain rfl := sj hr
                exact bO Tryz.results3 []
              rcases Bool.eq_false_or_eq_true (vn == 0) with h14 | h14
              · replace hr := fM hr h14
                refine AB.rd (dN []) (dN [11]) mixed <| DrawG.pick (n := 22) (i := 0) (by decide +kernel) rfl (gS (v := (eI .i64 vn)) (sv (fC rfl))) <| DrawG.pick (n := 21) (i := 1) (by decide +kernel) rfl (gS (v := (eB (vn == 0))) (sv (qC rfl rfl (wK ..)))) <| DrawG.pick (n := 20) (i := 2) (by decide +kernel) rfl (gS (v := (eB (vn == 0))) (sv (fC rfl))) <| DrawG.pick (n := 19) (i := 3) (by decide +kernel) rfl (gS (bK rfl rfl h14)) <| DrawG.pick (n := 18) (i := 4) (by decide +kernel) rfl (gS (bK rfl rfl h14)) <| DrawG.fork (n := 17) [5, 6, 8] (by decide +kernel) (by decide) ?_
                refine (Fork.cons rfl (gS (bK rfl rfl h14)) ?_ (Fork.cons rfl (gS (bK rfl rfl h14)) ?_ (Fork.cons rfl (gS (bK rfl rfl h14)) ?_ Fork.nil)))
                · refine DrawG.pick (n := 16) (i := 6) (by decide +kernel) rfl (gS (bK rfl rfl h14)) <| DrawG.fork (n := 15) [7, 8] (by decide +kernel) (by decide) ?_
                  refine (Fork.cons rfl (gS (bK rfl rfl h14)) ?_ (Fork.cons rfl (gS (bK rfl rfl h14)) ?_ Fork.nil))
                  · refine DrawG.pick (n := 14) (i := 8) (by decide +kernel) rfl (gS (bK rfl rfl h14)) <| DrawG.pick (n := 13) (i := 9) (by decide +kernel) rfl (gS (bK rfl rfl h14)) <| DrawG.pick (n := 12) (i := 10) (by decide +kernel) rfl (gS (bK rfl rfl h14)) <| DrawG.pick (n := 11) (i := 11) (by decide +kernel) rfl (gS (bK rfl rfl h14)) <| DrawG.pick (n := 10) (i := 12) (by decide +kernel) rfl (gS (aT rfl rfl)) <| DrawG.pick (n := 9) (i := 13) (by decide +kernel) rfl (gS (aT rfl rfl)) <| DrawG.fork (n := 8) [14, 15, 17] (by decide +kernel) (by decide) ?_
                    refine (Fork.cons rfl (gS (aT rfl rfl)) ?_ (Fork.cons rfl (gS (aT rfl rfl)) ?_ (Fork.cons rfl (gS (aT rfl rfl)) ?_ Fork.nil)))
                    · refine DrawG.pick (n := 7) (i := 15) (by decide +kernel) rfl (gS (aT rfl rfl)) <| DrawG.fork (n := 6) [16, 17] (by decide +kernel) (by decide) ?_
                      refine (Fork.cons rfl (gS (aT rfl rfl)) ?_ (Fork.cons rfl (gS (aT rfl rfl)) ?_ Fork.nil))
                      · refine DrawG.pick (n := 5) (i := 17) (by decide +kernel) rfl (gS (aT rfl rfl)) <| DrawG.pick (n := 4) (i := 18) (by decide +kernel) rfl (gS (aT rfl rfl)) <| DrawG.pick (n := 3) (i := 19) (by decide +kernel) rfl (gS (aT rfl rfl)) <| DrawG.pick (n := 2) (i := 20) (by decide +kernel) rfl (gS (bK rfl rfl h14)) <| DrawG.pick (n := 1) (i := 21) (by decide +kernel) rfl (gS (v := (eB true)) (sv (b7 rfl h14 rfl))) <| DrawG.pick (n := 0) (i := 22) (by decide +kernel) rfl (gS (v := (eB true)) (sv (bB rfl))) <| DrawG.nil (by decide +kernel) ?_
                        refine zz ?_
                        exact hG4 _ _ _ _ (zG []) (J4 true hr)
                      · refine DrawG.pick (n := 5) (i := 16) (by decide +kernel) rfl (gS (aT rfl rfl)) <| DrawG.pick (n := 4) (i := 18) (by decide +kernel) rfl (gS (aT rfl rfl)) <| DrawG.pick (n := 3) (i := 19) (by decide +kernel) rfl (gS (aT rfl rfl)) <| DrawG.pick (n := 2) (i := 20) (by decide +kernel) rfl (gS (bK rfl rfl h14)) <| DrawG.pick (n := 1) (i := 21) (by decide +kernel) rfl (gS (v := (eB true)) (sv (b7 rfl h14 rfl))) <| DrawG.pick (n := 0) (i := 22) (by decide +kernel) rfl (gS (v := (eB true)) (sv (bB rfl))) <| DrawG.nil (by decide +kernel) ?_
                        refine zz ?_
                        exact hG4 _ _ _ _ (zG []) (J4 true hr)
                    · refine DrawG.pick (n := 7) (i := 14) (by decide +kernel) rfl (gS (aT rfl rfl)) <| DrawG.fork (n := 6) [16, 17] (by decide +kernel) (by decide) ?_
                      refine (Fork.cons rfl (gS (aT rfl rfl)) ?_ (Fork.cons rfl (gS (aT rfl rfl)) ?_ Fork.nil))
                      · refine DrawG.pick (n := 5) (i := 17) (by decide +kernel) rfl (gS (aT rfl rfl)) <| DrawG.pick (n := 4) (i := 18) (by decide +kernel) rfl (gS (aT rfl rfl)) <| DrawG.pick (n := 3) (i := 19) (by decide +kernel) rfl (gS (aT rfl rfl)) <| DrawG.pick (n := 2) (i := 20) (by decide +kernel) rfl (gS (bK rfl rfl h14)) <| DrawG.pick (n := 1) (i := 21) (by decide +kernel) rfl (gS (v := (eB true)) (sv (b7 rfl h14 rfl))) <| DrawG.pick (n := 0) (i := 22) (by decide +kernel) rfl (gS (v := (eB true)) (sv (bB rfl))) <| DrawG.nil (by decide +kernel) ?_
                        refine zz ?_
                        exact hG4 _ _ _ _ (zG []) (J4 true hr)
                      · refine DrawG.pick (n := 5) (i := 16) (by decide +kernel) rfl (gS (aT rfl rfl)) <| DrawG.pick (n := 4) (i := 18) (by decide +kernel) rfl (gS (aT rfl rfl)) <| DrawG.pick (n := 3) (i := 19) (by decide +kernel) rfl (gS (aT rfl rfl)) <| DrawG.pick (n := 2) (i := 20) (by decide +kernel) rfl (gS (bK rfl rfl h14)) <| DrawG.pick (n := 1) (i := 21) (by decide +kernel) rfl (gS (v := (eB true)) (sv (b7 rfl h14 rfl))) <| DrawG.pick (n := 0) (i := 22) (by decide +kernel) rfl (gS (v := (eB true)) (sv (bB rfl))) <| DrawG.nil (by decide +kernel) ?_
                        refine zz ?_
                        exact hG4 _ _ _ _ (zG []) (J4 true hr)
                    · refine DrawG.fork (n := 7) [14, 15] (by decide +kernel) (by decide) ?_
                      refine (Fork.cons rfl (gS (aT rfl rfl)) ?_ (Fork.cons rfl (gS (aT rfl rfl)) ?_ Fork.nil))
                      · refine DrawG.pick (n := 6) (i := 15) (by decide +kernel) rfl (gS (aT rfl rfl)) <| DrawG.pick (n := 5) (i := 16) (by decide +kernel) rfl (gS (aT rfl rfl)) <| DrawG.pick (n := 4) (i := 18) (by decide +kernel) rfl (gS (aT rfl rfl)) <| DrawG.pick (n := 3) (i := 19) (by decide +kernel) rfl (gS (aT rfl rfl)) <| DrawG.pick (n := 2) (i := 20) (by decide +kernel) rfl (gS (bK rfl rfl h14)) <| DrawG.pick (n := 1) (i := 21) (by decide +kernel) rfl (gS (v := (eB true)) (sv (b7 rfl h14 rfl))) <| DrawG.pick (n := 0) (i := 22) (by decide +kernel) rfl (gS (v := (eB true)) (sv (bB rfl))) <| DrawG.nil (by decide +kernel) ?_
                        refine zz ?_
                        exact hG4 _ _ _ _ (zG []) (J4 true hr)
                      · refine DrawG.pick (n := 6) (i := 14) (by decide +kernel) rfl (gS (aT rfl rfl)) <| DrawG.pick (n := 5) (i := 16) (by decide +kernel) rfl (gS (aT rfl rfl)) <| DrawG.pick (n := 4) (i := 18) (by decide +kernel) rfl (gS (aT rfl rfl)) <| DrawG.pick (n := 3) (i := 19) (by decide +kernel) rfl (gS (aT rfl rfl)) <| DrawG.pick (n := 2) (i := 20) (by decide +kernel) rfl (gS (bK rfl rfl h14)) <| DrawG.pick (n := 1) (i := 21) (by decide +kernel) rfl (gS (v := (eB true)) (sv (b7 rfl h14 rfl))) <| DrawG.pick (n := 0) (i := 22) (by decide +kernel) rfl (gS (v := (eB true)) (sv (bB rfl))) <| DrawG.nil (by decide +kernel) ?_
                        refine zz ?_
                        exact hG4 _ _ _ _ (zG []) (J4 true hr)
                  · refine DrawG.pick (n := 14) (i := 7) (by decide +kernel) rfl (gS (bK rfl rfl h14)) <| DrawG.pick (n := 13) (i := 9) (by decide +kernel) rfl (gS (bK rfl rfl h14)) <| DrawG.pick (n := 12) (i := 10) (by decide +kernel) rfl (gS (bK rfl rfl h14)) <| DrawG.pick (n := 11) (i := 11) (by decide +kernel) rfl (gS (bK rfl rfl h14)) <| DrawG.pick (n := 10) (i := 12) (by decide +kernel) rfl (gS (aT rfl rfl)) <| DrawG.pick (n := 9) (i := 13) (by decide +kernel) rfl (gS (aT rfl rfl)) <| DrawG.fork (n := 8) [14, 15, 17] (by decide +kernel) (by decide) ?_
                    refine (Fork.cons rfl (gS (aT rfl rfl)) ?_ (Fork.cons rfl (gS (aT rfl rfl)) ?_ (Fork.cons rfl (gS (aT rfl rfl)) ?_ Fork.nil)))
                    · refine DrawG.pick (n := 7) (i := 15) (by decide +kernel) rfl (gS (aT rfl rfl)) <| DrawG.fork (n := 6) [16, 17] (by decide +kernel) (by decide) ?_
                      refine (Fork.cons rfl (gS (aT rfl rfl)) ?_ (Fork.cons rfl (gS (aT rfl rfl)) ?_ Fork.nil))
                      · refine DrawG.pick (n := 5) (i := 17) (by decide +kernel) rfl (gS (aT rfl rfl)) <| DrawG.pick (n := 4) (i := 18) (by decide +kernel) rfl (gS (aT rfl rfl)) <| DrawG.pick (n := 3) (i := 19) (by decide +kernel) rfl (gS (aT rfl rfl)) <| DrawG.pick (n := 2) (i := 20) (by decide +kernel) rfl (gS (bK rfl rfl h14)) <| DrawG.pick (n := 1) (i := 21) (by decide +kernel) rfl (gS (v := (eB true)) (sv (b7 rfl h14 rfl))) <| DrawG.pick (n := 0) (i := 22) (by decide +kernel) rfl (gS (v := (eB true)) (sv (bB rfl))) <| DrawG.nil (by decide +kernel) ?_
                        refine zz ?_
                        exact hG4 _ _ _ _ (zG []) (J4 true hr)
                      · refine DrawG.pick (n := 5) (i := 16) (by decide +kernel) rfl (gS (aT rfl rfl)) <| DrawG.pick (n := 4) (i := 18) (by decide +kernel) rfl (gS (aT rfl rfl)) <| DrawG.pick (n := 3) (i := 19) (by decide +kernel) rfl (gS (aT rfl rfl)) <| DrawG.pick (n := 2) (i := 20) (by decide +kernel) rfl (gS (bK rfl rfl h14)) <| DrawG.pick (n := 1) (i := 21) (by decide +kernel) rfl (gS (v := (eB true)) (sv (b7 rfl h14 rfl))) <| DrawG.pick (n := 0) (i := 22) (by decide +kernel) rfl (gS (v := (eB true)) (sv (bB rfl))) <| DrawG.nil (by decide +kernel) ?_
                        refine zz ?_
                        exact hG4 _ _ _ _ (zG []) (J4 true hr)
                    · refine DrawG.pick (n := 7) (i := 14) (by decide +kernel) rfl (gS (aT rfl rfl)) <| DrawG.fork (n := 6) [16, 17] (by decide +kernel) (by decide) ?_
                      refine (Fork.cons rfl (gS (aT rfl rfl)) ?_ (Fork.cons rfl (gS (aT rfl rfl)) ?_ Fork.nil))
                      · refine DrawG.pick (n := 5) (i := 17) (by decide +kernel) rfl (gS (aT rfl rfl)) <| DrawG.pick (n := 4) (i := 18) (by decide +kernel) rfl (gS (aT rfl rfl)) <| DrawG.pick (n := 3) (i := 19) (by decide +kernel) rfl (gS (aT rfl rfl)) <| DrawG.pick (n := 2) (i := 20) (by decide +kernel) rfl (gS (bK rfl rfl h14)) <| DrawG.pick (n := 1) (i := 21) (by decide +kernel) rfl (gS (v := (eB true)) (sv (b7 rfl h14 rfl))) <| DrawG.pick (n := 0) (i := 22) (by decide +kernel) rfl (gS (v := (eB true)) (sv (bB rfl))) <| DrawG.nil (by decide +kernel) ?_
                        refine zz ?_
                        exact hG4 _ _ _ _ (zG []) (J4 true hr)
                      · refine DrawG.pick (n := 5) (i := 16) (by decide +kernel) rfl (gS (aT rfl rfl)) <| DrawG.pick (n := 4) (i := 18) (by decide +kernel) rfl (gS (aT rfl rfl)) <| DrawG.pick (n := 3) (i := 19) (by decide +kernel) rfl (gS (aT rfl rfl)) <| DrawG.pick (n := 2) (i := 20) (by decide +kernel) rfl (gS (bK rfl rfl h14)) <| DrawG.pick (n := 1) (i := 21) (by decide +kernel) rfl (gS (v := (eB true)) (sv (b7 rfl h14 rfl))) <| DrawG.pick (n := 0) (i := 22) (by decide +kernel) rfl (gS (v := (eB true)) (sv (bB rfl))) <| DrawG.nil (by decide +kernel) ?_
                        refine zz ?_
                        exact hG4 _ _ _ _ (zG []) (J4 true hr)
                    · refine DrawG.fork (n := 7) [14, 15] (by decide +kernel) (by decide) ?_
                      refine (Fork.cons rfl (gS (aT rfl rfl)) ?_ (Fork.cons rfl (gS (aT rfl rfl)) ?_ Fork.nil))
                      · refine DrawG.pick (n := 6) (i := 15) (by decide +kernel) rfl (gS (aT rfl rfl)) <| DrawG.pick (n := 5) (i := 16) (by decide +kernel) rfl (gS (aT rfl rfl)) <| DrawG.pick (n := 4) (i := 18) (by decide +kernel) rfl (gS (aT rfl rfl)) <| DrawG.pick (n := 3) (i := 19) (by decide +kernel) rfl (gS (aT rfl rfl)) <| DrawG.pick (n := 2) (i := 20) (by decide +kernel) rfl (gS (bK rfl rfl h14)) <| DrawG.pick (n := 1) (i := 21) (by decide +kernel) rfl (gS (v := (eB true)) (sv (b7 rfl h14 rfl))) <| DrawG.pick (n := 0) (i := 22) (by decide +kernel) rfl (gS (v := (eB true)) (sv (bB rfl))) <| DrawG.nil (by decide +kernel) ?_
                        refine zz ?_
                        exact hG4 _ _ _ _ (zG []) (J4 true hr)
                      · refine DrawG.pick (n := 6) (i := 14) (by decide +kernel) rfl (gS (aT rfl rfl)) <| DrawG.pick (n := 5) (i := 16) (by decide +kernel) rfl (gS (aT rfl rfl)) <| DrawG.pick (n := 4) (i := 18) (by decide +kernel) rfl (gS (aT rfl rfl)) <| DrawG.pick (n := 3) (i := 19) (by decide +kernel) rfl (gS (aT rfl rfl)) <| DrawG.pick (n := 2) (i := 20) (by decide +kernel) rfl (gS (bK rfl rfl h14)) <| DrawG.pick (n := 1) (i := 21) (by decide +kernel) rfl (gS (v := (eB true)) (sv (b7 rfl h14 rfl))) <| DrawG.pick (n := 0) (i := 22) (by decide +kernel) rfl (gS (v := (eB true)) (sv (bB rfl))) <| DrawG.nil (by decide +kernel) ?_
                        refine zz ?_
                        exact hG4 _ _ _ _ (zG []) (J4 true hr)
                · refine DrawG.pick (n := 16) (i := 5) (by decide +kernel) rfl (gS (bK rfl rfl h14)) <| DrawG.fork (n := 15) [7, 8] (by decide +kernel) (by decide) ?_
                  refine (Fork.cons rfl (gS (bK rfl rfl h14)) ?_ (Fork.cons rfl (gS (bK rfl rfl h14)) ?_ Fork.nil))
                  · refine DrawG.pick (n := 14) (i := 8) (by decide +kernel) rfl (gS (bK rfl rfl h14)) <| DrawG.pick (n := 13) (i := 9) (by decide +kernel) rfl (gS (bK rfl rfl h14)) <| DrawG.pick (n := 12) (i := 10) (by decide +kernel) rfl (gS (bK rfl rfl h14)) <| DrawG.pick (n := 11) (i := 11) (by decide +kernel) rfl (gS (bK rfl rfl h14)) <| DrawG.pick (n := 10) (i := 12) (by decide +kernel) rfl (gS (aT rfl rfl)) <| DrawG.pick (n := 9) (i := 13) (by decide +kernel) rfl (gS (aT rfl rfl)) <| DrawG.fork (n := 8) [14, 15, 17] (by decide +kernel) (by decide) ?_
                    refine (Fork.cons rfl (gS (aT rfl rfl)) ?_ (Fork.cons rfl (gS (aT rfl rfl)) ?_ (Fork.cons rfl (gS (aT rfl rfl)) ?_ Fork.nil)))
                    · refine DrawG.pick (n := 7) (i := 15) (by decide +kernel) rfl (gS (aT rfl rfl)) <| DrawG.fork (n := 6) [16, 17] (by decide +kernel) (by decide) ?_
                      refine (Fork.cons rfl (gS (aT rfl rfl)) ?_ (Fork.cons rfl (gS (aT rfl rfl)) ?_ Fork.nil))
                      · refine DrawG.pick (n := 5) (i := 17) (by decide +kernel) rfl (gS (aT rfl rfl)) <| DrawG.pick (n := 4) (i := 18) (by decide +kernel) rfl (gS (aT rfl rfl)) <| DrawG.pick (n := 3) (i := 19) (by decide +kernel) rfl (gS (aT rfl rfl)) <| DrawG.pick (n := 2) (i := 20) (by decide +kernel) rfl (gS (bK rfl rfl h14)) <| DrawG.pick (n := 1) (i := 21) (by decide +kernel) rfl (gS (v := (eB true)) (sv (b7 rfl h14 rfl))) <| DrawG.pick (n := 0) (i := 22) (by decide +kernel) rfl (gS (v := (eB true)) (sv (bB rfl))) <| DrawG.nil (by decide +kernel) ?_
                        refine zz ?_
                        exact hG4 _ _ _ _ (zG []) (J4 true hr)
                      · refine DrawG.pick (n := 5) (i := 16) (by decide +kernel) rfl (gS (aT rfl rfl)) <| DrawG.pick (n := 4) (i := 18) (by decide +kernel) rfl (gS (aT rfl rfl)) <| DrawG.pick (n := 3) (i := 19) (by decide +kernel) rfl (gS (aT rfl rfl)) <| DrawG.pick (n := 2) (i := 20) (by decide +kernel) rfl (gS (bK rfl rfl h14)) <| DrawG.pick (n := 1) (i := 21) (by decide +kernel) rfl (gS (v := (eB true)) (sv (b7 rfl h14 rfl))) <| DrawG.pick (n := 0) (i := 22) (by decide +kernel) rfl (gS (v := (eB true)) (sv (bB rfl))) <| DrawG.nil (by decide +kernel) ?_
                        refine zz ?_
                        exact hG4 _ _ _ _ (zG []) (J4 true hr)
                    · refine DrawG.pick (n := 7) (i := 14) (by decide +kernel) rfl (gS (aT rfl rfl)) <| DrawG.fork (n := 6) [16, 17] (by decide +kernel) (by decide) ?_
                      refine (Fork.cons rfl (gS (aT rfl rfl)) ?_ (Fork.cons rfl (gS (aT rfl rfl)) ?_ Fork.nil))
                      · refine DrawG.pick (n := 5) (i := 17) (by decide +kernel) rfl (gS (aT rfl rfl)) <| DrawG.pick (n := 4) (i := 18) (by decide +kernel) rfl (gS (aT rfl rfl)) <| DrawG.pick (n := 3) (i := 19) (by decide +kernel) rfl (gS (aT rfl rfl)) <| DrawG.pick (n := 2) (i := 20) (by decide +kernel) rfl (gS (bK rfl rfl h14)) <| DrawG.pick (n := 1) (i := 21) (by decide +kernel) rfl (gS (v := (eB true)) (sv (b7 rfl h14 rfl))) <| DrawG.pick (n := 0) (i := 22) (by decide +kernel) rfl (gS (v := (eB true)) (sv (bB rfl))) <| DrawG.nil (by decide +kernel) ?_
                        refine zz ?_
                        exact hG4 _ _ _ _ (zG []) (J4 true hr)
                      · refine DrawG.pick (n := 5) (i := 16) (by decide +kernel) rfl (gS (aT rfl rfl)) <| DrawG.pick (n := 4) (i := 18) (by decide +kernel) rfl (gS (aT rfl rfl)) <| DrawG.pick (n := 3) (i := 19) (by decide +kernel) rfl (gS (aT rfl rfl)) <| DrawG.pick (n := 2) (i := 20) (by decide +kernel) rfl (gS (bK rfl rfl h14)) <| DrawG.pick (n := 1) (i := 21) (by decide +kernel) rfl (gS (v := (eB true)) (sv (b7 rfl h14 rfl))) <| DrawG.pick (n := 0) (i := 22) (by decide +kernel) rfl (gS (v := (eB true)) (sv (bB rfl))) <| DrawG.nil (by decide +kernel) ?_
                        refine zz ?_
                        exact hG4 _ _ _ _ (zG []) (J4 true hr)
                    · refine DrawG.fork (n := 7) [14, 15] (by decide +kernel) (by decide) ?_
                      refine (Fork.cons rfl (gS (aT rfl rfl)) ?_ (Fork.cons rfl (gS (aT rfl rfl)) ?_ Fork.nil))
                      · refine DrawG.pick (n := 6) (i := 15) (by decide +kernel) rfl (gS (aT rfl rfl)) <| DrawG.pick (n := 5) (i := 16) (by decide +kernel) rfl (gS (aT rfl rfl)) <| DrawG.pick (n := 4) (i := 18) (by decide +kernel) rfl (gS (aT rfl rfl)) <| DrawG.pick (n := 3) (i := 19) (by decide +kernel) rfl (gS (aT rfl rfl)) <| DrawG.pick (n := 2) (i := 20) (by decide +kernel) rfl (gS (bK rfl rfl h14)) <| DrawG.pick (n := 1) (i := 21) (by decide +kernel) rfl (gS (v := (eB true)) (sv (b7 rfl h14 rfl))) <| DrawG.pick (n := 0) (i := 22) (by decide +kernel) rfl (gS (v := (eB true)) (sv (bB rfl))) <| DrawG.nil (by decide +kernel) ?_
                        refine zz ?_
                        exact hG4 _ _ _ _ (zG []) (J4 true hr)
                      · refine DrawG.pick (n := 6) (i := 14) (by decide +kernel) rfl (gS (aT rfl rfl)) <| DrawG.pick (n := 5) (i := 16) (by decide +kernel) rfl (gS (aT rfl rfl)) <| DrawG.pick (n := 4) (i := 18) (by decide +kernel) rfl (gS (aT rfl rfl)) <| DrawG.pick (n := 3) (i := 19) (by decide +kernel) rfl (gS (aT rfl rfl)) <| DrawG.pick (n := 2) (i := 20) (by decide +kernel) rfl (gS (bK rfl rfl h14)) <| DrawG.pick (n := 1) (i := 21) (by decide +kernel) rfl (gS (v := (eB true)) (sv (b7 rfl h14 rfl))) <| DrawG.pick (n := 0) (i := 22) (by decide +kernel) rfl (gS (v := (eB true)) (sv (bB rfl))) <| DrawG.nil (by decide +kernel) ?_
                        refine zz ?_
                        exact hG4 _ _ _ _ (zG []) (J4 true hr)
                  · refine DrawG.pick (n := 14) (i := 7) (by decide +kernel) rfl (gS (bK rfl rfl h14)) <| DrawG.pick (n := 13) (i := 9) (by decide +kernel) rfl (gS (bK rfl rfl h14)) <| DrawG.pick (n := 12) (i := 10) (by decide +kernel) rfl (gS (bK rfl rfl h14)) <| DrawG.pick (n := 11) (i := 11) (by decide +kernel) rfl (gS (bK rfl rfl h14)) <| DrawG.pick (n := 10) (i := 12) (by decide +kernel) rfl (gS (aT rfl rfl)) <| DrawG.pick (n := 9) (i := 13) (by decide +kernel) rfl (gS (aT rfl rfl)) <| DrawG.fork (n := 8) [14, 15, 17] (by decide +kernel) (by decide) ?_
                    refine (Fork.cons rfl (gS (aT rfl rfl)) ?_ (Fork.cons rfl (gS (aT rfl rfl)) ?_ (Fork.cons rfl (gS (aT rfl rfl)) ?_ Fork.nil)))
                    · refine DrawG.pick (n := 7) (i := 15) (by decide +kernel) rfl (gS (aT rfl rfl)) <| DrawG.fork (n := 6) [16, 17] (by decide +kernel) (by decide) ?_
                      refine (Fork.cons rfl (gS (aT rfl rfl)) ?_ (Fork.cons rfl (gS (aT rfl rfl)) ?_ Fork.nil))
                      · refine DrawG.pick (n := 5) (i := 17) (by decide +kernel) rfl (gS (aT rfl rfl)) <| DrawG.pick (n := 4) (i := 18) (by decide +kernel) rfl (gS (aT rfl rfl)) <| DrawG.pick (n := 3) (i := 19) (by decide +kernel) rfl (gS (aT rfl rfl)) <| DrawG.pick (n := 2) (i := 20) (by decide +kernel) rfl (gS (bK rfl rfl h14)) <| DrawG.pick (n := 1) (i := 21) (by decide +kernel) rfl (gS (v := (eB true)) (sv (b7 rfl h14 rfl))) <| DrawG.pick (n := 0) (i := 22) (by decide +kernel) rfl (gS (v := (eB true)) (sv (bB rfl))) <| DrawG.nil (by decide +kernel) ?_
                        refine zz ?_
                        exact hG4 _ _ _ _ (zG []) (J4 true hr)
                      · refine DrawG.pick (n := 5) (i := 16) (by decide +kernel) rfl (gS (aT rfl rfl)) <| DrawG.pick (n := 4) (i := 18) (by decide +kernel) rfl (gS (aT rfl rfl)) <| DrawG.pick (n := 3) (i := 19) (by decide +kernel) rfl (gS (aT rfl rfl)) <| DrawG.pick (n := 2) (i := 20) (by decide +kernel) rfl (gS (bK rfl rfl h14)) <| DrawG.pick (n := 1) (i := 21) (by decide +kernel) rfl (gS (v := (eB true)) (sv (b7 rfl h14 rfl))) <| DrawG.pick (n := 0) (i := 22) (by decide +kernel) rfl (gS (v := (eB true)) (sv (bB rfl))) <| DrawG.nil (by decide +kernel) ?_
                        refine zz ?_
                        exact hG4 _ _ _ _ (zG []) (J4 true hr)
                    · refine DrawG.pick (n := 7) (i := 14) (by decide +kernel) rfl (gS (aT rfl rfl)) <| DrawG.fork (n := 6) [16, 17] (by decide +kernel) (by decide) ?_
                      refine (Fork.cons rfl (gS (aT rfl rfl)) ?_ (Fork.cons rfl (gS (aT rfl rfl)) ?_ Fork.nil))
                      · refine DrawG.pick (n := 5) (i := 17) (by decide +kernel) rfl (gS (aT rfl rfl)) <| DrawG.pick (n := 4) (i := 18) (by decide +kernel) rfl (gS (aT rfl rfl)) <| DrawG.pick (n := 3) (i := 19) (by decide +kernel) rfl (gS (aT rfl rfl)) <| DrawG.pick (n := 2) (i := 20) (by decide +kernel) rfl (gS (bK rfl rfl h14)) <| DrawG.pick (n := 1) (i := 21) (by decide +kernel) rfl (gS (v := (eB true)) (sv (b7 rfl h14 rfl))) <| DrawG.pick (n := 0) (i := 22) (by decide +kernel) rfl (gS (v := (eB true)) (sv (bB rfl))) <| DrawG.nil (by decide +kernel) ?_
                        refine zz ?_
                        exact hG4 _ _ _ _ (zG []) (J4 true hr)
                      · refine DrawG.pick (n := 5) (i := 16) (by decide +kernel) rfl (gS (aT rfl rfl)) <| DrawG.pick (n := 4) (i := 18) (by decide +kernel) rfl (gS (aT rfl rfl)) <| DrawG.pick (n := 3) (i := 19) (by decide +kernel) rfl (gS (aT rfl rfl)) <| DrawG.pick (n := 2) (i := 20) (by decide +kernel) rfl (gS (bK rfl rfl h14)) <| DrawG.pick (n := 1) (i := 21) (by decide +kernel) rfl (gS (v := (eB true)) (sv (b7 rfl h14 rfl))) <| DrawG.pick (n := 0) (i := 22) (by decide +kernel) rfl (gS (v := (eB true)) (sv (bB rfl))) <| DrawG.nil (by decide +kernel) ?_
                        refine zz ?_
                        exact hG4 _ _ _ _ (zG []) (J4 true hr)
                    · refine DrawG.fork (n := 7) [14, 15] (by decide +kernel) (by decide) ?_
                      refine (Fork.cons rfl (gS (aT rfl rfl)) ?_ (Fork.cons rfl (gS (aT rfl rfl)) ?_ Fork.nil))
                      · refine DrawG.pick (n := 6) (i := 15) (by decide +kernel) rfl (gS (aT rfl rfl)) <| DrawG.pick (n := 5) (i := 16) (by decide +kernel) rfl (gS (aT rfl rfl)) <| DrawG.pick (n := 4) (i := 18) (by decide +kernel) rfl (gS (aT rfl rfl)) <| DrawG.pick (n := 3) (i := 19) (by decide +kernel) rfl (gS (aT rfl rfl)) <| DrawG.pick (n := 2) (i := 20) (by decide +kernel) rfl (gS (bK rfl rfl h14)) <| DrawG.pick (n := 1) (i := 21) (by decide +kernel) rfl (gS (v := (eB true)) (sv (b7 rfl h14 rfl))) <| DrawG.pick (n := 0) (i := 22) (by decide +kernel) rfl (gS (v := (eB true)) (sv (bB rfl))) <| DrawG.nil (by decide +kernel) ?_
                        refine zz ?_
                        exact hG4 _ _ _ _ (zG []) (J4 true hr)
                      · refine DrawG.pick (n := 6) (i := 14) (by decide +kernel) rfl (gS (aT rfl rfl)) <| DrawG.pick (n := 5) (i := 16) (by decide +kernel) rfl (gS (aT rfl rfl)) <| DrawG.pick (n := 4) (i := 18) (by decide +kernel) rfl (gS (aT rfl rfl)) <| DrawG.pick (n := 3) (i := 19) (by decide +kernel) rfl (gS (aT rfl rfl)) <| DrawG.pick (n := 2) (i := 20) (by decide +kernel) rfl (gS (bK rfl rfl h14)) <| DrawG.pick (n := 1) (i := 21) (by decide +kernel) rfl (gS (v := (eB true)) (sv (b7 rfl h14 rfl))) <| DrawG.pick (n := 0) (i := 22) (by decide +kernel) rfl (gS (v := (eB true)) (sv (bB rfl))) <| DrawG.nil (by decide +kernel) ?_
                        refine zz ?_
                        exact hG4 _ _ _ _ (zG []) (J4 true hr)
                · refine DrawG.fork (n := 16) [5, 6] (by decide +kernel) (by decide) ?_
                  refine (Fork.cons rfl (gS (bK rfl rfl h14)) ?_ (Fork.cons rfl (gS (bK rfl rfl h14)) ?_ Fork.nil))
                  · refine DrawG.pick (n := 15) (i := 6) (by decide +kernel) rfl (gS (bK rfl rfl h14)) <| DrawG.pick (n := 14) (i := 7) (by decide +kernel) rfl (gS (bK rfl rfl h14)) <| DrawG.pick (n := 13) (i := 9) (by decide +kernel) rfl (gS (bK rfl rfl h14)) <| DrawG.pick (n := 12) (i := 10) (by decide +kernel) rfl (gS (bK rfl rfl h14)) <| DrawG.pick (n := 11) (i := 11) (by decide +kernel) rfl (gS (bK rfl rfl h14)) <| DrawG.pick (n := 10) (i := 12) (by decide +kernel) rfl (gS (aT rfl rfl)) <| DrawG.pick (n := 9) (i := 13) (by decide +kernel) rfl (gS (aT rfl rfl)) <| DrawG.fork (n := 8) [14, 15, 17] (by decide +kernel) (by decide) ?_
                    refine (Fork.cons rfl (gS (aT rfl rfl)) ?_ (Fork.cons rfl (gS (aT rfl rfl)) ?_ (Fork.cons rfl (gS (aT rfl rfl)) ?_ Fork.nil)))
                    · refine DrawG.pick (n := 7) (i := 15) (by decide +kernel) rfl (gS (aT rfl rfl)) <| DrawG.fork (n := 6) [16, 17] (by decide +kernel) (by decide) ?_
                      refine (Fork.cons rfl (gS (aT rfl rfl)) ?_ (Fork.cons rfl (gS (aT rfl rfl)) ?_ Fork.nil))
                      · refine DrawG.pick (n := 5) (i := 17) (by decide +kernel) rfl (gS (aT rfl rfl)) <| DrawG.pick (n := 4) (i := 18) (by decide +kernel) rfl (gS (aT rfl rfl)) <| DrawG.pick (n := 3) (i := 19) (by decide +kernel) rfl (gS (aT rfl rfl)) <| DrawG.pick (n := 2) (i := 20) (by decide +kernel) rfl (gS (bK rfl rfl h14)) <| DrawG.pick (n := 1) (i := 21) (by decide +kernel) rfl (gS (v := (eB true)) (sv (b7 rfl h14 rfl))) <| DrawG.pick (n := 0) (i := 22) (by decide +kernel) rfl (gS (v := (eB true)) (sv (bB rfl))) <| DrawG.nil (by decide +kernel) ?_
                        refine zz ?_
                        exact hG4 _ _ _ _ (zG []) (J4 true hr)
                      · refine DrawG.pick (n := 5) (i := 16) (by decide +kernel) rfl (gS (aT rfl rfl)) <| DrawG.pick (n := 4) (i := 18) (by decide +kernel) rfl (gS (aT rfl rfl)) <| DrawG.pick (n := 3) (i := 19) (by decide +kernel) rfl (gS (aT rfl rfl)) <| DrawG.pick (n := 2) (i := 20) (by decide +kernel) rfl (gS (bK rfl rfl h14)) <| DrawG.pick (n := 1) (i := 21) (by decide +kernel) rfl (gS (v := (eB true)) (sv (b7 rfl h14 rfl))) <| DrawG.pick (n := 0) (i := 22) (by decide +kernel) rfl (gS (v := (eB true)) (sv (bB rfl))) <| DrawG.nil (by decide +kernel) ?_
                        refine zz ?_
                        exact hG4 _ _ _ _ (zG []) (J4 true hr)
                    · refine DrawG.pick (n := 7) (i := 14) (by decide +kernel) rfl (gS (aT rfl rfl)) <| DrawG.fork (n := 6) [16, 17] (by decide +kernel) (by decide) ?_
                      refine (Fork.cons rfl (gS (aT rfl rfl)) ?_ (Fork.cons rfl (gS (aT rfl rfl)) ?_ Fork.nil))
                      · refine DrawG.pick (n := 5) (i := 17) (by decide +kernel) rfl (gS (aT rfl rfl)) <| DrawG.pick (n := 4) (i := 18) (by decide +kernel) rfl (gS (aT rfl rfl)) <| DrawG.pick (n := 3) (i := 19) (by decide +kernel) rfl (gS (aT rfl rfl)) <| DrawG.pick (n := 2) (i := 20) (by decide +kernel) rfl (gS (bK rfl rfl h14)) <| DrawG.pick (n := 1) (i := 21) (by decide +kernel) rfl (gS (v := (eB true)) (sv (b7 rfl h14 rfl))) <| DrawG.pick (n := 0) (i := 22) (by decide +kernel) rfl (gS (v := (eB true)) (sv (bB rfl))) <| DrawG.nil (by decide +kernel) ?_
                        refine zz ?_
                        exact hG4 _ _ _ _ (zG []) (J4 true hr)
                      · refine DrawG.pick (n := 5) (i := 16) (by decide +kernel) rfl (gS (aT rfl rfl)) <| DrawG.pick (n := 4) (i := 18) (by decide +kernel) rfl (gS (aT rfl rfl)) <| DrawG.pick (n := 3) (i := 19) (by decide +kernel) rfl (gS (aT rfl rfl)) <| DrawG.pick (n := 2) (i := 20) (by decide +kernel) rfl (gS (bK rfl rfl h14)) <| DrawG.pick (n := 1) (i := 21) (by decide +kernel) rfl (gS (v := (eB true)) (sv (b7 rfl h14 rfl))) <| DrawG.pick (n := 0) (i := 22) (by decide +kernel) rfl (gS (v := (eB true)) (sv (bB rfl))) <| DrawG.nil (by decide +kernel) ?_
                        refine zz ?_
                        exact hG4 _ _ _ _ (zG []) (J4 true hr)
                    · refine DrawG.fork (n := 7) [14, 15] (by decide +kernel) (by decide) ?_
                      refine (Fork.cons rfl (gS (aT rfl rfl)) ?_ (Fork.cons rfl (gS (aT rfl rfl)) ?_ Fork.nil))
                      · refine DrawG.pick (n := 6) (i := 15) (by decide +kernel) rfl (gS (aT rfl rfl)) <| DrawG.pick (n := 5) (i := 16) (by decide +kernel) rfl (gS (aT rfl rfl)) <| DrawG.pick (n := 4) (i := 18) (by decide +kernel) rfl (gS (aT rfl rfl)) <| DrawG.pick (n := 3) (i := 19) (by decide +kernel) rfl (gS (aT rfl rfl)) <| DrawG.pick (n := 2) (i := 20) (by decide +kernel) rfl (gS (bK rfl rfl h14)) <| DrawG.pick (n := 1) (i := 21) (by decide +kernel) rfl (gS (v := (eB true)) (sv (b7 rfl h14 rfl))) <| DrawG.pick (n := 0) (i := 22) (by decide +kernel) rfl (gS (v := (eB true)) (sv (bB rfl))) <| DrawG.nil (by decide +kernel) ?_
                        refine zz ?_
                        exact hG4 _ _ _ _ (zG []) (J4 true hr)
                      · refine DrawG.pick (n := 6) (i := 14) (by decide +kernel) rfl (gS (aT rfl rfl)) <| DrawG.pick (n := 5) (i := 16) (by decide +kernel) rfl (gS (aT rfl rfl)) <| DrawG.pick (n := 4) (i := 18) (by decide +kernel) rfl (gS (aT rfl rfl)) <| DrawG.pick (n := 3) (i := 19) (by decide +kernel) rfl (gS (aT rfl rfl)) <| DrawG.pick (n := 2) (i := 20) (by decide +kernel) rfl (gS (bK rfl rfl h14)) <| DrawG.pick (n := 1) (i := 21) (by decide +kernel) rfl (gS (v := (eB true)) (sv (b7 rfl h14 rfl))) <| DrawG.pick (n := 0) (i := 22) (by decide +kernel) rfl (gS (v := (eB true)) (sv (bB rfl))) <| DrawG.nil (by decide +kernel) ?_
                        refine zz ?_
                        exact hG4 _ _ _ _ (zG []) (J4 true hr)
                  · refine DrawG.pick (n := 15) (i := 5) (by decide +kernel) rfl (gS (bK rfl rfl h14)) <| DrawG.pick (n := 14) (i := 7) (by decide +kernel) rfl (gS (bK rfl rfl h14)) <| DrawG.pick (n := 13) (i := 9) (by decide +kernel) rfl (gS (bK rfl rfl h14)) <| DrawG.pick (n := 12) (i := 10) (by decide +kernel) rfl (gS (bK rfl rfl h14)) <| DrawG.pick (n := 11) (i := 11) (by decide +kernel) rfl (gS (bK rfl rfl h14)) <| DrawG.pick (n := 10) (i := 12) (by decide +kernel) rfl (gS (aT rfl rfl)) <| DrawG.pick (n := 9) (i := 13) (by decide +kernel) rfl (gS (aT rfl rfl)) <| DrawG.fork (n := 8) [14, 15, 17] (by decide +kernel) (by decide) ?_
                    refine (Fork.cons rfl (gS (aT rfl rfl)) ?_ (Fork.cons rfl (gS (aT rfl rfl)) ?_ (Fork.cons rfl (gS (aT rfl rfl)) ?_ Fork.nil)))
                    · refine DrawG.pick (n := 7) (i := 15) (by decide +kernel) rfl (gS (aT rfl rfl)) <| DrawG.fork (n := 6) [16, 17] (by decide +kernel) (by decide) ?_
                      refine (Fork.cons rfl (gS (aT rfl rfl)) ?_ (Fork.cons rfl (gS (aT rfl rfl)) ?_ Fork.nil))
                      · refine DrawG.pick (n := 5) (i := 17) (by decide +kernel) rfl (gS (aT rfl rfl)) <| DrawG.pick (n := 4) (i := 18) (by decide +kernel) rfl (gS (aT rfl rfl)) <| DrawG.pick (n := 3) (i := 19) (by decide +kernel) rfl (gS (aT rfl rfl)) <| DrawG.pick (n := 2) (i := 20) (by decide +kernel) rfl (gS (bK rfl rfl h14)) <| DrawG.pick (n := 1) (i := 21) (by decide +kernel) rfl (gS (v := (eB true)) (sv (b7 rfl h14 rfl))) <| DrawG.pick (n := 0) (i := 22) (by decide +kernel) rfl (gS (v := (eB true)) (sv (bB rfl))) <| DrawG.nil (by decide +kernel) ?_
                        refine zz ?_
                        exact hG4 _ _ _ _ (zG []) (J4 true hr)
                      · refine DrawG.pick (n := 5) (i := 16) (by decide +kernel) rfl (gS (aT rfl rfl)) <| DrawG.pick (n := 4) (i := 18) (by decide +kernel) rfl (gS (aT rfl rfl)) <| DrawG.pick (n := 3) (i := 19) (by decide +kernel) rfl (gS (aT rfl rfl)) <| DrawG.pick (n := 2) (i := 20) (by decide +kernel) rfl (gS (bK rfl rfl h14)) <| DrawG.pick (n := 1) (i := 21) (by decide +kernel) rfl (gS (v := (eB true)) (sv (b7 rfl h14 rfl))) <| DrawG.pick (n := 0) (i := 22) (by decide +kernel) rfl (gS (v := (eB true)) (sv (bB rfl))) <| DrawG.nil (by decide +kernel) ?_
                        refine zz ?_
                        exact hG4 _ _ _ _ (zG []) (J4 true hr)
                    · refine DrawG.pick (n := 7) (i := 14) (by decide +kernel) rfl (gS (aT rfl rfl)) <| DrawG.fork (n := 6) [16, 17] (by decide +kernel) (by decide) ?_
                      refine (Fork.cons rfl (gS (aT rfl rfl)) ?_ (Fork.cons rfl (gS (aT rfl rfl)) ?_ Fork.nil))
                      · refine DrawG.pick (n := 5) (i := 17) (by decide +kernel) rfl (gS (aT rfl rfl)) <| DrawG.pick (n := 4) (i := 18) (by decide +kernel) rfl (gS (aT rfl rfl)) <| DrawG.pick (n := 3) (i := 19) (by decide +kernel) rfl (gS (aT rfl rfl)) <| DrawG.pick (n := 2) (i := 20) (by decide +kernel) rfl (gS (bK rfl rfl h14)) <| DrawG.pick (n := 1) (i := 21) (by decide +kernel) rfl (gS (v := (eB true)) (sv (b7 rfl h14 rfl))) <| DrawG.pick (n := 0) (i := 22) (by decide +kernel) rfl (gS (v := (eB true)) (sv (bB rfl))) <| DrawG.nil (by decide +kernel) ?_
                        refine zz ?_
                        exact hG4 _ _ _ _ (zG []) (J4 true hr)
                      · refine DrawG.pick (n := 5) (i := 16) (by decide +kernel) rfl (gS (aT rfl rfl)) <| DrawG.pick (n := 4) (i := 18) (by decide +kernel) rfl (gS (aT rfl rfl)) <| DrawG.pick (n := 3) (i := 19) (by decide +kernel) rfl (gS (aT rfl rfl)) <| DrawG.pick (n := 2) (i := 20) (by decide +kernel) rfl (gS (bK rfl rfl h14)) <| DrawG.pick (n := 1) (i := 21) (by decide +kernel) rfl (gS (v := (eB true)) (sv (b7 rfl h14 rfl))) <| DrawG.pick (n := 0) (i := 22) (by decide +kernel) rfl (gS (v := (eB true)) (sv (bB rfl))) <| DrawG.nil (by decide +kernel) ?_
                        refine zz ?_
                        exact hG4 _ _ _ _ (zG []) (J4 true hr)
                    · refine DrawG.fork (n := 7) [14, 15] (by decide +kernel) (by decide) ?_
                      refine (Fork.cons rfl (gS (aT rfl rfl)) ?_ (Fork.cons rfl (gS (aT rfl rfl)) ?_ Fork.nil))
                      · refine DrawG.pick (n := 6) (i := 15) (by decide +kernel) rfl (gS (aT rfl rfl)) <| DrawG.pick (n := 5) (i := 16) (by decide +kernel) rfl (gS (aT rfl rfl)) <| DrawG.pick (n := 4) (i := 18) (by decide +kernel) rfl (gS (aT rfl rfl)) <| DrawG.pick (n := 3) (i := 19) (by decide +kernel) rfl (gS (aT rfl rfl)) <| DrawG.pick (n := 2) (i := 20) (by decide +kernel) rfl (gS (bK rfl rfl h14)) <| DrawG.pick (n := 1) (i := 21) (by decide +kernel) rfl (gS (v := (eB true)) (sv (b7 rfl h14 rfl))) <| DrawG.pick (n := 0) (i := 22) (by decide +kernel) rfl (gS (v := (eB true)) (sv (bB rfl))) <| DrawG.nil (by decide +kernel) ?_
                        refine zz ?_
                        exact hG4 _ _ _ _ (zG []) (J4 true hr)
                      · refine DrawG.pick (n := 6) (i := 14) (by decide +kernel) rfl (gS (aT rfl rfl)) <| DrawG.pick (n := 5) (i := 16) (by decide +kernel) rfl (gS (aT rfl rfl)) <| DrawG.pick (n := 4) (i := 18) (by decide +kernel) rfl (gS (aT rfl rfl)) <| DrawG.pick (n := 3) (i := 19) (by decide +kernel) rfl (gS (aT rfl rfl)) <| DrawG.pick (n := 2) (i := 20) (by decide +kernel) rfl (gS (bK rfl rfl h14)) <| DrawG.pick (n := 1) (i := 21) (by decide +kernel) rfl (gS (v := (eB true)) (sv (b7 rfl h14 rfl))) <| DrawG.pick (n := 0) (i := 22) (by decide +kernel) rfl (gS (v := (eB true)) (sv (bB rfl))) <| DrawG.nil (by decide +kernel) ?_
                        refine zz ?_
                        exact hG4 _ _ _ _ (zG []) (J4 true hr)
              · replace hr := fQ hr h14
                obtain ⟨gJ, h_15, hr⟩ := aA hr
                obtain ⟨cG, h_16, hr⟩ := aA hr
                obtain ⟨wO, h_17, hr⟩ := aA hr
                rcases Bool.eq_false_or_eq_true (wO == 0) with h19 | h19
                · replace hr := fM hr h19
                  obtain ⟨aBH, h_20, hr⟩ := aA hr
                  refine AB.rd (dN []) (dN [11]) mixed <| DrawG.pick (n := 22) (i := 0) (by decide +kernel) rfl (gS (v := (eI .i64 vn)) (sv (fC rfl))) <| DrawG.pick (n := 21) (i := 1) (by decide +kernel) rfl (gS (v := (eB (vn == 0))) (sv (qC rfl rfl (wK ..)))) <| DrawG.pick (n := 20) (i := 2) (by decide +kernel) rfl (gS (v := (eB (vn == 0))) (sv (fC rfl))) <| DrawG.pick (n := 19) (i := 3) (by decide +kernel) rfl (gS (v := (.sl 6 0 cA.length 1 false)) (cD rfl rfl h14 (fC rfl))) <| DrawG.pick (n := 18) (i := 4) (by decide +kernel) rfl (gS (v := (.sl 0 0 l2.length 1 false)) (cD rfl rfl h14 (fC rfl))) ?_
                  refine DrawG.jn (m := 14) (L := lst [0, 1, 2, 3, 4, 5, 6, 7, 8] 23) (s1 := aG 154 [(10, (.sl 0 0 l2.length 1 false)), (24, (.sl 1 0 cA.length 1 false)), (25, (.ptr 2 0)), (134, (eB (vn == 0))), (135, (.sl 1 0 cA.length 1 false)), (139, (.sl 3 0 cG.length 1 false)), (140, (.agg (aO (eI .u8) msg [(eI .i64 (IntKind.i64.wrap lock)), (eI .i64 (IntKind.i64.wrap lock))])))]) (h1 := [some ⟨22, l2.map (eL 1 (eI .u8))⟩, some ⟨5, cA.map (eI .u8)⟩, some ⟨42, (aO (eI .u8) msg [(eI .i64 (IntKind.i64.wrap ((IntKind.i64.wrap lock) - 1))), (eI .i64 (IntKind.i64.wrap lock))])⟩, some ⟨22, cG.map (eL 1 (eI .u8))⟩]) ?_ (fun J => ?_)
                  · refine DrawG.pick (n := 13) (i := 9) (by decide +kernel) rfl (gC (v := (eI .i64 wO)) (h' := [some ⟨22, l2.map (eL 1 (eI .u8))⟩, some ⟨5, cA.map (eI .u8)⟩, some ⟨42, (aO (eI .u8) msg [(eI .i64 (IntKind.i64.wrap ((IntKind.i64.wrap lock) - 1))), (eI .i64 (IntKind.i64.wrap lock))])⟩, some ⟨22, cG.map (eL 1 (eI .u8))⟩]) (zL (m8 h_17) [] [1, 3]) rfl (fun _ => ⟨[], by simp⟩) (cD rfl rfl h14 (d6 rfl gL))) <| DrawG.pick (n := 12) (i := 10) (by decide +kernel) rfl (gS (v := (eB (wO == 0))) (cD rfl rfl h14 (qC rfl rfl (wK ..)))) <| DrawG.pick (n := 11) (i := 11) (by decide +kernel) rfl (gS (v := (eB (wO == 0))) (cD rfl rfl h14 (fC rfl))) ?_
                    refine DrawG.pick (n := 10) (i := 12) (by decide +kernel) rfl (gS (v := (.sl 1 0 cA.length 1 false)) (cD rfl rfl h19 (fC rfl))) <| DrawG.pick (n := 9) (i := 13) (by decide +kernel) rfl (gS (v := (.sl 0 0 l2.length 1 false)) (cD rfl rfl h19 (fC rfl))) ?_
                    refine DrawG.jn (m := 5) (L := lst [0, 1, 2, 3, 4, 5, 6, 7, 8, 9, 10, 11, 12, 13, 14, 15, 16, 17] 23) (s1 := aG 154 [(134, (eB (vn == 0))), (143, (eB (wO == 0))), (144, (.sl 0 0 cA.length 1 false)), (148, (.sl 1 0 cG.length 1 false)), (149, (.agg (aO (eI .u8) msg [(eI .i64 (IntKind.i64.wrap ((IntKind.i64.wrap lock) - 1))), (eI .i64 (IntKind.i64.wrap lock))])))]) (h1 := [some ⟨5, cA.map (eI .u8)⟩, some ⟨22, cG.map (eL 1 (eI .u8))⟩]) ?_ (fun J => ?_)
                    · refine DrawG.pick (n := 4) (i := 18) (by decide +kernel) rfl (gC (v := (eI .i64 aBH)) (h' := [some ⟨5, cA.map (eI .u8)⟩, some ⟨22, cG.map (eL 1 (eI .u8))⟩]) (zL (m8 h_20) [] [0, 1]) rfl (fun _ => ⟨[], by simp⟩) (cD rfl rfl h19 (d6 rfl gL))) <| DrawG.pick (n := 3) (i := 19) (by decide +kernel) rfl (gS (v := (eB (aBH == 85))) (cD rfl rfl h19 (qC rfl rfl (wK ..)))) <| DrawG.pick (n := 2) (i := 20) (by decide +kernel) rfl (gS (v := (eB (aBH == 85))) (cD rfl rfl h14 (b7 rfl h19 rfl))) <| DrawG.pick (n := 1) (i := 21) (by decide +kernel) rfl (gS (v := (eB (aBH == 85))) (sv (k8 rfl h14 rfl))) ?_
                      refine DrawG.pick (n := 0) (i := 22) (by decide +kernel) rfl (gS (v := (eB (aBH == 85))) (sv (bB rfl))) <| DrawG.nil (by decide +kernel) ?_
                      refine zz ?_
                      exact hG4 _ _ _ _ (zG []) (J4 (aBH == 85) hr)
                    · refine DrawG.fork (n := 8) [14, 15, 17] (by decide +kernel) (by decide) ?_
                      refine (Fork.cons rfl (gS (v := (.sl 5 0 gJ.length 1 false)) (h' := [some ⟨22, l2.map (eL 1 (eI .u8))⟩, some ⟨5, cA.map (eI .u8)⟩, some ⟨42, (aO (eI .u8) msg [(eI .i64 (IntKind.i64.wrap ((IntKind.i64.wrap lock) - 1))), (eI .i64 (IntKind.i64.wrap lock))])⟩, some ⟨22, cG.map (eL 1 (eI .u8))⟩, none, some ⟨22, gJ.map (eL 1 (eI .u8))⟩]) (cD rfl rfl h19 (bV rfl rfl (wD (E := (eL 1 (eI .u8))) cP bH ⟨rfl, rfl, zl⟩ (iU rfl rfl) rfl h_15 rfl rfl)))) ?_ (Fork.cons rfl (gS (v := (.sl 4 0 1 1 false)) (h' := [some ⟨22, l2.map (eL 1 (eI .u8))⟩, some ⟨5, cA.map (eI .u8)⟩, some ⟨42, (aO (eI .u8) msg [(eI .i64 (IntKind.i64.wrap ((IntKind.i64.wrap lock) - 1))), (eI .i64 (IntKind.i64.wrap lock))])⟩, some ⟨22, cG.map (eL 1 (eI .u8))⟩, some ⟨22, [[]].map (eL 1 (eI .u8))⟩]) (cD rfl rfl h19 (dH rfl (nZ (P := Tryz.prog) (xs := [[]].map (eL 1 (eI .u8))) cP bH zl zl rfl rfl rfl rfl rfl rfl rfl)))) ?_ (Fork.cons rfl (gS (v := (.agg (aO (eI .u8) msg [(eI .i64 (IntKind.i64.wrap ((IntKind.i64.wrap lock) - 1))), (eI .i64 (IntKind.i64.wrap lock))]))) (cD rfl rfl h19 (bA rfl (tH rfl (jI (ds := (aO (eI .u8) msg [(eI .i64 (IntKind.i64.wrap ((IntKind.i64.wrap lock) - 1))), (eI .i64 (IntKind.i64.wrap lock))])) jQ rfl zl rfl))))) ?_ Fork.nil)))
                      · refine DrawG.pick (n := 7) (i := 15) (by decide +kernel) rfl (gS (v := (.sl 6 0 1 1 false)) (h' := [some ⟨22, l2.map (eL 1 (eI .u8))⟩, some ⟨5, cA.map (eI .u8)⟩, some ⟨42, (aO (eI .u8) msg [(eI .i64 (IntKind.i64.wrap ((IntKind.i64.wrap lock) - 1))), (eI .i64 (IntKind.i64.wrap lock))])⟩, some ⟨22, cG.map (eL 1 (eI .u8))⟩, none, some ⟨22, gJ.map (eL 1 (eI .u8))⟩, some ⟨22, [[]].map (eL 1 (eI .u8))⟩]) (cD rfl rfl h19 (dH rfl (nZ (P := Tryz.prog) (xs := [[]].map (eL 1 (eI .u8))) cP bH zl zl rfl rfl rfl rfl rfl rfl rfl)))) <| DrawG.fork (n := 6) [16, 17] (by decide +kernel) (by decide) ?_
                        refine (Fork.cons rfl (gS (v := (.sl 7 0 cG.length 1 false)) (h' := [some ⟨22, l2.map (eL 1 (eI .u8))⟩, some ⟨5, cA.map (eI .u8)⟩, some ⟨42, (aO (eI .u8) msg [(eI .i64 (IntKind.i64.wrap ((IntKind.i64.wrap lock) - 1))), (eI .i64 (IntKind.i64.wrap lock))])⟩, some ⟨22, cG.map (eL 1 (eI .u8))⟩, none, none, some ⟨22, [[]].map (eL 1 (eI .u8))⟩, some ⟨22, cG.map (eL 1 (eI .u8))⟩]) (cD rfl rfl h19 (bV rfl rfl (pY (E := (eL 1 (eI .u8))) rfl cP bH ⟨rfl, rfl, zl⟩ rfl (iU rfl rfl) h_16 rfl rfl)))) ?_ (Fork.cons rfl (gS (v := (.agg (aO (eI .u8) msg [(eI .i64 (IntKind.i64.wrap ((IntKind.i64.wrap lock) - 1))), (eI .i64 (IntKind.i64.wrap lock))]))) (cD rfl rfl h19 (bA rfl (tH rfl (jI (ds := (aO (eI .u8) msg [(eI .i64 (IntKind.i64.wrap ((IntKind.i64.wrap lock) - 1))), (eI .i64 (IntKind.i64.wrap lock))])) jQ rfl zl rfl))))) ?_ Fork.nil))
                        · refine DrawG.pick (n := 5) (i := 17) (by decide +kernel) rfl (gS (v := (.agg (aO (eI .u8) msg [(eI .i64 (IntKind.i64.wrap ((IntKind.i64.wrap lock) - 1))), (eI .i64 (IntKind.i64.wrap lock))]))) (cD rfl rfl h19 (bA rfl (tH rfl (jI (ds := (aO (eI .u8) msg [(eI .i64 (IntKind.i64.wrap ((IntKind.i64.wrap lock) - 1))), (eI .i64 (IntKind.i64.wrap lock))])) jQ rfl zl rfl))))) ?_
                          exact DrawG.jg (by decide +kernel) (by decide +kernel) (zG [1, 7]) J
                        · refine DrawG.pick (n := 5) (i := 16) (by decide +kernel) rfl (gS (v := (.sl 7 0 cG.length 1 false)) (h' := [some ⟨22, l2.map (eL 1 (eI .u8))⟩, some ⟨5, cA.map (eI .u8)⟩, some ⟨42, (aO (eI .u8) msg [(eI .i64 (IntKind.i64.wrap ((IntKind.i64.wrap lock) - 1))), (eI .i64 (IntKind.i64.wrap lock))])⟩, some ⟨22, cG.map (eL 1 (eI .u8))⟩, none, none, some ⟨22, [[]].map (eL 1 (eI .u8))⟩, some ⟨22, cG.map (eL 1 (eI .u8))⟩]) (cD rfl rfl h19 (bV rfl rfl (pY (E := (eL 1 (eI .u8))) rfl cP bH ⟨rfl, rfl, zl⟩ rfl (iU rfl rfl) h_16 rfl rfl)))) ?_
                          exact DrawG.jg (by decide +kernel) (by decide +kernel) (zG [1, 7]) J
                      · refine DrawG.pick (n := 7) (i := 14) (by decide +kernel) rfl (gS (v := (.sl 6 0 gJ.length 1 false)) (h' := [some ⟨22, l2.map (eL 1 (eI .u8))⟩, some ⟨5, cA.map (eI .u8)⟩, some ⟨42, (aO (eI .u8) msg [(eI .i64 (IntKind.i64.wrap ((IntKind.i64.wrap lock) - 1))), (eI .i64 (IntKind.i64.wrap lock))])⟩, some ⟨22, cG.map (eL 1 (eI .u8))⟩, some ⟨22, [[]].map (eL 1 (eI .u8))⟩, none, some ⟨22, gJ.map (eL 1 (eI .u8))⟩]) (cD rfl rfl h19 (bV rfl rfl (wD (E := (eL 1 (eI .u8))) cP bH ⟨rfl, rfl, zl⟩ (iU rfl rfl) rfl h_15 rfl rfl)))) <| DrawG.fork (n := 6) [16, 17] (by decide +kernel) (by decide) ?_
                        refine (Fork.cons rfl (gS (v := (.sl 7 0 cG.length 1 false)) (h' := [some ⟨22, l2.map (eL 1 (eI .u8))⟩, some ⟨5, cA.map (eI .u8)⟩, some ⟨42, (aO (eI .u8) msg [(eI .i64 (IntKind.i64.wrap ((IntKind.i64.wrap lock) - 1))), (eI .i64 (IntKind.i64.wrap lock))])⟩, some ⟨22, cG.map (eL 1 (eI .u8))⟩, some ⟨22, [[]].map (eL 1 (eI .u8))⟩, none, none, some ⟨22, cG.map (eL 1 (eI .u8))⟩]) (cD rfl rfl h19 (bV rfl rfl (pY (E := (eL 1 (eI .u8))) rfl cP bH ⟨rfl, rfl, zl⟩ rfl (iU rfl rfl) h_16 rfl rfl)))) ?_ (Fork.cons rfl (gS (v := (.agg (aO (eI .u8) msg [(eI .i64 (IntKind.i64.wrap ((IntKind.i64.wrap lock) - 1))), (eI .i64 (IntKind.i64.wrap lock))]))) (cD rfl rfl h19 (bA rfl (tH rfl (jI (ds := (aO (eI .u8) msg [(eI .i64 (IntKind.i64.wrap ((IntKind.i64.wrap lock) - 1))), (eI .i64 (IntKind.i64.wrap lock))])) jQ rfl zl rfl))))) ?_ Fork.nil))
                        · refine DrawG.pick (n := 5) (i := 17) (by decide +kernel) rfl (gS (v := (.agg (aO (eI .u8) msg [(eI .i64 (IntKind.i64.wrap ((IntKind.i64.wrap lock) - 1))), (eI .i64 (IntKind.i64.wrap lock))]))) (cD rfl rfl h19 (bA rfl (tH rfl (jI (ds := (aO (eI .u8) msg [(eI .i64 (IntKind.i64.wrap ((IntKind.i64.wrap lock) - 1))), (eI .i64 (IntKind.i64.wrap lock))])) jQ rfl zl rfl))))) ?_
                          exact DrawG.jg (by decide +kernel) (by decide +kernel) (zG [1, 7]) J
                        · refine DrawG.pick (n := 5) (i := 16) (by decide +kernel) rfl (gS (v := (.sl 7 0 cG.length 1 false)) (h' := [some ⟨22, l2.map (eL 1 (eI .u8))⟩, some ⟨5, cA.map (eI .u8)⟩, some ⟨42, (aO (eI .u8) msg [(eI .i64 (IntKind.i64.wrap ((IntKind.i64.wrap lock) - 1))), (eI .i64 (IntKind.i64.wrap lock))])⟩, some ⟨22, cG.map (eL 1 (eI .u8))⟩, some ⟨22, [[]].map (eL 1 (eI .u8))⟩, none, none, some ⟨22, cG.map (eL 1 (eI .u8))⟩]) (cD rfl rfl h19 (bV rfl rfl (pY (E := (eL 1 (eI .u8))) rfl cP bH ⟨rfl, rfl, zl⟩ rfl (iU rfl rfl) h_16 rfl rfl)))) ?_
                          exact DrawG.jg (by decide +kernel) (by decide +kernel) (zG [1, 7]) J
                      · refine DrawG.fork (n := 7) [14, 15] (by decide +kernel) (by decide) ?_
                        refine (Fork.cons rfl (gS (v := (.sl 5 0 gJ.length 1 false)) (h' := [some ⟨22, l2.map (eL 1 (eI .u8))⟩, some ⟨5, cA.map (eI .u8)⟩, some ⟨42, (aO (eI .u8) msg [(eI .i64 (IntKind.i64.wrap ((IntKind.i64.wrap lock) - 1))), (eI .i64 (IntKind.i64.wrap lock))])⟩, some ⟨22, cG.map (eL 1 (eI .u8))⟩, none, some ⟨22, gJ.map (eL 1 (eI .u8))⟩]) (cD rfl rfl h19 (bV rfl rfl (wD (E := (eL 1 (eI .u8))) cP bH ⟨rfl, rfl, zl⟩ (iU rfl rfl) rfl h_15 rfl rfl)))) ?_ (Fork.cons rfl (gS (v := (.sl 4 0 1 1 false)) (h' := [some ⟨22, l2.map (eL 1 (eI .u8))⟩, some ⟨5, cA.map (eI .u8)⟩, some ⟨42, (aO (eI .u8) msg [(eI .i64 (IntKind.i64.wrap ((IntKind.i64.wrap lock) - 1))), (eI .i64 (IntKind.i64.wrap lock))])⟩, some ⟨22, cG.map (eL 1 (eI .u8))⟩, some ⟨22, [[]].map (eL 1 (eI .u8))⟩]) (cD rfl rfl h19 (dH rfl (nZ (P := Tryz.prog) (xs := [[]].map (eL 1 (eI .u8))) cP bH zl zl rfl rfl rfl rfl rfl rfl rfl)))) ?_ Fork.nil))
                        · refine DrawG.pick (n := 6) (i := 15) (by decide +kernel) rfl (gS (v := (.sl 6 0 1 1 false)) (h' := [some ⟨22, l2.map (eL 1 (eI .u8))⟩, some ⟨5, cA.map (eI .u8)⟩, some ⟨42, (aO (eI .u8) msg [(eI .i64 (IntKind.i64.wrap ((IntKind.i64.wrap lock) - 1))), (eI .i64 (IntKind.i64.wrap lock))])⟩, some ⟨22, cG.map (eL 1 (eI .u8))⟩, none, some ⟨22, gJ.map (eL 1 (eI .u8))⟩, some ⟨22, [[]].map (eL 1 (eI .u8))⟩]) (cD rfl rfl h19 (dH rfl (nZ (P := Tryz.prog) (xs := [[]].map (eL 1 (eI .u8))) cP bH zl zl rfl rfl rfl rfl rfl rfl rfl)))) <| DrawG.pick (n := 5) (i := 16) (by decide +kernel) rfl (gS (v := (.sl 7 0 cG.length 1 false)) (h' := [some ⟨22, l2.map (eL 1 (eI .u8))⟩, some ⟨5, cA.map (eI .u8)⟩, some ⟨42, (aO (eI .u8) msg [(eI .i64 (IntKind.i64.wrap ((IntKind.i64.wrap lock) - 1))), (eI .i64 (IntKind.i64.wrap lock))])⟩, some ⟨22, cG.map (eL 1 (eI .u8))⟩, none, none, some ⟨22, [[]].map (eL 1 (eI .u8))⟩, some ⟨22, cG.map (eL 1 (eI .u8))⟩]) (cD rfl rfl h19 (bV rfl rfl (pY (E := (eL 1 (eI .u8))) rfl cP bH ⟨rfl, rfl, zl⟩ rfl (iU rfl rfl) h_16 rfl rfl)))) ?_
                          exact DrawG.jg (by decide +kernel) (by decide +kernel) (zG [1, 7]) J
                        · refine DrawG.pick (n := 6) (i := 14) (by decide +kernel) rfl (gS (v := (.sl 6 0 gJ.length 1 false)) (h' := [some ⟨22, l2.map (eL 1 (eI .u8))⟩, some ⟨5, cA.map (eI .u8)⟩, some ⟨42, (aO (eI .u8) msg [(eI .i64 (IntKind.i64.wrap ((IntKind.i64.wrap lock) - 1))), (eI .i64 (IntKind.i64.wrap lock))])⟩, some ⟨22, cG.map (eL 1 (eI .u8))⟩, some ⟨22, [[]].map (eL 1 (eI .u8))⟩, none, some ⟨22, gJ.map (eL 1 (eI .u8))⟩]) (cD rfl rfl h19 (bV rfl rfl (wD (E := (eL 1 (eI .u8))) cP bH ⟨rfl, rfl, zl⟩ (iU rfl rfl) rfl h_15 rfl rfl)))) <| DrawG.pick (n := 5) (i := 16) (by decide +kernel) rfl (gS (v := (.sl 7 0 cG.length 1 false)) (h' := [some ⟨22, l2.map (eL 1 (eI .u8))⟩, some ⟨5, cA.map (eI .u8)⟩, some ⟨42, (aO (eI .u8) msg [(eI .i64 (IntKind.i64.wrap ((IntKind.i64.wrap lock) - 1))), (eI .i64 (IntKind.i64.wrap lock))])⟩, some ⟨22, cG.map (eL 1 (eI .u8))⟩, some ⟨22, [[]].map (eL 1 (eI .u8))⟩, none, none, some ⟨22, cG.map (eL 1 (eI .u8))⟩]) (cD rfl rfl h19 (bV rfl rfl (pY (E := (eL 1 (eI .u8))) rfl cP bH ⟨rfl, rfl, zl⟩ rfl (iU rfl rfl) h_16 rfl rfl)))) ?_
                          exact DrawG.jg (by decide +kernel) (by decide +kernel) (zG [1, 7]) J
                  · refine DrawG.fork (n := 17) [5, 6, 8] (by decide +kernel) (by decide) ?_
                    refine (Fork.cons rfl (gS (v := (.sl 9 0 gJ.length 1 false)) (h' := [some ⟨22, l2.map (eL 1 (eI .u8))⟩, some ⟨42, (aO (eI .u8) msg [(eI .i64 (IntKind.i64.wrap lock)), (eI .i64 (IntKind.i64.wrap lock))])⟩, some ⟨5, x99.1.map (eI .u8)⟩, some ⟨5, eU.map (eI .u8)⟩, some ⟨5, gF.map (eI .u8)⟩, some ⟨5, gE.map (eI .u8)⟩, some ⟨5, cA.map (eI .u8)⟩, some ⟨42, (aO (eI .u8) msg [(eI .i64 (IntKind.i64.wrap ((IntKind.i64.wrap lock) - 1))), (eI .i64 (IntKind.i64.wrap lock))])⟩, none, some ⟨22, gJ.map (eL 1 (eI .u8))⟩]) (cD rfl rfl h14 (bV rfl rfl (wD (E := (eL 1 (eI .u8))) cP bH ⟨rfl, rfl, zl⟩ (iU rfl rfl) rfl h_15 rfl rfl)))) ?_ (Fork.cons rfl (gS (v := (.sl 8 0 1 1 false)) (h' := [some ⟨22, l2.map (eL 1 (eI .u8))⟩, some ⟨42, (aO (eI .u8) msg [(eI .i64 (IntKind.i64.wrap lock)), (eI .i64 (IntKind.i64.wrap lock))])⟩, some ⟨5, x99.1.map (eI .u8)⟩, some ⟨5, eU.map (eI .u8)⟩, some ⟨5, gF.map (eI .u8)⟩, some ⟨5, gE.map (eI .u8)⟩, some ⟨5, cA.map (eI .u8)⟩, some ⟨42, (aO (eI .u8) msg [(eI .i64 (IntKind.i64.wrap ((IntKind.i64.wrap lock) - 1))), (eI .i64 (IntKind.i64.wrap lock))])⟩, some ⟨22, [[]].map (eL 1 (eI .u8))⟩]) (cD rfl rfl h14 (dH rfl (nZ (P := Tryz.prog) (xs := [[]].map (eL 1 (eI .u8))) cP bH zl zl rfl rfl rfl rfl rfl rfl rfl)))) ?_ (Fork.cons rfl (gS (v := (.agg (aO (eI .u8) msg [(eI .i64 (IntKind.i64.wrap lock)), (eI .i64 (IntKind.i64.wrap lock))]))) (cD rfl rfl h14 (bA rfl (tH rfl (jI (ds := (aO (eI .u8) msg [(eI .i64 (IntKind.i64.wrap lock)), (eI .i64 (IntKind.i64.wrap lock))])) jQ rfl zl rfl))))) ?_ Fork.nil)))
                    · refine DrawG.pick (n := 16) (i := 6) (by decide +kernel) rfl (gS (v := (.sl 10 0 1 1 false)) (h' := [some ⟨22, l2.map (eL 1 (eI .u8))⟩, some ⟨42, (aO (eI .u8) msg [(eI .i64 (IntKind.i64.wrap lock)), (eI .i64 (IntKind.i64.wrap lock))])⟩, some ⟨5, x99.1.map (eI .u8)⟩, some ⟨5, eU.map (eI .u8)⟩, some ⟨5, gF.map (eI .u8)⟩, some ⟨5, gE.map (eI .u8)⟩, some ⟨5, cA.map (eI .u8)⟩, some ⟨42, (aO (eI .u8) msg [(eI .i64 (IntKind.i64.wrap ((IntKind.i64.wrap lock) - 1))), (eI .i64 (IntKind.i64.wrap lock))])⟩, none, some ⟨22, gJ.map (eL 1 (eI .u8))⟩, some ⟨22, [[]].map (eL 1 (eI .u8))⟩]) (cD rfl rfl h14 (dH rfl (nZ (P := Tryz.prog) (xs := [[]].map (eL 1 (eI .u8))) cP bH zl zl rfl rfl rfl rfl rfl rfl rfl)))) ?_
                      refine DrawG.fork (n := 15) [7, 8] (by decide +kernel) (by decide) ?_
                      refine (Fork.cons rfl (gS (v := (.sl 11 0 cG.length 1 false)) (h' := [some ⟨22, l2.map (eL 1 (eI .u8))⟩, some ⟨42, (aO (eI .u8) msg [(eI .i64 (IntKind.i64.wrap lock)), (eI .i64 (IntKind.i64.wrap lock))])⟩, some ⟨5, x99.1.map (eI .u8)⟩, some ⟨5, eU.map (eI .u8)⟩, some ⟨5, gF.map (eI .u8)⟩, some ⟨5, gE.map (eI .u8)⟩, some ⟨5, cA.map (eI .u8)⟩, some ⟨42, (aO (eI .u8) msg [(eI .i64 (IntKind.i64.wrap ((IntKind.i64.wrap lock) - 1))), (eI .i64 (IntKind.i64.wrap lock))])⟩, none, none, some ⟨22, [[]].map (eL 1 (eI .u8))⟩, some ⟨22, cG.map (eL 1 (eI .u8))⟩]) (cD rfl rfl h14 (bV rfl rfl (pY (E := (eL 1 (eI .u8))) rfl cP bH ⟨rfl, rfl, zl⟩ rfl (iU rfl rfl) h_16 rfl rfl)))) ?_ (Fork.cons rfl (gS (v := (.agg (aO (eI .u8) msg [(eI .i64 (IntKind.i64.wrap lock)), (eI .i64 (IntKind.i64.wrap lock))]))) (cD rfl rfl h14 (bA rfl (tH rfl (jI (ds := (aO (eI .u8) msg [(eI .i64 (IntKind.i64.wrap lock)), (eI .i64 (IntKind.i64.wrap lock))])) jQ rfl zl rfl))))) ?_ Fork.nil))
                      · refine DrawG.pick (n := 14) (i := 8) (by decide +kernel) rfl (gS (v := (.agg (aO (eI .u8) msg [(eI .i64 (IntKind.i64.wrap lock)), (eI .i64 (IntKind.i64.wrap lock))]))) (cD rfl rfl h14 (bA rfl (tH rfl (jI (ds := (aO (eI .u8) msg [(eI .i64 (IntKind.i64.wrap lock)), (eI .i64 (IntKind.i64.wrap lock))])) jQ rfl zl rfl))))) ?_
                        exact DrawG.jg (by decide +kernel) (by decide +kernel) (zG [0, 6, 7, 11]) J
                      · refine DrawG.pick (n := 14) (i := 7) (by decide +kernel) rfl (gS (v := (.sl 11 0 cG.length 1 false)) (h' := [some ⟨22, l2.map (eL 1 (eI .u8))⟩, some ⟨42, (aO (eI .u8) msg [(eI .i64 (IntKind.i64.wrap lock)), (eI .i64 (IntKind.i64.wrap lock))])⟩, some ⟨5, x99.1.map (eI .u8)⟩, some ⟨5, eU.map (eI .u8)⟩, some ⟨5, gF.map (eI .u8)⟩, some ⟨5, gE.map (eI .u8)⟩, some ⟨5, cA.map (eI .u8)⟩, some ⟨42, (aO (eI .u8) msg [(eI .i64 (IntKind.i64.wrap ((IntKind.i64.wrap lock) - 1))), (eI .i64 (IntKind.i64.wrap lock))])⟩, none, none, some ⟨22, [[]].map (eL 1 (eI .u8))⟩, some ⟨22, cG.map (eL 1 (eI .u8))⟩]) (cD rfl rfl h14 (bV rfl rfl (pY (E := (eL 1 (eI .u8))) rfl cP bH ⟨rfl, rfl, zl⟩ rfl (iU rfl rfl) h_16 rfl rfl)))) ?_
                        exact DrawG.jg (by decide +kernel) (by decide +kernel) (zG [0, 6, 7, 11]) J
                    · refine DrawG.pick (n := 16) (i := 5) (by decide +kernel) rfl (gS (v := (.sl 10 0 gJ.length 1 false)) (h' := [some ⟨22, l2.map (eL 1 (eI .u8))⟩, some ⟨42, (aO (eI .u8) msg [(eI .i64 (IntKind.i64.wrap lock)), (eI .i64 (IntKind.i64.wrap lock))])⟩, some ⟨5, x99.1.map (eI .u8)⟩, some ⟨5, eU.map (eI .u8)⟩, some ⟨5, gF.map (eI .u8)⟩, some ⟨5, gE.map (eI .u8)⟩, some ⟨5, cA.map (eI .u8)⟩, some ⟨42, (aO (eI .u8) msg [(eI .i64 (IntKind.i64.wrap ((IntKind.i64.wrap lock) - 1))), (eI .i64 (IntKind.i64.wrap lock))])⟩, some ⟨22, [[]].map (eL 1 (eI .u8))⟩, none, some ⟨22, gJ.map (eL 1 (eI .u8))⟩]) (cD rfl rfl h14 (bV rfl rfl (wD (E := (eL 1 (eI .u8))) cP bH ⟨rfl, rfl, zl⟩ (iU rfl rfl) rfl h_15 rfl rfl)))) ?_
                      refine DrawG.fork (n := 15) [7, 8] (by decide +kernel) (by decide) ?_
                      refine (Fork.cons rfl (gS (v := (.sl 11 0 cG.length 1 false)) (h' := [some ⟨22, l2.map (eL 1 (eI .u8))⟩, some ⟨42, (aO (eI .u8) msg [(eI .i64 (IntKind.i64.wrap lock)), (eI .i64 (IntKind.i64.wrap lock))])⟩, some ⟨5, x99.1.map (eI .u8)⟩, some ⟨5, eU.map (eI .u8)⟩, some ⟨5, gF.map (eI .u8)⟩, some ⟨5, gE.map (eI .u8)⟩, some ⟨5, cA.map (eI .u8)⟩, some ⟨42, (aO (eI .u8) msg [(eI .i64 (IntKind.i64.wrap ((IntKind.i64.wrap lock) - 1))), (eI .i64 (IntKind.i64.wrap lock))])⟩, some ⟨22, [[]].map (eL 1 (eI .u8))⟩, none, none, some ⟨22, cG.map (eL 1 (eI .u8))⟩]) (cD rfl rfl h14 (bV rfl rfl (pY (E := (eL 1 (eI .u8))) rfl cP bH ⟨rfl, rfl, zl⟩ rfl (iU rfl rfl) h_16 rfl rfl)))) ?_ (Fork.cons rfl (gS (v := (.agg (aO (eI .u8) msg [(eI .i64 (IntKind.i64.wrap lock)), (eI .i64 (IntKind.i64.wrap lock))]))) (cD rfl rfl h14 (bA rfl (tH rfl (jI (ds := (aO (eI .u8) msg [(eI .i64 (IntKind.i64.wrap lock)), (eI .i64 (IntKind.i64.wrap lock))])) jQ rfl zl rfl))))) ?_ Fork.nil))
                      · refine DrawG.pick (n := 14) (i := 8) (by decide +kernel) rfl (gS (v := (.agg (aO (eI .u8) msg [(eI .i64 (IntKind.i64.wrap lock)), (eI .i64 (IntKind.i64.wrap lock))]))) (cD rfl rfl h14 (bA rfl (tH rfl (jI (ds := (aO (eI .u8) msg [(eI .i64 (IntKind.i64.wrap lock)), (eI .i64 (IntKind.i64.wrap lock))])) jQ rfl zl rfl))))) ?_
                        exact DrawG.jg (by decide +kernel) (by decide +kernel) (zG [0, 6, 7, 11]) J
                      · refine DrawG.pick (n := 14) (i := 7) (by decide +kernel) rfl (gS (v := (.sl 11 0 cG.length 1 false)) (h' := [some ⟨22, l2.map (eL 1 (eI .u8))⟩, some ⟨42, (aO (eI .u8) msg [(eI .i64 (IntKind.i64.wrap lock)), (eI .i64 (IntKind.i64.wrap lock))])⟩, some ⟨5, x99.1.map (eI .u8)⟩, some ⟨5, eU.map (eI .u8)⟩, some ⟨5, gF.map (eI .u8)⟩, some ⟨5, gE.map (eI .u8)⟩, some ⟨5, cA.map (eI .u8)⟩, some ⟨42, (aO (eI .u8) msg [(eI .i64 (IntKind.i64.wrap ((IntKind.i64.wrap lock) - 1))), (eI .i64 (IntKind.i64.wrap lock))])⟩, some ⟨22, [[]].map (eL 1 (eI .u8))⟩, none, none, some ⟨22, cG.map (eL 1 (eI .u8))⟩]) (cD rfl rfl h14 (bV rfl rfl (pY (E := (eL 1 (eI .u8))) rfl cP bH ⟨rfl, rfl, zl⟩ rfl (iU rfl rfl) h_16 rfl rfl)))) ?_
                        exact DrawG.jg (by decide +kernel) (by decide +kernel) (zG [0, 6, 7, 11]) J
                    · refine DrawG.fork (n := 16) [5, 6] (by decide +kernel) (by decide) ?_
                      refine (Fork.cons rfl (gS (v := (.sl 9 0 gJ.length 1 false)) (h' := [some ⟨22, l2.map (eL 1 (eI .u8))⟩, some ⟨42, (aO (eI .u8) msg [(eI .i64 (IntKind.i64.wrap lock)), (eI .i64 (IntKind.i64.wrap lock))])⟩, some ⟨5, x99.1.map (eI .u8)⟩, some ⟨5, eU.map (eI .u8)⟩, some ⟨5, gF.map (eI .u8)⟩, some ⟨5, gE.map (eI .u8)⟩, some ⟨5, cA.map (eI .u8)⟩, some ⟨42, (aO (eI .u8) msg [(eI .i64 (IntKind.i64.wrap ((IntKind.i64.wrap lock) - 1))), (eI .i64 (IntKind.i64.wrap lock))])⟩, none, some ⟨22, gJ.map (eL 1 (eI .u8))⟩]) (cD rfl rfl h14 (bV rfl rfl (wD (E := (eL 1 (eI .u8))) cP bH ⟨rfl, rfl, zl⟩ (iU rfl rfl) rfl h_15 rfl rfl)))) ?_ (Fork.cons rfl (gS (v := (.sl 8 0 1 1 false)) (h' := [some ⟨22, l2.map (eL 1 (eI .u8))⟩, some ⟨42, (aO (eI .u8) msg [(eI .i64 (IntKind.i64.wrap lock)), (eI .i64 (IntKind.i64.wrap lock))])⟩, some ⟨5, x99.1.map (eI .u8)⟩, some ⟨5, eU.map (eI .u8)⟩, some ⟨5, gF.map (eI .u8)⟩, some ⟨5, gE.map (eI .u8)⟩, some ⟨5, cA.map (eI .u8)⟩, some ⟨42, (aO (eI .u8) msg [(eI .i64 (IntKind.i64.wrap ((IntKind.i64.wrap lock) - 1))), (eI .i64 (IntKind.i64.wrap lock))])⟩, some ⟨22, [[]].map (eL 1 (eI .u8))⟩]) (cD rfl rfl h14 (dH rfl (nZ (P := Tryz.prog) (xs := [[]].map (eL 1 (eI .u8))) cP bH zl zl rfl rfl rfl rfl rfl rfl rfl)))) ?_ Fork.nil))
                      · refine DrawG.pick (n := 15) (i := 6) (by decide +kernel) rfl (gS (v := (.sl 10 0 1 1 false)) (h' := [some ⟨22, l2.map (eL 1 (eI .u8))⟩, some ⟨42, (aO (eI .u8) msg [(eI .i64 (IntKind.i64.wrap lock)), (eI .i64 (IntKind.i64.wrap lock))])⟩, some ⟨5, x99.1.map (eI .u8)⟩, some ⟨5, eU.map (eI .u8)⟩, some ⟨5, gF.map (eI .u8)⟩, some ⟨5, gE.map (eI .u8)⟩, some ⟨5, cA.map (eI .u8)⟩, some ⟨42, (aO (eI .u8) msg [(eI .i64 (IntKind.i64.wrap ((IntKind.i64.wrap lock) - 1))), (eI .i64 (IntKind.i64.wrap lock))])⟩, none, some ⟨22, gJ.map (eL 1 (eI .u8))⟩, some ⟨22, [[]].map (eL 1 (eI .u8))⟩]) (cD rfl rfl h14 (dH rfl (nZ (P := Tryz.prog) (xs := [[]].map (eL 1 (eI .u8))) cP bH zl zl rfl rfl rfl rfl rfl rfl rfl)))) ?_
                        refine DrawG.pick (n := 14) (i := 7) (by decide +kernel) rfl (gS (v := (.sl 11 0 cG.length 1 false)) (h' := [some ⟨22, l2.map (eL 1 (eI .u8))⟩, some ⟨42, (aO (eI .u8) msg [(eI .i64 (IntKind.i64.wrap lock)), (eI .i64 (IntKind.i64.wrap lock))])⟩, some ⟨5, x99.1.map (eI .u8)⟩, some ⟨5, eU.map (eI .u8)⟩, some ⟨5, gF.map (eI .u8)⟩, some ⟨5, gE.map (eI .u8)⟩, some ⟨5, cA.map (eI .u8)⟩, some ⟨42, (aO (eI .u8) msg [(eI .i64 (IntKind.i64.wrap ((IntKind.i64.wrap lock) - 1))), (eI .i64 (IntKind.i64.wrap lock))])⟩, none, none, some ⟨22, [[]].map (eL 1 (eI .u8))⟩, some ⟨22, cG.map (eL 1 (eI .u8))⟩]) (cD rfl rfl h14 (bV rfl rfl (pY (E := (eL 1 (eI .u8))) rfl cP bH ⟨rfl, rfl, zl⟩ rfl (iU rfl rfl) h_16 rfl rfl)))) ?_
                        exact DrawG.jg (by decide +kernel) (by decide +kernel) (zG [0, 6, 7, 11]) J
                      · refine DrawG.pick (n := 15) (i := 5) (by decide +kernel) rfl (gS (v := (.sl 10 0 gJ.length 1 false)) (h' := [some ⟨22, l2.map (eL 1 (eI .u8))⟩, some ⟨42, (aO (eI .u8) msg [(eI .i64 (IntKind.i64.wrap lock)), (eI .i64 (IntKind.i64.wrap lock))])⟩, some ⟨5, x99.1.map (eI .u8)⟩, some ⟨5, eU.map (eI .u8)⟩, some ⟨5, gF.map (eI .u8)⟩, some ⟨5, gE.map (eI .u8)⟩, some ⟨5, cA.map (eI .u8)⟩, some ⟨42, (aO (eI .u8) msg [(eI .i64 (IntKind.i64.wrap ((IntKind.i64.wrap lock) - 1))), (eI .i64 (IntKind.i64.wrap lock))])⟩, some ⟨22, [[]].map (eL 1 (eI .u8))⟩, none, some ⟨22, gJ.map (eL 1 (eI .u8))⟩]) (cD rfl rfl h14 (bV rfl rfl (wD (E := (eL 1 (eI .u8))) cP bH ⟨rfl, rfl, zl⟩ (iU rfl rfl) rfl h_15 rfl rfl)))) ?_
                        refine DrawG.pick (n := 14) (i := 7) (by decide +kernel) rfl (gS (v := (.sl 11 0 cG.length 1 false)) (h' := [some ⟨22, l2.map (eL 1 (eI .u8))⟩, some ⟨42, (aO (eI .u8) msg [(eI .i64 (IntKind.i64.wrap lock)), (eI .i64 (IntKind.i64.wrap lock))])⟩, some ⟨5, x99.1.map (eI .u8)⟩, some ⟨5, eU.map (eI .u8)⟩, some ⟨5, gF.map (eI .u8)⟩, some ⟨5, gE.map (eI .u8)⟩, some ⟨5, cA.map (eI .u8)⟩, some ⟨42, (aO (eI .u8) msg [(eI .i64 (IntKind.i64.wrap ((IntKind.i64.wrap lock) - 1))), (eI .i64 (IntKind.i64.wrap lock))])⟩, some ⟨22, [[]].map (eL 1 (eI .u8))⟩, none, none, some ⟨22, cG.map (eL 1 (eI .u8))⟩]) (cD rfl rfl h14 (bV rfl rfl (pY (E := (eL 1 (eI .u8))) rfl cP bH ⟨rfl, rfl, zl⟩ rfl (iU rfl rfl) h_16 rfl rfl)))) ?_
                        exact DrawG.jg (by decide +kernel) (by decide +kernel) (zG [0, 6, 7, 11]) J
                · replace hr := fQ hr h19
                  refine AB.rd (dN []) (dN [11]) mixed <| DrawG.pick (n := 22) (i := 0) (by decide +kernel) rfl (gS (v := (eI .i64 vn)) (sv (fC rfl))) <| DrawG.pick (n := 21) (i := 1) (by decide +kernel) rfl (gS (v := (eB (vn == 0))) (sv (qC rfl rfl (wK ..)))) <| DrawG.pick (n := 20) (i := 2) (by decide +kernel) rfl (gS (v := (eB (vn == 0))) (sv (fC rfl))) <| DrawG.pick (n := 19) (i := 3) (by decide +kernel) rfl (gS (v := (.sl 6 0 cA.length 1 false)) (cD rfl rfl h14 (fC rfl))) <| DrawG.pick (n := 18) (i := 4) (by decide +kernel) rfl (gS (v := (.sl 0 0 l2.length 1 false)) (cD rfl rfl h14 (fC rfl))) ?_
                  refine DrawG.jn (m := 14) (L := lst [0, 1, 2, 3, 4, 5, 6, 7, 8] 23) (s1 := aG 154 [(10, (.sl 0 0 l2.length 1 false)), (24, (.sl 1 0 cA.length 1 false)), (25, (.ptr 2 0)), (134, (eB (vn == 0))), (135, (.sl 1 0 cA.length 1 false)), (139, (.sl 3 0 cG.length 1 false)), (140, (.agg (aO (eI .u8) msg [(eI .i64 (IntKind.i64.wrap lock)), (eI .i64 (IntKind.i64.wrap lock))])))]) (h1 := [some ⟨22, l2.map (eL 1 (eI .u8))⟩, some ⟨5, cA.map (eI .u8)⟩, some ⟨42, (aO (eI .u8) msg [(eI .i64 (IntKind.i64.wrap ((IntKind.i64.wrap lock) - 1))), (eI .i64 (IntKind.i64.wrap lock))])⟩, some ⟨22, cG.map (eL 1 (eI .u8))⟩]) ?_ (fun J => ?_)
                  · refine DrawG.pick (n := 13) (i := 9) (by decide +kernel) rfl (gC (v := (eI .i64 wO)) (h' := [some ⟨22, l2.map (eL 1 (eI .u8))⟩, some ⟨5, cA.map (eI .u8)⟩, some ⟨42, (aO (eI .u8) msg [(eI .i64 (IntKind.i64.wrap ((IntKind.i64.wrap lock) - 1))), (eI .i64 (IntKind.i64.wrap lock))])⟩, some ⟨22, cG.map (eL 1 (eI .u8))⟩]) (zL (m8 h_17) [] [1, 3]) rfl (fun _ => ⟨[], by simp⟩) (cD rfl rfl h14 (d6 rfl gL))) <| DrawG.pick (n := 12) (i := 10) (by decide +kernel) rfl (gS (v := (eB (wO == 0))) (cD rfl rfl h14 (qC rfl rfl (wK ..)))) <| DrawG.pick (n := 11) (i := 11) (by decide +kernel) rfl (gS (v := (eB (wO == 0))) (cD rfl rfl h14 (fC rfl))) ?_
                    refine DrawG.pick (n := 10) (i := 12) (by decide +kernel) rfl (gS (bK rfl rfl h19)) <| DrawG.pick (n := 9) (i := 13) (by decide +kernel) rfl (gS (bK rfl rfl h19)) <| DrawG.fork (n := 8) [14, 15, 17] (by decide +kernel) (by decide) ?_
                    refine (Fork.cons rfl (gS (bK rfl rfl h19)) ?_ (Fork.cons rfl (gS (bK rfl rfl h19)) ?_ (Fork.cons rfl (gS (bK rfl rfl h19)) ?_ Fork.nil)))
                    · refine DrawG.pick (n := 7) (i := 15) (by decide +kernel) rfl (gS (bK rfl rfl h19)) <| DrawG.fork (n := 6) [16, 17] (by decide +kernel) (by decide) ?_
                      refine (Fork.cons rfl (gS (bK rfl rfl h19)) ?_ (Fork.cons rfl (gS (bK rfl rfl h19)) ?_ Fork.nil))
                      · refine DrawG.pick (n := 5) (i := 17) (by decide +kernel) rfl (gS (bK rfl rfl h19)) <| DrawG.pick (n := 4) (i := 18) (by decide +kernel) rfl (gS (bK rfl rfl h19)) <| DrawG.pick (n := 3) (i := 19) (by decide +kernel) rfl (gS (bK rfl rfl h19)) <| DrawG.pick (n := 2) (i := 20) (by decide +kernel) rfl (gS (v := (eB false)) (cD rfl rfl h14 (k8 rfl h19 rfl))) <| DrawG.pick (n := 1) (i := 21) (by decide +kernel) rfl (gS (v := (eB false)) (sv (k8 rfl h14 rfl))) <| DrawG.pick (n := 0) (i := 22) (by decide +kernel) rfl (gS (v := (eB false)) (sv (bB rfl))) <| DrawG.nil (by decide +kernel) ?_
                        refine zz ?_
                        exact hG4 _ _ _ _ (zG []) (J4 false hr)
                      · refine DrawG.pick (n := 5) (i := 16) (by decide +kernel) rfl (gS (bK rfl rfl h19)) <| DrawG.pick (n := 4) (i := 18) (by decide +kernel) rfl (gS (bK rfl rfl h19)) <| DrawG.pick (n := 3) (i := 19) (by decide +kernel) rfl (gS (bK rfl rfl h19)) <| DrawG.pick (n := 2) (i := 20) (by decide +kernel) rfl (gS (v := (eB false)) (cD rfl rfl h14 (k8 rfl h19 rfl))) <| DrawG.pick (n := 1) (i := 21) (by decide +kernel) rfl (gS (v := (eB false)) (sv (k8 rfl h14 rfl))) <| DrawG.pick (n := 0) (i := 22) (by decide +kernel) rfl (gS (v := (eB false)) (sv (bB rfl))) <| DrawG.nil (by decide +kernel) ?_
                        refine zz ?_
                        exact hG4 _ _ _ _ (zG []) (J4 false hr)
                    · refine DrawG.pick (n := 7) (i := 14) (by decide +kernel) rfl (gS (bK rfl rfl h19)) <| DrawG.fork (n := 6) [16, 17] (by decide +kernel) (by decide) ?_
                      refine (Fork.cons rfl (gS (bK rfl rfl h19)) ?_ (Fork.cons rfl (gS (bK rfl rfl h19)) ?_ Fork.nil))
                      · refine DrawG.pick (n := 5) (i := 17) (by decide +kernel) rfl (gS (bK rfl rfl h19)) <| DrawG.pick (n := 4) (i := 18) (by decide +kernel) rfl (gS (bK rfl rfl h19)) <| DrawG.pick (n := 3) (i := 19) (by decide +kernel) rfl (gS (bK rfl rfl h19)) <| DrawG.pick (n := 2) (i := 20) (by decide +kernel) rfl (gS (v := (eB false)) (cD rfl rfl h14 (k8 rfl h19 rfl))) <| DrawG.pick (n := 1) (i := 21) (by decide +kernel) rfl (gS (v := (eB false)) (sv (k8 rfl h14 rfl))) <| DrawG.pick (n := 0) (i := 22) (by decide +kernel) rfl (gS (v := (eB false)) (sv (bB rfl))) <| DrawG.nil (by decide +kernel) ?_
                        refine zz ?_
                        exact hG4 _ _ _ _ (zG []) (J4 false hr)
                      · refine DrawG.pick (n := 5) (i := 16) (by decide +kernel) rfl (gS (bK rfl rfl h19)) <| DrawG.pick (n := 4) (i := 18) (by decide +kernel) rfl (gS (bK rfl rfl h19)) <| DrawG.pick (n := 3) (i := 19) (by decide +kernel) rfl (gS (bK rfl rfl h19)) <| DrawG.pick (n := 2) (i := 20) (by decide +kernel) rfl (gS (v := (eB false)) (cD rfl rfl h14 (k8 rfl h19 rfl))) <| DrawG.pick (n := 1) (i := 21) (by decide +kernel) rfl (gS (v := (eB false)) (sv (k8 rfl h14 rfl))) <| DrawG.pick (n := 0) (i := 22) (by decide +kernel) rfl (gS (v := (eB false)) (sv (bB rfl))) <| DrawG.nil (by decide +kernel) ?_
                        refine zz ?_
                        exact hG4 _ _ _ _ (zG []) (J4 false hr)
                    · refine DrawG.fork (n := 7) [14, 15] (by decide +kernel) (by decide) ?_
                      refine (Fork.cons rfl (gS (bK rfl rfl h19)) ?_ (Fork.cons rfl (gS (bK rfl rfl h19)) ?_ Fork.nil))
                      · refine DrawG.pick (n := 6) (i := 15) (by decide +kernel) rfl (gS (bK rfl rfl h19)) <| DrawG.pick (n := 5) (i := 16) (by decide +kernel) rfl (gS (bK rfl rfl h19)) <| DrawG.pick (n := 4) (i := 18) (by decide +kernel) rfl (gS (bK rfl rfl h19)) <| DrawG.pick (n := 3) (i := 19) (by decide +kernel) rfl (gS (bK rfl rfl h19)) <| DrawG.pick (n := 2) (i := 20) (by decide +kernel) rfl (gS (v := (eB false)) (cD rfl rfl h14 (k8 rfl h19 rfl))) <| DrawG.pick (n := 1) (i := 21) (by decide +kernel) rfl (gS (v := (eB false)) (sv (k8 rfl h14 rfl))) <| DrawG.pick (n := 0) (i := 22) (by decide +kernel) rfl (gS (v := (eB false)) (sv (bB rfl))) ?_
                        refine DrawG.nil (by decide +kernel) ?_
                        refine zz ?_
                        exact hG4 _ _ _ _ (zG []) (J4 false hr)
                      · refine DrawG.pick (n := 6) (i := 14) (by decide +kernel) rfl (gS (bK rfl rfl h19)) <| DrawG.pick (n := 5) (i := 16) (by decide +kernel) rfl (gS (bK rfl rfl h19)) <| DrawG.pick (n := 4) (i := 18) (by decide +kernel) rfl (gS (bK rfl rfl h19)) <| DrawG.pick (n := 3) (i := 19) (by decide +kernel) rfl (gS (bK rfl rfl h19)) <| DrawG.pick (n := 2) (i := 20) (by decide +kernel) rfl (gS (v := (eB false)) (cD rfl rfl h14 (k8 rfl h19 rfl))) <| DrawG.pick (n := 1) (i := 21) (by decide +kernel) rfl (gS (v := (eB false)) (sv (k8 rfl h14 rfl))) <| DrawG.pick (n := 0) (i := 22) (by decide +kernel) rfl (gS (v := (eB false)) (sv (bB rfl))) ?_
                        refine DrawG.nil (by decide +kernel) ?_
                        refine zz ?_
                        exact hG4 _ _ _ _ (zG []) (J4 false hr)
                  · refine DrawG.fork (n := 17) [5, 6, 8] (by decide +kernel) (by decide) ?_
                    refine (Fork.cons rfl (gS (v := (.sl 9 0 gJ.length 1 false)) (h' := [some ⟨22, l2.map (eL 1 (eI .u8))⟩, some ⟨42, (aO (eI .u8) msg [(eI .i64 (IntKind.i64.wrap lock)), (eI .i64 (IntKind.i64.wrap lock))])⟩, some ⟨5, x99.1.map (eI .u8)⟩, some ⟨5, eU.map (eI .u8)⟩, some ⟨5, gF.map (eI .u8)⟩, some ⟨5, gE.map (eI .u8)⟩, some ⟨5, cA.map (eI .u8)⟩, some ⟨42, (aO (eI .u8) msg [(eI .i64 (IntKind.i64.wrap ((IntKind.i64.wrap lock) - 1))), (eI .i64 (IntKind.i64.wrap lock))])⟩, none, some ⟨22, gJ.map (eL 1 (eI .u8))⟩]) (cD rfl rfl h14 (bV rfl rfl (wD (E := (eL 1 (eI .u8))) cP bH ⟨rfl, rfl, zl⟩ (iU rfl rfl) rfl h_15 rfl rfl)))) ?_ (Fork.cons rfl (gS (v := (.sl 8 0 1 1 false)) (h' := [some ⟨22, l2.map (eL 1 (eI .u8))⟩, some ⟨42, (aO (eI .u8) msg [(eI .i64 (IntKind.i64.wrap lock)), (eI .i64 (IntKind.i64.wrap lock))])⟩, some ⟨5, x99.1.map (eI .u8)⟩, some ⟨5, eU.map (eI .u8)⟩, some ⟨5, gF.map (eI .u8)⟩, some ⟨5, gE.map (eI .u8)⟩, some ⟨5, cA.map (eI .u8)⟩, some ⟨42, (aO (eI .u8) msg [(eI .i64 (IntKind.i64.wrap ((IntKind.i64.wrap lock) - 1))), (eI .i64 (IntKind.i64.wrap lock))])⟩, some ⟨22, [[]].map (eL 1 (eI .u8))⟩]) (cD rfl rfl h14 (dH rfl (nZ (P := Tryz.prog) (xs := [[]].map (eL 1 (eI .u8))) cP bH zl zl rfl rfl rfl rfl rfl rfl rfl)))) ?_ (Fork.cons rfl (gS (v := (.agg (aO (eI .u8) msg [(eI .i64 (IntKind.i64.wrap lock)), (eI .i64 (IntKind.i64.wrap lock))]))) (cD rfl rfl h14 (bA rfl (tH rfl (jI (ds := (aO (eI .u8) msg [(eI .i64 (IntKind.i64.wrap lock)), (eI .i64 (IntKind.i64.wrap lock))])) jQ rfl zl rfl))))) ?_ Fork.nil)))
                    · refine DrawG.pick (n := 16) (i := 6) (by decide +kernel) rfl (gS (v := (.sl 10 0 1 1 false)) (h' := [some ⟨22, l2.map (eL 1 (eI .u8))⟩, some ⟨42, (aO (eI .u8) msg [(eI .i64 (IntKind.i64.wrap lock)), (eI .i64 (IntKind.i64.wrap lock))])⟩, some ⟨5, x99.1.map (eI .u8)⟩, some ⟨5, eU.map (eI .u8)⟩, some ⟨5, gF.map (eI .u8)⟩, some ⟨5, gE.map (eI .u8)⟩, some ⟨5, cA.map (eI .u8)⟩, some ⟨42, (aO (eI .u8) msg [(eI .i64 (IntKind.i64.wrap ((IntKind.i64.wrap lock) - 1))), (eI .i64 (IntKind.i64.wrap lock))])⟩, none, some ⟨22, gJ.map (eL 1 (eI .u8))⟩, some ⟨22, [[]].map (eL 1 (eI .u8))⟩]) (cD rfl rfl h14 (dH rfl (nZ (P := Tryz.prog) (xs := [[]].map (eL 1 (eI .u8))) cP bH zl zl rfl rfl rfl rfl rfl rfl rfl)))) ?_
                      refine DrawG.fork (n := 15) [7, 8] (by decide +kernel) (by decide) ?_
                      refine (Fork.cons rfl (gS (v := (.sl 11 0 cG.length 1 false)) (h' := [some ⟨22, l2.map (eL 1 (eI .u8))⟩, some ⟨42, (aO (eI .u8) msg [(eI .i64 (IntKind.i64.wrap lock)), (eI .i64 (IntKind.i64.wrap lock))])⟩, some ⟨5, x99.1.map (eI .u8)⟩, some ⟨5, eU.map (eI .u8)⟩, some ⟨5, gF.map (eI .u8)⟩, some ⟨5, gE.map (eI .u8)⟩, some ⟨5, cA.map (eI .u8)⟩, some ⟨42, (aO (eI .u8) msg [(eI .i64 (IntKind.i64.wrap ((IntKind.i64.wrap lock) - 1))), (eI .i64 (IntKind.i64.wrap lock))])⟩, none, none, some ⟨22, [[]].map (eL 1 (eI .u8))⟩, some ⟨22, cG.map (eL 1 (eI .u8))⟩]) (cD rfl rfl h14 (bV rfl rfl (pY (E := (eL 1 (eI .u8))) rfl cP bH ⟨rfl, rfl, zl⟩ rfl (iU rfl rfl) h_16 rfl rfl)))) ?_ (Fork.cons rfl (gS (v := (.agg (aO (eI .u8) msg [(eI .i64 (IntKind.i64.wrap lock)), (eI .i64 (IntKind.i64.wrap lock))]))) (cD rfl rfl h14 (bA rfl (tH rfl (jI (ds := (aO (eI .u8) msg [(eI .i64 (IntKind.i64.wrap lock)), (eI .i64 (IntKind.i64.wrap lock))])) jQ rfl zl rfl))))) ?_ Fork.nil))
                      · refine DrawG.pick (n := 14) (i := 8) (by decide +kernel) rfl (gS (v := (.agg (aO (eI .u8) msg [(eI .i64 (IntKind.i64.wrap lock)), (eI .i64 (IntKind.i64.wrap lock))]))) (cD rfl rfl h14 (bA rfl (tH rfl (jI (ds := (aO (eI .u8) msg [(eI .i64 (IntKind.i64.wrap lock)), (eI .i64 (IntKind.i64.wrap lock))])) jQ rfl zl rfl))))) ?_
                        exact DrawG.jg (by decide +kernel) (by decide +kernel) (zG [0, 6, 7, 11]) J
                      · refine DrawG.pick (n := 14) (i := 7) (by decide +kernel) rfl (gS (v := (.sl 11 0 cG.length 1 false)) (h' := [some ⟨22, l2.map (eL 1 (eI .u8))⟩, some ⟨42, (aO (eI .u8) msg [(eI .i64 (IntKind.i64.wrap lock)), (eI .i64 (IntKind.i64.wrap lock))])⟩, some ⟨5, x99.1.map (eI .u8)⟩, some ⟨5, eU.map (eI .u8)⟩, some ⟨5, gF.map (eI .u8)⟩, some ⟨5, gE.map (eI .u8)⟩, some ⟨5, cA.map (eI .u8)⟩, some ⟨42, (aO (eI .u8) msg [(eI .i64 (IntKind.i64.wrap ((IntKind.i64.wrap lock) - 1))), (eI .i64 (IntKind.i64.wrap lock))])⟩, none, none, some ⟨22, [[]].map (eL 1 (eI .u8))⟩, some ⟨22, cG.map (eL 1 (eI .u8))⟩]) (cD rfl rfl h14 (bV rfl rfl (pY (E := (eL 1 (eI .u8))) rfl cP bH ⟨rfl, rfl, zl⟩ rfl (iU rfl rfl) h_16 rfl rfl)))) ?_
                        exact DrawG.jg (by decide +kernel) (by decide +kernel) (zG [0, 6, 7, 11]) J
                    · refine DrawG.pick (n := 16) (i := 5) (by decide +kernel) rfl (gS (v := (.sl 10 0 gJ.length 1 false)) (h' := [some ⟨22, l2.map (eL 1 (eI .u8))⟩, some ⟨42, (aO (eI .u8) msg [(eI .i64 (IntKind.i64.wrap lock)), (eI .i64 (IntKind.i64.wrap lock))])⟩, some ⟨5, x99.1.map (eI .u8)⟩, some ⟨5, eU.map (eI .u8)⟩, some ⟨5, gF.map (eI .u8)⟩, some ⟨5, gE.map (eI .u8)⟩, some ⟨5, cA.map (eI .u8)⟩, some ⟨42, (aO (eI .u8) msg [(eI .i64 (IntKind.i64.wrap ((IntKind.i64.wrap lock) - 1))), (eI .i64 (IntKind.i64.wrap lock))])⟩, some ⟨22, [[]].map (eL 1 (eI .u8))⟩, none, some ⟨22, gJ.map (eL 1 (eI .u8))⟩]) (cD rfl rfl h14 (bV rfl rfl (wD (E := (eL 1 (eI .u8))) cP bH ⟨rfl, rfl, zl⟩ (iU rfl rfl) rfl h_15 rfl rfl)))) ?_
                      refine DrawG.fork (n := 15) [7, 8] (by decide +kernel) (by decide) ?_
                      refine (Fork.cons rfl (gS (v := (.sl 11 0 cG.length 1 false)) (h' := [some ⟨22, l2.map (eL 1 (eI .u8))⟩, some ⟨42, (aO (eI .u8) msg [(eI .i64 (IntKind.i64.wrap lock)), (eI .i64 (IntKind.i64.wrap lock))])⟩, some ⟨5, x99.1.map (eI .u8)⟩, some ⟨5, eU.map (eI .u8)⟩, some ⟨5, gF.map (eI .u8)⟩, some ⟨5, gE.map (eI .u8)⟩, some ⟨5, cA.map (eI .u8)⟩, some ⟨42, (aO (eI .u8) msg [(eI .i64 (IntKind.i64.wrap ((IntKind.i64.wrap lock) - 1))), (eI .i64 (IntKind.i64.wrap lock))])⟩, some ⟨22, [[]].map (eL 1 (eI .u8))⟩, none, none, some ⟨22, cG.map (eL 1 (eI .u8))⟩]) (cD rfl rfl h14 (bV rfl rfl (pY (E := (eL 1 (eI .u8))) rfl cP bH ⟨rfl, rfl, zl⟩ rfl (iU rfl rfl) h_16 rfl rfl)))) ?_ (Fork.cons rfl (gS (v := (.agg (aO (eI .u8) msg [(eI .i64 (IntKind.i64.wrap lock)), (eI .i64 (IntKind.i64.wrap lock))]))) (cD rfl rfl h14 (bA rfl (tH rfl (jI (ds := (aO (eI .u8) msg [(eI .i64 (IntKind.i64.wrap lock)), (eI .i64 (IntKind.i64.wrap lock))])) jQ rfl zl rfl))))) ?_ Fork.nil))
                      · refine DrawG.pick (n := 14) (i := 8) (by decide +kernel) rfl (gS (v := (.agg (aO (eI .u8) msg [(eI .i64 (IntKind.i64.wrap lock)), (eI .i64 (IntKind.i64.wrap lock))]))) (cD rfl rfl h14 (bA rfl (tH rfl (jI (ds := (aO (eI .u8) msg [(eI .i64 (IntKind.i64.wrap lock)), (eI .i64 (IntKind.i64.wrap lock))])) jQ rfl zl rfl))))) ?_
                        exact DrawG.jg (by decide +kernel) (by decide +kernel) (zG [0, 6, 7, 11]) J
                      · refine DrawG.pick (n := 14) (i := 7) (by decide +kernel) rfl (gS (v := (.sl 11 0 cG.length 1 false)) (h' := [some ⟨22, l2.map (eL 1 (eI .u8))⟩, some ⟨42, (aO (eI .u8) msg [(eI .i64 (IntKind.i64.wrap lock)), (eI .i64 (IntKind.i64.wrap lock))])⟩, some ⟨5, x99.1.map (eI .u8)⟩, some ⟨5, eU.map (eI .u8)⟩, some ⟨5, gF.map (eI .u8)⟩, some ⟨5, gE.map (eI .u8)⟩, some ⟨5, cA.map (eI .u8)⟩, some ⟨42, (aO (eI .u8) msg [(eI .i64 (IntKind.i64.wrap ((IntKind.i64.wrap lock) - 1))), (eI .i64 (IntKind.i64.wrap lock))])⟩, some ⟨22, [[]].map (eL 1 (eI .u8))⟩, none, none, some ⟨22, cG.map (eL 1 (eI .u8))⟩]) (cD rfl rfl h14 (bV rfl rfl (pY (E := (eL 1 (eI .u8))) rfl cP bH ⟨rfl, rfl, zl⟩ rfl (iU rfl rfl) h_16 rfl rfl)))) ?_
                        exact DrawG.jg (by decide +kernel) (by decide +kernel) (zG [0, 6, 7, 11]) J
                    · refine DrawG.fork (n := 16) [5, 6] (by decide +kernel) (by decide) ?_
                      refine (Fork.cons rfl (gS (v := (.sl 9 0 gJ.length 1 false)) (h' := [some ⟨22, l2.map (eL 1 (eI .u8))⟩, some ⟨42, (aO (eI .u8) msg [(eI .i64 (IntKind.i64.wrap lock)), (eI .i64 (IntKind.i64.wrap lock))])⟩, some ⟨5, x99.1.map (eI .u8)⟩, some ⟨5, eU.map (eI .u8)⟩, some ⟨5, gF.map (eI .u8)⟩, some ⟨5, gE.map (eI .u8)⟩, some ⟨5, cA.map (eI .u8)⟩, some ⟨42, (aO (eI .u8) msg [(eI .i64 (IntKind.i64.wrap ((IntKind.i64.wrap lock) - 1))), (eI .i64 (IntKind.i64.wrap lock))])⟩, none, some ⟨22, gJ.map (eL 1 (eI .u8))⟩]) (cD rfl rfl h14 (bV rfl rfl (wD (E := (eL 1 (eI .u8))) cP bH ⟨rfl, rfl, zl⟩ (iU rfl rfl) rfl h_15 rfl rfl)))) ?_ (Fork.cons rfl (gS (v := (.sl 8 0 1 1 false)) (h' := [some ⟨22, l2.map (eL 1 (eI .u8))⟩, some ⟨42, (aO (eI .u8) msg [(eI .i64 (IntKind.i64.wrap lock)), (eI .i64 (IntKind.i64.wrap lock))])⟩, some ⟨5, x99.1.map (eI .u8)⟩, some ⟨5, eU.map (eI .u8)⟩, some ⟨5, gF.map (eI .u8)⟩, some ⟨5, gE.map (eI .u8)⟩, some ⟨5, cA.map (eI .u8)⟩, some ⟨42, (aO (eI .u8) msg [(eI .i64 (IntKind.i64.wrap ((IntKind.i64.wrap lock) - 1))), (eI .i64 (IntKind.i64.wrap lock))])⟩, some ⟨22, [[]].map (eL 1 (eI .u8))⟩]) (cD rfl rfl h14 (dH rfl (nZ (P := Tryz.prog) (xs := [[]].map (eL 1 (eI .u8))) cP bH zl zl rfl rfl rfl rfl rfl rfl rfl)))) ?_ Fork.nil))
                      · refine DrawG.pick (n := 15) (i := 6) (by decide +kernel) rfl (gS (v := (.sl 10 0 1 1 false)) (h' := [some ⟨22, l2.map (eL 1 (eI .u8))⟩, some ⟨42, (aO (eI .u8) msg [(eI .i64 (IntKind.i64.wrap lock)), (eI .i64 (IntKind.i64.wrap lock))])⟩, some ⟨5, x99.1.map (eI .u8)⟩, some ⟨5, eU.map (eI .u8)⟩, some ⟨5, gF.map (eI .u8)⟩, some ⟨5, gE.map (eI .u8)⟩, some ⟨5, cA.map (eI .u8)⟩, some ⟨42, (aO (eI .u8) msg [(eI .i64 (IntKind.i64.wrap ((IntKind.i64.wrap lock) - 1))), (eI .i64 (IntKind.i64.wrap lock))])⟩, none, some ⟨22, gJ.map (eL 1 (eI .u8))⟩, some ⟨22, [[]].map (eL 1 (eI .u8))⟩]) (cD rfl rfl h14 (dH rfl (nZ (P := Tryz.prog) (xs := [[]].map (eL 1 (eI .u8))) cP bH zl zl rfl rfl rfl rfl rfl rfl rfl)))) ?_
                        refine DrawG.pick (n := 14) (i := 7) (by decide +kernel) rfl (gS (v := (.sl 11 0 cG.length 1 false)) (h' := [some ⟨22, l2.map (eL 1 (eI .u8))⟩, some ⟨42, (aO (eI .u8) msg [(eI .i64 (IntKind.i64.wrap lock)), (eI .i64 (IntKind.i64.wrap lock))])⟩, some ⟨5, x99.1.map (eI .u8)⟩, some ⟨5, eU.map (eI .u8)⟩, some ⟨5, gF.map (eI .u8)⟩, some ⟨5, gE.map (eI .u8)⟩, some ⟨5, cA.map (eI .u8)⟩, some ⟨42, (aO (eI .u8) msg [(eI .i64 (IntKind.i64.wrap ((IntKind.i64.wrap lock) - 1))), (eI .i64 (IntKind.i64.wrap lock))])⟩, none, none, some ⟨22, [[]].map (eL 1 (eI .u8))⟩, some ⟨22, cG.map (eL 1 (eI .u8))⟩]) (cD rfl rfl h14 (bV rfl rfl (pY (E := (eL 1 (eI .u8))) rfl cP bH ⟨rfl, rfl, zl⟩ rfl (iU rfl rfl) h_16 rfl rfl)))) ?_
                        exact DrawG.jg (by decide +kernel) (by decide +kernel) (zG [0, 6, 7, 11]) J
                      · refine DrawG.pick (n := 15) (i := 5) (by decide +kernel) rfl (gS (v := (.sl 10 0 gJ.length 1 false)) (h' := [some ⟨22, l2.map (eL 1 (eI .u8))⟩, some ⟨42, (aO (eI .u8) msg [(eI .i64 (IntKind.i64.wrap lock)), (eI .i64 (IntKind.i64.wrap lock))])⟩, some ⟨5, x99.1.map (eI .u8)⟩, some ⟨5, eU.map (eI .u8)⟩, some ⟨5, gF.map (eI .u8)⟩, some ⟨5, gE.map (eI .u8)⟩, some ⟨5, cA.map (eI .u8)⟩, some ⟨42, (aO (eI .u8) msg [(eI .i64 (IntKind.i64.wrap ((IntKind.i64.wrap lock) - 1))), (eI .i64 (IntKind.i64.wrap lock))])⟩, some ⟨22, [[]].map (eL 1 (eI .u8))⟩, none, some ⟨22, gJ.map (eL 1 (eI .u8))⟩]) (cD rfl rfl h14 (bV rfl rfl (wD (E := (eL 1 (eI .u8))) cP bH ⟨rfl, rfl, zl⟩ (iU rfl rfl) rfl h_15 rfl rfl)))) ?_
                        refine DrawG.pick (n := 14) (i := 7) (by decide +kernel) rfl (gS (v := (.sl 11 0 cG.length 1 false)) (h' := [some ⟨22, l2.map (eL 1 (eI .u8))⟩, some ⟨42, (aO (eI .u8) msg [(eI .i64 (IntKind.i64.wrap lock)), (eI .i64 (IntKind.i64.wrap lock))])⟩, some ⟨5, x99.1.map (eI .u8)⟩, some ⟨5, eU.map (eI .u8)⟩, some ⟨5, gF.map (eI .u8)⟩, some ⟨5, gE.map (eI .u8)⟩, some ⟨5, cA.map (eI .u8)⟩, some ⟨42, (aO (eI .u8) msg [(eI .i64 (IntKind.i64.wrap ((IntKind.i64.wrap lock) - 1))), (eI .i64 (IntKind.i64.wrap lock))])⟩, some ⟨22, [[]].map (eL 1 (eI .u8))⟩, none, none, some ⟨22, cG.map (eL 1 (eI .u8))⟩]) (cD rfl rfl h14 (bV rfl rfl (pY (E := (eL 1 (eI .u8))) rfl cP bH ⟨rfl, rfl, zl⟩ rfl (iU rfl rfl) h_16 rfl rfl)))) ?_
                        exact DrawG.jg (by decide +kernel) (by decide +kernel) (zG [0, 6, 7, 11]) J
          rcases Bool.eq_false_or_eq_true (x99.2 != 0) with h22 | h22
          · replace hr := fM hr h22
            refine xr ?_
            refine zz ?_
            exact hG3 _ _ _ _ (zG [2, 3, 4]) (J3 true hr)
          · replace hr := fQ hr h22
            obtain ⟨aB7, h_23, hr⟩ := aA hr
            refine xr ?_
            refine zz ?_
            refine xCg (v := (eI .i64 aB7)) (h' := [some ⟨24, msg.map (eI .u8)⟩, none, some ⟨22, l2.map (eL 1 (eI .u8))⟩, some ⟨42, (aO (eI .u8) msg [(eI .i64 (IntKind.i64.wrap lock)), (eI .i64 (IntKind.i64.wrap lock))])⟩, some ⟨5, x99.1.map (eI .u8)⟩]) rfl rfl h22 rfl (zL (m8 h_23) [] [4, 2]) ?_
            refine zz ?_
            refine xSg rfl rfl h22 (qC rfl rfl (aKK _ _ ti4 ..)) ?_
            refine zz ?_
            exact hG3 _ _ _ _ (zG [2, 3, 4]) (J3 ((aB7 == 0) != (decide (0 < vn))) hr)
        obtain ⟨res5, hL5, hr⟩ := aA hr
        refine zz ?_
        refine AB.block <| AB.loopN (fun m s h => ∃ (fW : Int) (x79 : Int), cR N msg lock l1 l2 m fW x79 = some res5 ∧ Ghost 0 s h (aG 154 [(3, (eI .u16 lock)), (6, (.ptr 0 0)), (9, (.sl 1 0 l1.length 4 true)), (10, (.sl 2 0 l2.length 1 false)), (17, (eI .i64 fW)), (77, (.sl 2 0 l2.length 1 false)), (78, (eI .i64 (l2.length : Int))), (79, (eI .i64 x79))]) [some ⟨24, msg.map (eI .u8)⟩, some ⟨31, l1.flatMap (uP (eI .u64))⟩, some ⟨22, l2.map (eL 1 (eI .u8))⟩]) (n := N) ⟨0, 0, hL5, (zG [0, 1, 2])⟩ (by rintro s h ⟨_, _, h0, _⟩; simp [cR] at h0) ?_
        rintro m5 s h ⟨fW, x79, hr5, hg⟩
        refine AB.ghost hg ?_
        clear hg hL5
        rw [cR] at hr5
        refine zz ?_
        refine AB.seq ?_
        refine zk hr5 rfl (fun h24 hr5 => ?_) (fun h24 hr5 => ?_)
        · refine zz ?_
          refine AB.seq_g fun K6 hK6 hG6 => ?_
          have J6 : ∀ (xZ : Int), i7 N msg lock l1 l2 x79 (cR N msg lock l1 l2 m5) xZ = some res5 → K6 (aG 154 [(3, (eI .u16 lock)), (6, (.ptr 0 0)), (9, (.sl 1 0 l1.length 4 true)), (10, (.sl 2 0 l2.length 1 false)), (17, (eI .i64 xZ)), (77, (.sl 2 0 l2.length 1 false)), (78, (eI .i64 (l2.length : Int))), (79, (eI .i64 x79))]) [some ⟨24, msg.map (eI .u8)⟩, some ⟨31, l1.flatMap (uP (eI .u64))⟩, some ⟨22, l2.map (eL 1 (eI .u8))⟩] := by
            intro xZ hr5
            unfold i7 at hr5
            refine hK6 _ _ ?_
            refine zz ?_
            exact ⟨xZ, IntKind.i64.wrap (x79 + 1), hr5, (zG [0, 1, 2])⟩
          refine AB.block ?_
          obtain ⟨x81, h_25, hr5⟩ := aA hr5
          refine zz ?_
          refine zk hr5 rfl (fun h26 hr5 => ?_) (fun h26 hr5 => ?_)
          · refine zz ?_
            exact hG6 _ _ _ _ (zG [0, 1, 2]) (J6 (IntKind.i64.wrap (fW + 1)) hr5)
          · refine zz ?_
            exact hG6 _ _ _ _ (zG [0, 1, 2]) (J6 fW hr5)
        · refine zz ?_
          obtain rfl := sj hr5
          refine zz ?_
          exact hG2 _ _ _ _ (zG [0, 1, 2]) (J2 fW hr)
    obtain ⟨res7, hL7, hr⟩ := aA hr
    refine zz ?_
    refine AB.block <| AB.loopN (fun m s h => ∃ (vi : Int) (c5 : List (List Int)) (cX : List (List Int)), cH N dS vm msg lock m vi c5 cX = some res7 ∧ Ghost 0 s h (aG 154 [(0, (.row none 1 (dS.map (eI .u8)))), (1, (eI .u8 vm)), (3, (eI .u16 lock)), (6, (.ptr 0 0)), (9, (.sl 1 0 c5.length 4 true)), (10, (.sl 2 0 cX.length 1 false)), (11, (eI .i64 vi))]) [some ⟨24, msg.map (eI .u8)⟩, some ⟨31, c5.flatMap (uP (eI .u64))⟩, some ⟨22, cX.map (eL 1 (eI .u8))⟩]) (n := N) ⟨0, [], [], hL7, (Ghost.trans (Ghost.virt (fr' := [(0, (.row none 1 (dS.map (eI .u8)))), (1, (eI .u8 vm)), (3, (eI .u16 lock)), (6, (.ptr 0 0)), (9, (.sl 1 0 0 4 true)), (10, (.row (some true) 1 [])), (11, (eI .i64 0))]) (h1 := [some ⟨24, msg.map (eI .u8)⟩]) 31 (FLe.same rfl (FLe.same rfl (FLe.same rfl (FLe.same rfl (FLe.le rfl (V.le_virt rfl) (FLe.same rfl (FLe.same rfl FLe.nil))))))) (HLv.live (V.les_refl _ _) (all_map (fun _ => rfl) _) HLv.nil)) (zW 22 [0, 1, 2]))⟩ (by rintro s h ⟨_, _, _, h0, _⟩; simp [cH] at h0) ?_
    rintro m7 s h ⟨vi, c5, cX, hr7, hg⟩
    refine AB.ghost hg ?_
    clear hg hL7
    rw [cH] at hr7
    refine AB.seq ?_
    refine AB.seq_g fun K8 hK8 hG8 => ?_
    have J8 : ∀ (x35 : Bool), iZ N dS vm msg lock vi c5 cX (cH N dS vm msg lock m7) x35 = some res7 → K8 (aG 154 [(0, (.row none 1 (dS.map (eI .u8)))), (1, (eI .u8 vm)), (3, (eI .u16 lock)), (6, (.ptr 0 0)), (9, (.sl 1 0 c5.length 4 true)), (10, (.sl 2 0 cX.length 1 false)), (11, (eI .i64 vi)), (35, (eB x35))]) [some ⟨24, msg.map (eI .u8)⟩, some ⟨31, c5.flatMap (uP (eI .u64))⟩, some ⟨22, cX.map (eL 1 (eI .u8))⟩] := by
      intro x35 hr7
      unfold iZ at hr7
      refine hK8 _ _ ?_
      refine zk hr7 rfl (fun h27 hr7 => ?_) (fun h27 hr7 => ?_)
      · refine zz ?_
        refine AB.seq_g fun K9 hK9 hG9 => ?_
        have J9 : ∀ (cO : List (List Int)) (eE : List (List Int)), fZ N dS vm msg lock vi (cH N dS vm msg lock m7) cO eE = some res7 → K9 (aG 154 [(0, (.row none 1 (dS.map (eI .u8)))), (1, (eI .u8 vm)), (3, (eI .u16 lock)), (6, (.ptr 0 0)), (9, (.sl 1 0 cO.length 4 true)), (10, (.sl 2 0 eE.length 1 false)), (11, (eI .i64 vi))]) [some ⟨24, msg.map (eI .u8)⟩, some ⟨31, cO.flatMap (uP (eI .u64))⟩, some ⟨22, eE.map (eL 1 (eI .u8))⟩] := by
          intro cO eE hr7
          unfold fZ at hr7
          refine hK9 _ _ ?_
          refine zz ?_
          exact ⟨IntKind.i64.wrap (vi + 1), cO, eE, hr7, (zG [0, 1, 2])⟩
        refine AB.block ?_
        obtain ⟨x40, h_28, hr7⟩ := aA hr7
        obtain ⟨x44, h_29, hr7⟩ := aA hr7
        obtain ⟨q_3, h_30, hr7⟩ := aA hr7
        refine zz ?_
        refine xw (v := (.agg ([0, 0, 0, 1, 0, 0, 0, 0, 0, 0, 0, 0, 0, 0, 0, 0, 0, 0, 0, 0, 0, 0, 0, 0, 0, 0, 0, 0, 0, 0, 0, IntKind.u8.wrap (x40 + 1)].map (eI .u8)))) (cB rfl (k4 s8 jC rfl)) <| xp (k9 h_29) ?_
        obtain ⟨x47, h_31, hr7⟩ := aA hr7
        obtain ⟨q_4, h_32, hr7⟩ := aA hr7
        refine zz ?_
        refine xp (z7 h_31) ?_
        obtain ⟨q_5, h_33, hr7⟩ := aA hr7
        obtain ⟨x53, h_34, hr7⟩ := aA hr7
        refine zz ?_
        refine xp (aFB h_34) ?_
        refine zz ?_
        refine xw (v := (.ptr 5 0)) (h' := [some ⟨24, msg.map (eI .u8)⟩, some ⟨31, c5.flatMap (uP (eI .u64))⟩, some ⟨22, cX.map (eL 1 (eI .u8))⟩, some ⟨31, x44.map (eI .u64)⟩, some ⟨31, x47.1.map (eI .u64)⟩, some ⟨37, (dG (eI .u64) (List.replicate 4 0) (dG (eI .u64) (List.replicate 4 0) []))⟩]) (eK uD rfl rfl rfl) ?_
        obtain ⟨x59, h_35, hr7⟩ := aA hr7
        refine zz ?_
        refine xw (v := (.sl 6 0 1 4 true)) (h' := [some ⟨24, msg.map (eI .u8)⟩, some ⟨31, c5.flatMap (uP (eI .u64))⟩, some ⟨22, cX.map (eL 1 (eI .u8))⟩, some ⟨31, x44.map (eI .u64)⟩, some ⟨31, x47.1.map (eI .u64)⟩, some ⟨37, (dG (eI .u64) x53.1 (dG (eI .u64) x53.2.1 []))⟩, some ⟨31, [x47.1].flatMap (uP (eI .u64))⟩]) (dH rfl (aLc (ps' := [(0, .agg (uP (eI .u64) x47.1))]) (by simp only [aGA, uP, uS (l := x47.1) (aQ h_32)]) (aBh (len := 1) (C := (uP (eI .u64))) (xs := [x47.1]) (K := 4) (fun _ => rfl) (fun _ => rfl) aNy bE ⟨zl, zl, zl⟩ rfl rfl rfl rfl rfl rfl))) ?_
        obtain ⟨x62, h_36, hr7⟩ := aA hr7
        refine zz ?_
        refine zk hr7 rfl (fun h37 hr7 => ?_) (fun h37 hr7 => ?_)
        · obtain ⟨x68, h_38, hr7⟩ := aA hr7
          obtain ⟨x70, h_39, hr7⟩ := aA hr7
          refine zz ?_
          refine xp (aDD h_38) ?_
          refine zz ?_
          exact hG9 _ _ _ _ (zG [0, 7, 9]) (J9 x59 x70 hr7)
        · obtain ⟨x73, h_40, hr7⟩ := aA hr7
          refine zz ?_
          refine xw (v := (.sl 8 0 1 1 false)) (h' := [some ⟨24, msg.map (eI .u8)⟩, none, some ⟨22, cX.map (eL 1 (eI .u8))⟩, some ⟨31, x44.map (eI .u64)⟩, some ⟨31, x47.1.map (eI .u64)⟩, some ⟨37, (dG (eI .u64) x53.1 (dG (eI .u64) x53.2.1 []))⟩, some ⟨31, [x47.1].flatMap (uP (eI .u64))⟩, some ⟨31, x59.flatMap (uP (eI .u64))⟩, some ⟨22, [[]].map (eL 1 (eI .u8))⟩]) (dH rfl (nZ (P := Tryz.prog) (xs := [[]].map (eL 1 (eI .u8))) cP bH zl zl rfl rfl rfl rfl rfl rfl rfl)) ?_
          refine zz ?_
          exact hG9 _ _ _ _ (zG [0, 7, 9]) (J9 x59 x73 hr7)
      · refine zz ?_
        obtain rfl := sj hr7
        refine zz ?_
        exact hG1 _ _ _ _ (zG [0, 1, 2]) (J1 c5 cX hr)
    rcases Bool.eq_false_or_eq_true (decide (vi < (dS.length : Int))) with h41 | h41
    · replace hr7 := fM hr7 h41
      refine xr ?_
      refine zz ?_
      exact hG8 _ _ _ _ (zG [0, 1, 2]) (J8 (decide (vi < 3)) hr7)
    · replace hr7 := fQ hr7 h41
      refine xr ?_
      refine zz ?_
      exact hG8 _ _ _ _ (zG [0, 1, 2]) (J8 false hr7)
end Go.Proofs.YtnoklhehodlkaaaGreatDoor
set_option linter.unusedVariables false
set_option linter.unusedSimpArgs false
set_option maxRecDepth 20000
set_option maxHeartbeats 1000000
namespace Go.Proofs.YtnoklhehodlkaaaGreatDoor
open Go Go.Vm
end Go.Proofs.YtnoklhehodlkaaaGreatDoor
