/- Texts of ours, joined: Wk1. -/
import Derived.Test.YtnoklhehodlkaaaGreatDoorQScriptSigned5
set_option linter.unusedVariables false
set_option linter.unusedSimpArgs false
set_option maxRecDepth 20000
set_option maxHeartbeats 1000000
namespace Go.Proofs.YtnoklhehodlkaaaGreatDoor
open Go Go.Vm
theorem z5 {N : Nat} {code : Int} {r : Bool} (hr : kT N code = some r) :
    Vm.Fn Tryz.prog 97 [] [(eI .i64 code)] (eB r) [] := by
  refine zf Tryz.func97 Tryz.ntmps97 ?_
  unfold kT at hr
  refine zz ?_
  refine AB.seq_g fun K1 hK1 hG1 => ?_
  have J1 : ∀ (x2 : Bool), nW N x2 = some r → K1 (aG 9 [(2, (eB x2))]) [] := by
    intro x2 hr
    unfold nW at hr
    refine hK1 _ _ ?_
    refine zz ?_
    obtain rfl := sj hr
    exact bO Tryz.results97 []
  rcases Bool.eq_false_or_eq_true (decide (1 ≤ code)) with h1 | h1
  · replace hr := fM hr h1
    refine xr ?_
    refine zz ?_
    exact hG1 _ _ _ _ (zG []) (J1 (decide (code ≤ 17)) hr)
  · replace hr := fQ hr h1
    refine xr ?_
    refine zz ?_
    exact hG1 _ _ _ _ (zG []) (J1 false hr)
theorem lM {N : Nat} {parts : List (List Int)} {r : (List Int)} (hr : iO N parts = some r) :
    Vm.Fn Tryz.prog 37 [] [(.row none 1 (parts.map (eL 1 (eI .u8))))] (.sl 0 0 r.length 1 false) [some ⟨5, r.map (eI .u8)⟩] := by
  refine zf Tryz.func37 Tryz.ntmps37 ?_
  unfold iO at hr
  refine zz ?_
  refine AB.seq_g fun K1 hK1 hG1 => ?_
  have J1 : ∀ (l0 : List Int), xW N l0 = some r → K1 (aG 17 [(3, (.sl 0 0 l0.length 1 false))]) [some ⟨5, l0.map (eI .u8)⟩] := by
    intro l0 hr
    unfold xW at hr
    refine hK1 _ _ ?_
    refine zz ?_
    obtain rfl := sj hr
    exact bO Tryz.results37 [0]
  obtain ⟨bD, hL2, hr⟩ := aA hr
  refine zz ?_
  refine AB.block <| AB.loopN (fun m s h => ∃ (x8 : Int) (aS : List Int), j8 N parts m x8 aS = some bD ∧ Ghost 0 s h (aG 17 [(3, (.sl 0 0 aS.length 1 false)), (6, (.row none 1 (parts.map (eL 1 (eI .u8))))), (7, (eI .i64 (parts.length : Int))), (8, (eI .i64 x8))]) [some ⟨5, aS.map (eI .u8)⟩]) (n := N) ⟨0, [], hL2, (zW 5 [0])⟩ (by rintro s h ⟨_, _, h0, _⟩; simp [j8] at h0) ?_
  rintro m2 s h ⟨x8, aS, hr2, hg⟩
  refine AB.ghost hg ?_
  clear hg hL2
  rw [j8] at hr2
  refine zz ?_
  refine AB.seq ?_
  refine zk hr2 rfl (fun h1 hr2 => ?_) (fun h1 hr2 => ?_)
  · refine zz ?_
    refine AB.seq <| AB.block ?_
    obtain ⟨bS, h_2, hr2⟩ := aA hr2
    obtain ⟨aZ, h_3, hr2⟩ := aA hr2
    refine zz ?_
    exact ⟨IntKind.i64.wrap (x8 + 1), aZ, hr2, (zG [1])⟩
  · refine zz ?_
    obtain rfl := sj hr2
    refine zz ?_
    exact hG1 _ _ _ _ (zG [0]) (J1 aS hr)
theorem yE {N : Nat} {vm : Int} {vn : Int} {r : Bool} (hr : l8 N vm vn = some r) :
    Vm.Fn Tryz.prog 98 [] [(eI .i64 vm), (eI .i64 vn)] (eB r) [] := by
  refine zf Tryz.func98 Tryz.ntmps98 ?_
  unfold l8 at hr
  refine zz ?_
  refine AB.seq_g fun K1 hK1 hG1 => ?_
  have J1 : ∀ (x4 : Bool), gZ N x4 = some r → K1 (aG 20 [(4, (eB x4))]) [] := by
    intro x4 hr
    unfold gZ at hr
    refine hK1 _ _ ?_
    refine zz ?_
    obtain rfl := sj hr
    exact bO Tryz.results98 []
  rcases Bool.eq_false_or_eq_true (decide (1 ≤ vn)) with h1 | h1
  · replace hr := fM hr h1
    rcases Bool.eq_false_or_eq_true (decide (vn ≤ 15)) with h2 | h2
    · replace hr := fM hr h2
      rcases Bool.eq_false_or_eq_true (decide (1 ≤ vm)) with h3 | h3
      · replace hr := fM hr h3
        refine xr ?_
        refine zz ?_
        exact hG1 _ _ _ _ (zG []) (J1 (decide (vm ≤ vn)) hr)
      · replace hr := fQ hr h3
        refine xr ?_
        refine zz ?_
        exact hG1 _ _ _ _ (zG []) (J1 false hr)
    · replace hr := fQ hr h2
      refine xr ?_
      refine zz ?_
      refine xX rfl <| xX rfl <| xX rfl ?_
      refine zz ?_
      exact hG1 _ _ _ _ (zG []) (J1 false hr)
  · replace hr := fQ hr h1
    refine xr ?_
    refine zz ?_
    refine xX rfl <| xX rfl ?_
    refine zz ?_
    refine xX rfl <| xX rfl <| xX rfl ?_
    refine zz ?_
    exact hG1 _ _ _ _ (zG []) (J1 false hr)
theorem aEs {N : Nat} {b : List Int} {r : Int × (List Int) × Int × Int × (List Int) × Int} (hr : tR N b = some r) :
    Vm.Fn Tryz.prog 81 [] [(.row none 1 (b.map (eI .u8)))] (.tup [(.agg [(eI .i64 r.1), (.sl 0 0 r.2.1.length 1 false), (eI .i64 r.2.2.1), (eI .i64 r.2.2.2.1)]), (.row none 1 (r.2.2.2.2.1.map (eI .u8))), (eI .i64 r.2.2.2.2.2)]) [some ⟨5, r.2.1.map (eI .u8)⟩] := by
  refine zf Tryz.func81 Tryz.ntmps81 ?_
  unfold tR at hr
  obtain ⟨x8, h_1, hr⟩ := aA hr
  refine zz ?_
  refine AB.seq ?_
  obtain ⟨aZ, h_2, hr⟩ := aA hr
  refine zz ?_
  refine xp (z5 h_2) ?_
  refine zz ?_
  refine zk hr rfl (fun h3 hr => ?_) (fun h3 hr => ?_)
  · refine zz ?_
    obtain rfl := sj hr
    exact zr3 Tryz.results81 bC bC bC (zW 5 [2])
  · obtain ⟨x18, h_4, hr⟩ := aA hr
    refine zz ?_
    refine AB.seq_g fun K1 hK1 hG1 => ?_
    have J1 : ∀ (b_1 : List Int) (c1 : Int) (aGE : Int) (l2 : List Int), kE N x8 b_1 c1 aGE l2 = some r → K1 (aG 78 [(0, (.row none 1 (b_1.map (eI .u8)))), (2, (.ptr 0 0)), (5, (.ptr 1 0))]) [some ⟨85, [(eI .i64 0), (.row (some true) 1 []), (eI .i64 0), (eI .i64 0)]⟩, some ⟨85, [(eI .i64 (IntKind.i64.wrap x8)), (.sl 2 0 l2.length 1 false), (eI .i64 c1), (eI .i64 aGE)]⟩, some ⟨5, l2.map (eI .u8)⟩] := by
      intro b_1 c1 aGE l2 hr
      unfold kE at hr
      refine hK1 _ _ ?_
      refine zz ?_
      obtain rfl := sj hr
      exact zr3 Tryz.results81 bC bC bC (zG [2])
    refine zz ?_
    refine AB.block ?_
    refine zz ?_
    refine zk hr rfl (fun h5 hr => ?_) (fun h5 hr => ?_)
    · refine AB.seq ?_
      refine AB.seq_g fun K2 hK2 hG2 => ?_
      have J2 : ∀ (x35 : Bool), pK N x8 x18 x35 = some r → K2 (aG 78 [(0, (.row none 1 (x18.map (eI .u8)))), (2, (.ptr 0 0)), (5, (.ptr 1 0)), (35, (eB x35))]) [some ⟨85, [(eI .i64 0), (.row (some true) 1 []), (eI .i64 0), (eI .i64 0)]⟩, some ⟨85, [(eI .i64 (IntKind.i64.wrap x8)), (.row (some true) 1 []), (eI .i64 0), (eI .i64 0)]⟩] := by
        intro x35 hr
        unfold pK at hr
        refine hK2 _ _ ?_
        refine zk hr rfl (fun h6 hr => ?_) (fun h6 hr => ?_)
        · refine zz ?_
          obtain rfl := sj hr
          exact zr3 Tryz.results81 bC bC bC (zW 5 [2])
        · obtain ⟨x38, h_7, hr⟩ := aA hr
          obtain ⟨x44, h_8, hr⟩ := aA hr
          obtain ⟨x46, h_9, hr⟩ := aA hr
          obtain ⟨x49, h_11, hr⟩ := aA hr
          refine zz ?_
          refine AB.rd (dN []) (dN [37]) mixed <| DrawG.pick (n := 10) (i := 0) (by decide +kernel) rfl (gS (v := (.row none 1 (x18.map (eI .u8)))) (sv (fC rfl))) <| DrawG.pick (n := 9) (i := 1) (by decide +kernel) rfl (gS (v := (eI .i64 (IntKind.i64.wrap (1 + (IntKind.i64.wrap x38))))) (sv (fC rfl))) <| DrawG.pick (n := 8) (i := 2) (by decide +kernel) rfl (gS (v := (.row none 1 (x44.map (eI .u8)))) (sv (dU rfl rfl rfl (slR bH jC rfl rfl h_8)))) <| DrawG.pick (n := 7) (i := 3) (by decide +kernel) rfl (gS (v := (.sl 2 0 1 1 false)) (h' := [some ⟨85, [(eI .i64 0), (.row (some true) 1 []), (eI .i64 0), (eI .i64 0)]⟩, some ⟨85, [(eI .i64 (IntKind.i64.wrap x8)), (.row (some true) 1 []), (eI .i64 0), (eI .i64 0)]⟩, some ⟨22, [x44].map (eL 1 (eI .u8))⟩]) (sv (dH rfl (nZ (xs := [x44].map (eL 1 (eI .u8))) cP bH zl zl rfl rfl rfl rfl rfl rfl rfl)))) ?_
          refine DrawG.pick (n := 6) (i := 4) (by decide +kernel) rfl (gC (v := (.sl 3 0 x46.length 1 false)) (h' := [some ⟨85, [(eI .i64 0), (.row (some true) 1 []), (eI .i64 0), (eI .i64 0)]⟩, some ⟨85, [(eI .i64 (IntKind.i64.wrap x8)), (.row (some true) 1 []), (eI .i64 0), (eI .i64 0)]⟩, some ⟨22, [x44].map (eL 1 (eI .u8))⟩, some ⟨5, x46.map (eI .u8)⟩]) (zL (lM h_9) [] [2]) rfl (fun _ => ⟨_, rfl⟩) (sv (d6 rfl gL))) <| DrawG.pick (n := 5) (i := 5) (by decide +kernel) rfl (gS (v := (.row none 1 (x18.map (eI .u8)))) (sv (fC rfl))) <| DrawG.pick (n := 4) (i := 6) (by decide +kernel) rfl (gS (v := (eI .i64 (IntKind.i64.wrap (1 + (IntKind.i64.wrap x38))))) (sv (fC rfl))) ?_
          refine DrawG.pick (n := 3) (i := 8) (by decide +kernel) rfl (gS (v := (.ptr 1 1)) (sv (v9 rfl (aHT ..)))) ?_
          refine DrawG.jn (m := 1) (L := lst [0, 1, 2, 3, 4, 5, 6, 7, 8, 9] 11) (s1 := aG 78 [(0, (.row none 1 (x18.map (eI .u8)))), (2, (.ptr 0 0)), (5, (.ptr 1 0)), (49, (.row none 1 (x49.map (eI .u8))))]) (h1 := [some ⟨85, [(eI .i64 0), (.row (some true) 1 []), (eI .i64 0), (eI .i64 0)]⟩, some ⟨85, [(eI .i64 (IntKind.i64.wrap x8)), (.sl 2 0 x46.length 1 false), (eI .i64 0), (eI .i64 0)]⟩, some ⟨5, x46.map (eI .u8)⟩]) ?_ (fun J => ?_)
          · refine DrawG.pick (n := 0) (i := 10) (by decide +kernel) rfl (gS (v := (.row none 1 (x49.map (eI .u8)))) (sv (bB rfl))) <| DrawG.nil (by decide +kernel) ?_
            refine zz ?_
            exact hG1 _ _ _ _ (zG [0, 1, 2]) (J1 x49 0 0 x46 hr)
          · refine DrawG.fork (n := 2) [7, 9] (by decide +kernel) (by decide) ?_
            refine (Fork.cons rfl (gS (v := (.row none 1 (x49.map (eI .u8)))) (sv (dU rfl rfl rfl (slR bH jC rfl rfl h_11)))) ?_ (Fork.cons rfl (gN (h' := [some ⟨85, [(eI .i64 0), (.row (some true) 1 []), (eI .i64 0), (eI .i64 0)]⟩, some ⟨85, [(eI .i64 (IntKind.i64.wrap x8)), (.sl 3 0 x46.length 1 false), (eI .i64 0), (eI .i64 0)]⟩, some ⟨22, [x44].map (eL 1 (eI .u8))⟩, some ⟨5, x46.map (eI .u8)⟩]) (sv (bG rfl rfl (qH bH rfl rfl rfl zl rfl)))) ?_ Fork.nil))
            · refine DrawG.pick (n := 1) (i := 9) (by decide +kernel) rfl (gN (h' := [some ⟨85, [(eI .i64 0), (.row (some true) 1 []), (eI .i64 0), (eI .i64 0)]⟩, some ⟨85, [(eI .i64 (IntKind.i64.wrap x8)), (.sl 3 0 x46.length 1 false), (eI .i64 0), (eI .i64 0)]⟩, some ⟨22, [x44].map (eL 1 (eI .u8))⟩, some ⟨5, x46.map (eI .u8)⟩]) (sv (bG rfl rfl (qH bH rfl rfl rfl zl rfl)))) ?_
              exact DrawG.jg (by decide +kernel) (by decide +kernel) (zG [0, 1, 3]) J
            · refine DrawG.pick (n := 1) (i := 7) (by decide +kernel) rfl (gS (v := (.row none 1 (x49.map (eI .u8)))) (sv (dU rfl rfl rfl (slR bH jC rfl rfl h_11)))) ?_
              exact DrawG.jg (by decide +kernel) (by decide +kernel) (zG [0, 1, 3]) J
      rcases Bool.eq_false_or_eq_true ((x18.length : Int) == 0) with h12 | h12
      · replace hr := fM hr h12
        refine xr ?_
        refine zz ?_
        exact hG2 _ _ _ _ (zG [0, 1]) (J2 true hr)
      · replace hr := fQ hr h12
        obtain ⟨eV, h_13, hr⟩ := aA hr
        refine xr ?_
        refine zz ?_
        exact hG2 _ _ _ _ (zG [0, 1]) (J2 (decide ((IntKind.i64.wrap ((x18.length : Int) - 1)) < (IntKind.i64.wrap eV))) hr)
    · refine zz ?_
      refine zk hr rfl (fun h14 hr => ?_) (fun h14 hr => ?_)
      · refine AB.seq ?_
        refine zz ?_
        refine zk hr rfl (fun h15 hr => ?_) (fun h15 hr => ?_)
        · refine zz ?_
          obtain rfl := sj hr
          exact zr3 Tryz.results81 bC bC bC (zW 5 [2])
        · refine zz ?_
          refine AB.seq ?_
          obtain ⟨x58, h_16, hr⟩ := aA hr
          obtain ⟨x62, h_17, hr⟩ := aA hr
          obtain ⟨x66, h_18, hr⟩ := aA hr
          refine AB.rd (dN []) (dN []) mixed <| DrawG.pick (n := 14) (i := 0) (by decide +kernel) rfl (gS (v := (.row none 1 (x18.map (eI .u8)))) (sv (fC rfl))) <| DrawG.pick (n := 13) (i := 1) (by decide +kernel) rfl (gS (sv (aAn rfl rfl (iaR bH jC h_16)))) <| DrawG.pick (n := 12) (i := 2) (by decide +kernel) rfl (gS (v := (eI .u8 x58)) (sv (bA rfl (ldR h_16 (vS jC rfl rfl))))) <| DrawG.pick (n := 11) (i := 3) (by decide +kernel) rfl (gS (v := (eI .i64 (IntKind.i64.wrap x58))) (sv (qI rfl (oR _ ⟨_, jC⟩ gX rfl)))) <| DrawG.pick (n := 10) (i := 4) (by decide +kernel) rfl (gS (v := (.row none 1 (x18.map (eI .u8)))) (sv (fC rfl))) ?_
          refine DrawG.pick (n := 9) (i := 5) (by decide +kernel) rfl (gS (sv (aAn rfl rfl (iaR bH jC h_17)))) <| DrawG.pick (n := 8) (i := 8) (by decide +kernel) rfl (gS (v := (.row none 1 (x18.map (eI .u8)))) (sv (fC rfl))) <| DrawG.pick (n := 7) (i := 10) (by decide +kernel) rfl (gS (v := (.ptr 1 2)) (sv (v9 rfl (aHC ..)))) ?_
          refine DrawG.jn (m := 1) (L := lst [0, 1, 2, 3, 4, 5, 6, 7, 8, 9, 10, 11, 12, 13] 15) (s1 := aG 78 [(0, (.row none 1 (x18.map (eI .u8)))), (2, (.ptr 0 0)), (5, (.ptr 1 0)), (66, (.row none 1 (x66.map (eI .u8))))]) (h1 := [some ⟨85, [(eI .i64 0), (.row (some true) 1 []), (eI .i64 0), (eI .i64 0)]⟩, some ⟨85, [(eI .i64 (IntKind.i64.wrap x8)), (.row (some true) 1 []), (eI .i64 (IntKind.i64.wrap x58)), (eI .i64 (IntKind.i64.wrap x62))]⟩]) ?_ (fun J => ?_)
          · refine DrawG.pick (n := 0) (i := 14) (by decide +kernel) rfl (gS (v := (.row none 1 (x66.map (eI .u8)))) (sv (bB rfl))) <| DrawG.nil (by decide +kernel) ?_
            obtain ⟨x73, h_19, hr⟩ := aA hr
            refine zz ?_
            refine xp (yE h_19) ?_
            refine zz ?_
            refine zk hr rfl (fun h20 hr => ?_) (fun h20 hr => ?_)
            · refine zz ?_
              obtain rfl := sj hr
              exact zr3 Tryz.results81 bC bC bC (zW 5 [2])
            · refine zz ?_
              exact hG1 _ _ _ _ (Ghost.trans (Ghost.virt (fr' := [(0, (.row none 1 (x66.map (eI .u8)))), (2, (.ptr 0 0)), (5, (.ptr 1 0))]) (h1 := [some ⟨85, [(eI .i64 0), (.row (some true) 1 []), (eI .i64 0), (eI .i64 0)]⟩, some ⟨85, [(eI .i64 (IntKind.i64.wrap x8)), (.sl 2 0 0 1 false), (eI .i64 (IntKind.i64.wrap x58)), (eI .i64 (IntKind.i64.wrap x62))]⟩]) 5 (FLe.same rfl (FLe.same rfl (FLe.same rfl FLe.nil))) (HLv.live (V.les_refl _ _) rfl (HLv.live (V.les_cons (V.le_refl _ _) (V.les_cons (V.le_virt rfl) (V.les_cons (V.le_refl _ _) (V.les_cons (V.le_refl _ _) V.les_nil)))) rfl HLv.nil))) (rU [0, 1, 2])) (J1 x66 (IntKind.i64.wrap x58) (IntKind.i64.wrap x62) [] hr)
          · refine DrawG.fork (n := 6) [6, 9, 11] (by decide +kernel) (by decide) ?_
            refine (Fork.cons rfl (gS (v := (eI .u8 x62)) (sv (bA rfl (ldR h_17 (vS jC rfl rfl))))) ?_ (Fork.cons rfl (gS (v := (.row none 1 (x66.map (eI .u8)))) (sv (dU rfl rfl rfl (slR bH jC rfl rfl h_18)))) ?_ (Fork.cons rfl (gN (h' := [some ⟨85, [(eI .i64 0), (.row (some true) 1 []), (eI .i64 0), (eI .i64 0)]⟩, some ⟨85, [(eI .i64 (IntKind.i64.wrap x8)), (.row (some true) 1 []), (eI .i64 (IntKind.i64.wrap x58)), (eI .i64 0)]⟩]) (sv (bG rfl rfl (qH gX rfl rfl rfl zl rfl)))) ?_ Fork.nil)))
            · refine DrawG.fork (n := 5) [7, 9, 11] (by decide +kernel) (by decide) ?_
              refine (Fork.cons rfl (gS (v := (eI .i64 (IntKind.i64.wrap x62))) (sv (qI rfl (oR _ ⟨_, jC⟩ gX rfl)))) ?_ (Fork.cons rfl (gS (v := (.row none 1 (x66.map (eI .u8)))) (sv (dU rfl rfl rfl (slR bH jC rfl rfl h_18)))) ?_ (Fork.cons rfl (gN (h' := [some ⟨85, [(eI .i64 0), (.row (some true) 1 []), (eI .i64 0), (eI .i64 0)]⟩, some ⟨85, [(eI .i64 (IntKind.i64.wrap x8)), (.row (some true) 1 []), (eI .i64 (IntKind.i64.wrap x58)), (eI .i64 0)]⟩]) (sv (bG rfl rfl (qH gX rfl rfl rfl zl rfl)))) ?_ Fork.nil)))
              · refine DrawG.fork (n := 4) [9, 11] (by decide +kernel) (by decide) ?_
                refine (Fork.cons rfl (gS (v := (.row none 1 (x66.map (eI .u8)))) (sv (dU rfl rfl rfl (slR bH jC rfl rfl h_18)))) ?_ (Fork.cons rfl (gN (h' := [some ⟨85, [(eI .i64 0), (.row (some true) 1 []), (eI .i64 0), (eI .i64 0)]⟩, some ⟨85, [(eI .i64 (IntKind.i64.wrap x8)), (.row (some true) 1 []), (eI .i64 (IntKind.i64.wrap x58)), (eI .i64 0)]⟩]) (sv (bG rfl rfl (qH gX rfl rfl rfl zl rfl)))) ?_ Fork.nil))
                · refine DrawG.pick (n := 3) (i := 11) (by decide +kernel) rfl (gN (h' := [some ⟨85, [(eI .i64 0), (.row (some true) 1 []), (eI .i64 0), (eI .i64 0)]⟩, some ⟨85, [(eI .i64 (IntKind.i64.wrap x8)), (.row (some true) 1 []), (eI .i64 (IntKind.i64.wrap x58)), (eI .i64 0)]⟩]) (sv (bG rfl rfl (qH gX rfl rfl rfl zl rfl)))) <| DrawG.pick (n := 2) (i := 12) (by decide +kernel) rfl (gS (v := (.ptr 1 3)) (sv (v9 rfl (qQ ..)))) <| DrawG.pick (n := 1) (i := 13) (by decide +kernel) rfl (gN (h' := [some ⟨85, [(eI .i64 0), (.row (some true) 1 []), (eI .i64 0), (eI .i64 0)]⟩, some ⟨85, [(eI .i64 (IntKind.i64.wrap x8)), (.row (some true) 1 []), (eI .i64 (IntKind.i64.wrap x58)), (eI .i64 (IntKind.i64.wrap x62))]⟩]) (sv (bG rfl rfl (qH gX rfl rfl rfl zl rfl)))) ?_
                  exact DrawG.jg (by decide +kernel) (by decide +kernel) (zG [0, 1]) J
                · refine DrawG.pick (n := 3) (i := 12) (by decide +kernel) rfl (gS (v := (.ptr 1 3)) (sv (v9 rfl (qQ ..)))) <| DrawG.fork (n := 2) [9, 13] (by decide +kernel) (by decide) ?_
                  refine (Fork.cons rfl (gS (v := (.row none 1 (x66.map (eI .u8)))) (sv (dU rfl rfl rfl (slR bH jC rfl rfl h_18)))) ?_ (Fork.cons rfl (gN (h' := [some ⟨85, [(eI .i64 0), (.row (some true) 1 []), (eI .i64 0), (eI .i64 0)]⟩, some ⟨85, [(eI .i64 (IntKind.i64.wrap x8)), (.row (some true) 1 []), (eI .i64 (IntKind.i64.wrap x58)), (eI .i64 (IntKind.i64.wrap x62))]⟩]) (sv (bG rfl rfl (qH gX rfl rfl rfl zl rfl)))) ?_ Fork.nil))
                  · refine DrawG.pick (n := 1) (i := 13) (by decide +kernel) rfl (gN (h' := [some ⟨85, [(eI .i64 0), (.row (some true) 1 []), (eI .i64 0), (eI .i64 0)]⟩, some ⟨85, [(eI .i64 (IntKind.i64.wrap x8)), (.row (some true) 1 []), (eI .i64 (IntKind.i64.wrap x58)), (eI .i64 (IntKind.i64.wrap x62))]⟩]) (sv (bG rfl rfl (qH gX rfl rfl rfl zl rfl)))) ?_
                    exact DrawG.jg (by decide +kernel) (by decide +kernel) (zG [0, 1]) J
                  · refine DrawG.pick (n := 1) (i := 9) (by decide +kernel) rfl (gS (v := (.row none 1 (x66.map (eI .u8)))) (sv (dU rfl rfl rfl (slR bH jC rfl rfl h_18)))) ?_
                    exact DrawG.jg (by decide +kernel) (by decide +kernel) (zG [0, 1]) J
              · refine DrawG.fork (n := 4) [7, 11] (by decide +kernel) (by decide) ?_
                refine (Fork.cons rfl (gS (v := (eI .i64 (IntKind.i64.wrap x62))) (sv (qI rfl (oR _ ⟨_, jC⟩ gX rfl)))) ?_ (Fork.cons rfl (gN (h' := [some ⟨85, [(eI .i64 0), (.row (some true) 1 []), (eI .i64 0), (eI .i64 0)]⟩, some ⟨85, [(eI .i64 (IntKind.i64.wrap x8)), (.row (some true) 1 []), (eI .i64 (IntKind.i64.wrap x58)), (eI .i64 0)]⟩]) (sv (bG rfl rfl (qH gX rfl rfl rfl zl rfl)))) ?_ Fork.nil))
                · refine DrawG.pick (n := 3) (i := 11) (by decide +kernel) rfl (gN (h' := [some ⟨85, [(eI .i64 0), (.row (some true) 1 []), (eI .i64 0), (eI .i64 0)]⟩, some ⟨85, [(eI .i64 (IntKind.i64.wrap x8)), (.row (some true) 1 []), (eI .i64 (IntKind.i64.wrap x58)), (eI .i64 0)]⟩]) (sv (bG rfl rfl (qH gX rfl rfl rfl zl rfl)))) <| DrawG.pick (n := 2) (i := 12) (by decide +kernel) rfl (gS (v := (.ptr 1 3)) (sv (v9 rfl (qQ ..)))) <| DrawG.pick (n := 1) (i := 13) (by decide +kernel) rfl (gN (h' := [some ⟨85, [(eI .i64 0), (.row (some true) 1 []), (eI .i64 0), (eI .i64 0)]⟩, some ⟨85, [(eI .i64 (IntKind.i64.wrap x8)), (.row (some true) 1 []), (eI .i64 (IntKind.i64.wrap x58)), (eI .i64 (IntKind.i64.wrap x62))]⟩]) (sv (bG rfl rfl (qH gX rfl rfl rfl zl rfl)))) ?_
                  exact DrawG.jg (by decide +kernel) (by decide +kernel) (zG [0, 1]) J
                · refine DrawG.pick (n := 3) (i := 7) (by decide +kernel) rfl (gS (v := (eI .i64 (IntKind.i64.wrap x62))) (sv (qI rfl (oR _ ⟨_, jC⟩ gX rfl)))) <| DrawG.pick (n := 2) (i := 12) (by decide +kernel) rfl (gS (v := (.ptr 1 3)) (sv (v9 rfl (qQ ..)))) <| DrawG.pick (n := 1) (i := 13) (by decide +kernel) rfl (gN (h' := [some ⟨85, [(eI .i64 0), (.row (some true) 1 []), (eI .i64 0), (eI .i64 0)]⟩, some ⟨85, [(eI .i64 (IntKind.i64.wrap x8)), (.row (some true) 1 []), (eI .i64 (IntKind.i64.wrap x58)), (eI .i64 (IntKind.i64.wrap x62))]⟩]) (sv (bG rfl rfl (qH gX rfl rfl rfl zl rfl)))) ?_
                  exact DrawG.jg (by decide +kernel) (by decide +kernel) (zG [0, 1]) J
              · refine DrawG.pick (n := 4) (i := 7) (by decide +kernel) rfl (gS (v := (eI .i64 (IntKind.i64.wrap x62))) (sv (qI rfl (oR _ ⟨_, jC⟩ gX rfl)))) <| DrawG.pick (n := 3) (i := 12) (by decide +kernel) rfl (gS (v := (.ptr 1 3)) (sv (v9 rfl (qQ ..)))) <| DrawG.fork (n := 2) [9, 13] (by decide +kernel) (by decide) ?_
                refine (Fork.cons rfl (gS (v := (.row none 1 (x66.map (eI .u8)))) (sv (dU rfl rfl rfl (slR bH jC rfl rfl h_18)))) ?_ (Fork.cons rfl (gN (h' := [some ⟨85, [(eI .i64 0), (.row (some true) 1 []), (eI .i64 0), (eI .i64 0)]⟩, some ⟨85, [(eI .i64 (IntKind.i64.wrap x8)), (.row (some true) 1 []), (eI .i64 (IntKind.i64.wrap x58)), (eI .i64 (IntKind.i64.wrap x62))]⟩]) (sv (bG rfl rfl (qH gX rfl rfl rfl zl rfl)))) ?_ Fork.nil))
                · refine DrawG.pick (n := 1) (i := 13) (by decide +kernel) rfl (gN (h' := [some ⟨85, [(eI .i64 0), (.row (some true) 1 []), (eI .i64 0), (eI .i64 0)]⟩, some ⟨85, [(eI .i64 (IntKind.i64.wrap x8)), (.row (some true) 1 []), (eI .i64 (IntKind.i64.wrap x58)), (eI .i64 (IntKind.i64.wrap x62))]⟩]) (sv (bG rfl rfl (qH gX rfl rfl rfl zl rfl)))) ?_
                  exact DrawG.jg (by decide +kernel) (by decide +kernel) (zG [0, 1]) J
                · refine DrawG.pick (n := 1) (i := 9) (by decide +kernel) rfl (gS (v := (.row none 1 (x66.map (eI .u8)))) (sv (dU rfl rfl rfl (slR bH jC rfl rfl h_18)))) ?_
                  exact DrawG.jg (by decide +kernel) (by decide +kernel) (zG [0, 1]) J
            · refine DrawG.fork (n := 5) [6, 11] (by decide +kernel) (by decide) ?_
              refine (Fork.cons rfl (gS (v := (eI .u8 x62)) (sv (bA rfl (ldR h_17 (vS jC rfl rfl))))) ?_ (Fork.cons rfl (gN (h' := [some ⟨85, [(eI .i64 0), (.row (some true) 1 []), (eI .i64 0), (eI .i64 0)]⟩, some ⟨85, [(eI .i64 (IntKind.i64.wrap x8)), (.row (some true) 1 []), (eI .i64 (IntKind.i64.wrap x58)), (eI .i64 0)]⟩]) (sv (bG rfl rfl (qH gX rfl rfl rfl zl rfl)))) ?_ Fork.nil))
              · refine DrawG.fork (n := 4) [7, 11] (by decide +kernel) (by decide) ?_
                refine (Fork.cons rfl (gS (v := (eI .i64 (IntKind.i64.wrap x62))) (sv (qI rfl (oR _ ⟨_, jC⟩ gX rfl)))) ?_ (Fork.cons rfl (gN (h' := [some ⟨85, [(eI .i64 0), (.row (some true) 1 []), (eI .i64 0), (eI .i64 0)]⟩, some ⟨85, [(eI .i64 (IntKind.i64.wrap x8)), (.row (some true) 1 []), (eI .i64 (IntKind.i64.wrap x58)), (eI .i64 0)]⟩]) (sv (bG rfl rfl (qH gX rfl rfl rfl zl rfl)))) ?_ Fork.nil))
                · refine DrawG.pick (n := 3) (i := 11) (by decide +kernel) rfl (gN (h' := [some ⟨85, [(eI .i64 0), (.row (some true) 1 []), (eI .i64 0), (eI .i64 0)]⟩, some ⟨85, [(eI .i64 (IntKind.i64.wrap x8)), (.row (some true) 1 []), (eI .i64 (IntKind.i64.wrap x58)), (eI .i64 0)]⟩]) (sv (bG rfl rfl (qH gX rfl rfl rfl zl rfl)))) <| DrawG.pick (n := 2) (i := 12) (by decide +kernel) rfl (gS (v := (.ptr 1 3)) (sv (v9 rfl (qQ ..)))) <| DrawG.pick (n := 1) (i := 13) (by decide +kernel) rfl (gN (h' := [some ⟨85, [(eI .i64 0), (.row (some true) 1 []), (eI .i64 0), (eI .i64 0)]⟩, some ⟨85, [(eI .i64 (IntKind.i64.wrap x8)), (.row (some true) 1 []), (eI .i64 (IntKind.i64.wrap x58)), (eI .i64 (IntKind.i64.wrap x62))]⟩]) (sv (bG rfl rfl (qH gX rfl rfl rfl zl rfl)))) ?_
                  exact DrawG.jg (by decide +kernel) (by decide +kernel) (zG [0, 1]) J
                · refine DrawG.pick (n := 3) (i := 7) (by decide +kernel) rfl (gS (v := (eI .i64 (IntKind.i64.wrap x62))) (sv (qI rfl (oR _ ⟨_, jC⟩ gX rfl)))) <| DrawG.pick (n := 2) (i := 12) (by decide +kernel) rfl (gS (v := (.ptr 1 3)) (sv (v9 rfl (qQ ..)))) <| DrawG.pick (n := 1) (i := 13) (by decide +kernel) rfl (gN (h' := [some ⟨85, [(eI .i64 0), (.row (some true) 1 []), (eI .i64 0), (eI .i64 0)]⟩, some ⟨85, [(eI .i64 (IntKind.i64.wrap x8)), (.row (some true) 1 []), (eI .i64 (IntKind.i64.wrap x58)), (eI .i64 (IntKind.i64.wrap x62))]⟩]) (sv (bG rfl rfl (qH gX rfl rfl rfl zl rfl)))) ?_
                  exact DrawG.jg (by decide +kernel) (by decide +kernel) (zG [0, 1]) J
              · refine DrawG.pick (n := 4) (i := 6) (by decide +kernel) rfl (gS (v := (eI .u8 x62)) (sv (bA rfl (ldR h_17 (vS jC rfl rfl))))) <| DrawG.pick (n := 3) (i := 7) (by decide +kernel) rfl (gS (v := (eI .i64 (IntKind.i64.wrap x62))) (sv (qI rfl (oR _ ⟨_, jC⟩ gX rfl)))) <| DrawG.pick (n := 2) (i := 12) (by decide +kernel) rfl (gS (v := (.ptr 1 3)) (sv (v9 rfl (qQ ..)))) <| DrawG.pick (n := 1) (i := 13) (by decide +kernel) rfl (gN (h' := [some ⟨85, [(eI .i64 0), (.row (some true) 1 []), (eI .i64 0), (eI .i64 0)]⟩, some ⟨85, [(eI .i64 (IntKind.i64.wrap x8)), (.row (some true) 1 []), (eI .i64 (IntKind.i64.wrap x58)), (eI .i64 (IntKind.i64.wrap x62))]⟩]) (sv (bG rfl rfl (qH gX rfl rfl rfl zl rfl)))) ?_
                exact DrawG.jg (by decide +kernel) (by decide +kernel) (zG [0, 1]) J
            · refine DrawG.pick (n := 5) (i := 6) (by decide +kernel) rfl (gS (v := (eI .u8 x62)) (sv (bA rfl (ldR h_17 (vS jC rfl rfl))))) <| DrawG.pick (n := 4) (i := 7) (by decide +kernel) rfl (gS (v := (eI .i64 (IntKind.i64.wrap x62))) (sv (qI rfl (oR _ ⟨_, jC⟩ gX rfl)))) <| DrawG.pick (n := 3) (i := 12) (by decide +kernel) rfl (gS (v := (.ptr 1 3)) (sv (v9 rfl (qQ ..)))) <| DrawG.fork (n := 2) [9, 13] (by decide +kernel) (by decide) ?_
              refine (Fork.cons rfl (gS (v := (.row none 1 (x66.map (eI .u8)))) (sv (dU rfl rfl rfl (slR bH jC rfl rfl h_18)))) ?_ (Fork.cons rfl (gN (h' := [some ⟨85, [(eI .i64 0), (.row (some true) 1 []), (eI .i64 0), (eI .i64 0)]⟩, some ⟨85, [(eI .i64 (IntKind.i64.wrap x8)), (.row (some true) 1 []), (eI .i64 (IntKind.i64.wrap x58)), (eI .i64 (IntKind.i64.wrap x62))]⟩]) (sv (bG rfl rfl (qH gX rfl rfl rfl zl rfl)))) ?_ Fork.nil))
              · refine DrawG.pick (n := 1) (i := 13) (by decide +kernel) rfl (gN (h' := [some ⟨85, [(eI .i64 0), (.row (some true) 1 []), (eI .i64 0), (eI .i64 0)]⟩, some ⟨85, [(eI .i64 (IntKind.i64.wrap x8)), (.row (some true) 1 []), (eI .i64 (IntKind.i64.wrap x58)), (eI .i64 (IntKind.i64.wrap x62))]⟩]) (sv (bG rfl rfl (qH gX rfl rfl rfl zl rfl)))) ?_
                exact DrawG.jg (by decide +kernel) (by decide +kernel) (zG [0, 1]) J
              · refine DrawG.pick (n := 1) (i := 9) (by decide +kernel) rfl (gS (v := (.row none 1 (x66.map (eI .u8)))) (sv (dU rfl rfl rfl (slR bH jC rfl rfl h_18)))) ?_
                exact DrawG.jg (by decide +kernel) (by decide +kernel) (zG [0, 1]) J
      · refine zz ?_
        exact hG1 _ _ _ _ (Ghost.trans (Ghost.virt (fr' := [(0, (.row none 1 (x18.map (eI .u8)))), (2, (.ptr 0 0)), (5, (.ptr 1 0))]) (h1 := [some ⟨85, [(eI .i64 0), (.row (some true) 1 []), (eI .i64 0), (eI .i64 0)]⟩, some ⟨85, [(eI .i64 (IntKind.i64.wrap x8)), (.sl 2 0 0 1 false), (eI .i64 0), (eI .i64 0)]⟩]) 5 (FLe.same rfl (FLe.same rfl (FLe.same rfl FLe.nil))) (HLv.live (V.les_refl _ _) rfl (HLv.live (V.les_cons (V.le_refl _ _) (V.les_cons (V.le_virt rfl) (V.les_cons (V.le_refl _ _) (V.les_cons (V.le_refl _ _) V.les_nil)))) rfl HLv.nil))) (rU [0, 1, 2])) (J1 x18 0 0 [] hr)
theorem aDK {N : Nat} {b : List Int} {r : (List aM) × Int} (hr : r4 N b = some r) :
    Vm.Fn Tryz.prog 52 [] [(.row none 1 (b.map (eI .u8)))] (.tup [(.sl 0 0 r.1.length 4 true), (eI .i64 r.2)]) [some ⟨85, r.1.flatMap cI⟩] := by
  refine zf Tryz.func52 Tryz.ntmps52 ?_
  unfold r4 at hr
  refine zz ?_
  refine AB.seq ?_
  refine zz ?_
  refine zk hr rfl (fun h1 hr => ?_) (fun h1 hr => ?_)
  · refine zz ?_
    obtain rfl := sj hr
    exact vV Tryz.results52 bC bC (zW 85 [0])
  · refine zz ?_
    refine AB.seq_g fun K1 hK1 hG1 => ?_
    have J1 : ∀ (l0 : List aM), u7 N l0 = some r → K1 (aG 29 [(4, (.sl 0 0 l0.length 4 true))]) [some ⟨85, l0.flatMap cI⟩] := by
      intro l0 hr
      unfold u7 at hr
      refine hK1 _ _ ?_
      refine zz ?_
      obtain rfl := sj hr
      exact zd2 Tryz.results52 [0]
    obtain ⟨bD, hL2, hr⟩ := aA hr
    refine AB.block <| AB.loopN (fun m s h => ∃ (b_1 : List Int) (aS : List aM), jO N m b_1 aS = some bD ∧ Ghost 0 s h (aG 29 [(0, (.row none 1 (b_1.map (eI .u8)))), (4, (.sl 0 0 aS.length 4 true))]) [some ⟨85, aS.flatMap cI⟩]) (n := N) ⟨b, [], hL2, (zW 85 [0])⟩ (by rintro s h ⟨_, _, h0, _⟩; simp [jO] at h0) ?_
    rintro m2 s h ⟨b_1, aS, hr2, hg⟩
    refine AB.ghost hg ?_
    clear hg hL2
    rw [jO] at hr2
    refine AB.seq ?_
    refine zz ?_
    refine zk hr2 rfl (fun h2 hr2 => ?_) (fun h2 hr2 => ?_)
    · refine zz ?_
      refine AB.block ?_
      obtain ⟨x16, h_3, hr2⟩ := aA hr2
      refine zz ?_
      refine zc (aEs h_3) [] ?_
      refine zz ?_
      refine AB.seq ?_
      refine zz ?_
      refine zk hr2 rfl (fun h4 hr2 => ?_) (fun h4 hr2 => ?_)
      · refine zz ?_
        obtain rfl := sj hr2
        obtain rfl := sj hr
        exact vV Tryz.results52 bC bC (zW 85 [3])
      · obtain ⟨x26, h_5, hr2⟩ := aA hr2
        refine zz ?_
        refine OpsX.ghost (Ghost.conv (fr' := [(0, (.row none 1 (b_1.map (eI .u8)))), (4, (.sl 0 0 aS.length 4 true)), (5, (.ptr 2 0)), (6, (.row none 1 (x16.2.2.2.2.1.map (eI .u8)))), (7, (eI .i64 x16.2.2.2.2.2)), (11, (.row none 1 (b_1.map (eI .u8)))), (12, (eI .i64 (b_1.length : Int))), (13, (eB (decide (0 < (b_1.length : Int))))), (14, (.tup [(.agg [(eI .i64 x16.1), (.row none 1 (x16.2.1.map (eI .u8))), (eI .i64 x16.2.2.1), (eI .i64 x16.2.2.2.1)]), (.row none 1 (x16.2.2.2.2.1.map (eI .u8))), (eI .i64 x16.2.2.2.2.2)])), (15, (.row none 1 (b_1.map (eI .u8)))), (16, (.tup [(.agg [(eI .i64 x16.1), (.row none 1 (x16.2.1.map (eI .u8))), (eI .i64 x16.2.2.1), (eI .i64 x16.2.2.2.1)]), (.row none 1 (x16.2.2.2.2.1.map (eI .u8))), (eI .i64 x16.2.2.2.2.2)])), (17, (.agg [(eI .i64 x16.1), (.row none 1 (x16.2.1.map (eI .u8))), (eI .i64 x16.2.2.1), (eI .i64 x16.2.2.2.1)])), (18, (.row none 1 (x16.2.2.2.2.1.map (eI .u8)))), (19, (eI .i64 x16.2.2.2.2.2)), (20, (eI .i64 x16.2.2.2.2.2)), (21, (eB (x16.2.2.2.2.2 != 0))), (23, (.sl 0 0 aS.length 4 true)), (24, (.agg [(eI .i64 x16.1), (.row none 1 (x16.2.1.map (eI .u8))), (eI .i64 x16.2.2.1), (eI .i64 x16.2.2.2.1)]))]) (h' := [some ⟨85, aS.flatMap cI⟩, none, some ⟨85, [(eI .i64 x16.1), (.row none 1 (x16.2.1.map (eI .u8))), (eI .i64 x16.2.2.1), (eI .i64 x16.2.2.2.1)]⟩]) (FCv.cons rfl (Conv.same (aL rfl)) (FCv.cons rfl (Conv.same (aL rfl)) (FCv.cons rfl (Conv.same (aL rfl)) (FCv.cons rfl (Conv.same (aL rfl)) (FCv.cons rfl (Conv.same (aL rfl)) (FCv.cons rfl (Conv.same (aL rfl)) (FCv.cons rfl (Conv.same (aL rfl)) (FCv.cons rfl (Conv.same (aL rfl)) (FCv.cons rfl (Conv.tup (Convs.cons (Conv.agg (Convs.cons (Conv.same (aL rfl)) (Convs.cons (Conv.row (aL rfl) rfl rfl (pX (fun _ => rfl)) (by first | rfl | (simp only [List.length_map, bR, bQ]; done))) (Convs.cons (Conv.same (aL rfl)) (Convs.cons (Conv.same (aL rfl)) Convs.nil))))) (Convs.cons (Conv.same (aL rfl)) (Convs.cons (Conv.same (aL rfl)) Convs.nil)))) (FCv.cons rfl (Conv.same (aL rfl)) (FCv.cons rfl (Conv.tup (Convs.cons (Conv.agg (Convs.cons (Conv.same (aL rfl)) (Convs.cons (Conv.row (aL rfl) rfl rfl (pX (fun _ => rfl)) (by first | rfl | (simp only [List.length_map, bR, bQ]; done))) (Convs.cons (Conv.same (aL rfl)) (Convs.cons (Conv.same (aL rfl)) Convs.nil))))) (Convs.cons (Conv.same (aL rfl)) (Convs.cons (Conv.same (aL rfl)) Convs.nil)))) (FCv.cons rfl (Conv.agg (Convs.cons (Conv.same (aL rfl)) (Convs.cons (Conv.row (aL rfl) rfl rfl (pX (fun _ => rfl)) (by first | rfl | (simp only [List.length_map, bR, bQ]; done))) (Convs.cons (Conv.same (aL rfl)) (Convs.cons (Conv.same (aL rfl)) Convs.nil))))) (FCv.cons rfl (Conv.same (aL rfl)) (FCv.cons rfl (Conv.same (aL rfl)) (FCv.cons rfl (Conv.same (aL rfl)) (FCv.cons rfl (Conv.same (aL rfl)) (FCv.cons rfl (Conv.same (aL rfl)) (FCv.cons rfl (Conv.agg (Convs.cons (Conv.same (aL rfl)) (Convs.cons (Conv.row (aL rfl) rfl rfl (pX (fun _ => rfl)) (by first | rfl | (simp only [List.length_map, bR, bQ]; done))) (Convs.cons (Conv.same (aL rfl)) (Convs.cons (Conv.same (aL rfl)) Convs.nil))))) FCv.nil)))))))))))))))))) (HCv.live (Convs.same (aL rfl)) (mK (fun _ => rfl) _) (HCv.dead (HCv.live (Convs.cons (Conv.same (aL rfl)) (Convs.cons (Conv.row (aL rfl) rfl rfl (pX (fun _ => rfl)) (by first | rfl | (simp only [List.length_map, bR, bQ]; done))) (Convs.cons (Conv.same (aL rfl)) (Convs.cons (Conv.same (aL rfl)) Convs.nil)))) rfl HCv.nil)))) ?_
        refine xw (v := (.sl 3 0 1 4 true)) (h' := [some ⟨85, aS.flatMap cI⟩, none, some ⟨85, [(eI .i64 x16.1), (.row none 1 (x16.2.1.map (eI .u8))), (eI .i64 x16.2.2.1), (eI .i64 x16.2.2.2.1)]⟩, some ⟨85, [(aM.mk x16.1 x16.2.1 x16.2.2.1 x16.2.2.2.1)].flatMap cI⟩]) (dH rfl (aBh (C := cI) (xs := [(aM.mk x16.1 x16.2.1 x16.2.2.1 x16.2.2.2.1)]) (K := 4) (fun _ => rfl) (fun _ => rfl) aIw wH ⟨zl, zl, zl⟩ rfl rfl rfl rfl rfl rfl)) ?_
        refine zz ?_
        exact ⟨x16.2.2.2.2.1, x26, hr2, (zG [4])⟩
    · refine zz ?_
      obtain rfl := sj hr2
      refine zz ?_
      exact hG1 _ _ _ _ (zG [0]) (J1 aS hr)
theorem aDl {N : Nat} {l : List aM} {r : Bool} (hr : qJ N l = some r) :
    Vm.Fn Tryz.prog 53 [] [(.row none 4 (l.map v5))] (eB r) [] := by
  refine zf Tryz.func53 Tryz.ntmps53 ?_
  unfold qJ at hr
  refine zz ?_
  refine AB.seq_g fun K1 hK1 hG1 => ?_
  have J1 : ∀ (l0 : List Bool), uJ N l0 = some r → K1 (aG 47 [(3, (.sl 0 0 l0.length 1 false))]) [some ⟨4, l0.map eB⟩] := by
    intro l0 hr
    unfold uJ at hr
    refine hK1 _ _ ?_
    refine zz ?_
    obtain rfl := sj hr
    exact bO Tryz.results53 []
  obtain ⟨bD, hL2, hr⟩ := aA hr
  refine zz ?_
  refine AB.block <| AB.loopN (fun m s h => ∃ (x9 : Int) (aS : List Bool), cW N l m x9 aS = some bD ∧ Ghost 0 s h (aG 47 [(3, (.sl 0 0 aS.length 1 false)), (7, (.row none 4 (l.map v5))), (8, (eI .i64 (l.length : Int))), (9, (eI .i64 x9))]) [some ⟨4, aS.map eB⟩]) (n := N) ⟨0, [], hL2, (zW 4 [0])⟩ (by rintro s h ⟨_, _, h0, _⟩; simp [cW] at h0) ?_
  rintro m2 s h ⟨x9, aS, hr2, hg⟩
  refine AB.ghost hg ?_
  clear hg hL2
  rw [cW] at hr2
  refine zz ?_
  refine AB.seq ?_
  refine zk hr2 rfl (fun h1 hr2 => ?_) (fun h1 hr2 => ?_)
  · refine zz ?_
    refine AB.seq_g fun K3 hK3 hG3 => ?_
    have J3 : ∀ (mJ : List Bool), iR N l x9 (cW N l m2) mJ = some bD → K3 (aG 47 [(3, (.sl 0 0 mJ.length 1 false)), (7, (.row none 4 (l.map v5))), (8, (eI .i64 (l.length : Int))), (9, (eI .i64 x9))]) [some ⟨4, mJ.map eB⟩] := by
      intro mJ hr2
      unfold iR at hr2
      refine hK3 _ _ ?_
      refine zz ?_
      exact ⟨IntKind.i64.wrap (x9 + 1), mJ, hr2, (zG [0])⟩
    refine AB.block ?_
    obtain ⟨bW, h_2, hr2⟩ := aA hr2
    refine zz ?_
    refine AB.block ?_
    refine zz ?_
    refine zk hr2 rfl (fun h3 hr2 => ?_) (fun h3 hr2 => ?_)
    · obtain ⟨dW, h_4, hr2⟩ := aA hr2
      refine zz ?_
      exact hG3 _ _ _ _ (zG [3]) (J3 dW hr2)
    · refine zz ?_
      refine zk hr2 rfl (fun h5 hr2 => ?_) (fun h5 hr2 => ?_)
      · refine AB.seq ?_
        refine AB.seq_g fun K4 hK4 hG4 => ?_
        have J4 : ∀ (nA : Bool), mW N l x9 aS (cW N l m2) nA = some bD → K4 (aG 47 [(3, (.sl 0 0 aS.length 1 false)), (6, (eI .i64 (IntKind.i64.wrap ((aS.length : Int) - 1)))), (7, (.row none 4 (l.map v5))), (8, (eI .i64 (l.length : Int))), (9, (eI .i64 x9)), (32, (eB nA))]) [some ⟨4, aS.map eB⟩] := by
          intro nA hr2
          unfold mW at hr2
          refine hK4 _ _ ?_
          refine zk hr2 rfl (fun h6 hr2 => ?_) (fun h6 hr2 => ?_)
          · refine zz ?_
            obtain rfl := sj hr2
            obtain rfl := sj hr
            exact bO Tryz.results53 []
          · obtain ⟨x35, h_7, hr2⟩ := aA hr2
            refine zz ?_
            exact hG3 _ _ _ _ (rU [0]) (J3 (aS.set (Int.toNat (IntKind.i64.wrap ((aS.length : Int) - 1))) true) hr2)
        rcases Bool.eq_false_or_eq_true (decide ((IntKind.i64.wrap ((aS.length : Int) - 1)) < 0)) with h8 | h8
        · replace hr2 := fM hr2 h8
          refine xr ?_
          refine zz ?_
          exact hG4 _ _ _ _ (zG [0]) (J4 true hr2)
        · replace hr2 := fQ hr2 h8
          obtain ⟨mL, h_9, hr2⟩ := aA hr2
          refine xr ?_
          refine zz ?_
          exact hG4 _ _ _ _ (zG [0]) (J4 mL hr2)
      · refine zz ?_
        refine zk hr2 rfl (fun h10 hr2 => ?_) (fun h10 hr2 => ?_)
        · refine AB.seq ?_
          refine zz ?_
          refine zk hr2 rfl (fun h11 hr2 => ?_) (fun h11 hr2 => ?_)
          · refine zz ?_
            obtain rfl := sj hr2
            obtain rfl := sj hr
            exact bO Tryz.results53 []
          · obtain ⟨x42, h_12, hr2⟩ := aA hr2
            refine zz ?_
            refine xw (v := (.sl 0 0 x42.length 1 false)) (dU rfl rfl rfl (aIa (l := aS) rfl aK9 ti4 rfl rfl rfl h_12)) ?_
            refine OpsX.ghost (Ghost.cutM (t := 42) (E := eB) (l := aS) (h' := [some ⟨4, x42.map eB⟩, some ⟨85, [(eI .i64 bW.Code), (.row none 1 (bW.Data.map (eI .u8))), (eI .i64 bW.M), (eI .i64 bW.N)]⟩]) rfl rfl h_12 rfl) ?_
            refine zz ?_
            exact hG3 _ _ _ _ (zG [0]) (J3 x42 hr2)
        · refine zz ?_
          exact hG3 _ _ _ _ (zG [0]) (J3 aS hr2)
  · refine zz ?_
    obtain rfl := sj hr2
    refine zz ?_
    exact hG1 _ _ _ _ (zG [0]) (J1 aS hr)
theorem aCE {N : Nat} {stack : List (List Int)} {r : Bool} (hr : pA N stack = some r) :
    Vm.Fn Tryz.prog 54 [] [(.row none 1 (stack.map (eL 1 (eI .u8))))] (eB r) [] := by
  refine zf Tryz.func54 Tryz.ntmps54 ?_
  unfold pA at hr
  refine zz ?_
  refine AB.seq ?_
  refine zz ?_
  refine zk hr rfl (fun h1 hr => ?_) (fun h1 hr => ?_)
  · refine zz ?_
    obtain rfl := sj hr
    exact bO Tryz.results54 []
  · refine zz ?_
    refine AB.seq_g fun K1 hK1 hG1 => ?_
    have J1 : s7 N = some r → K1 (aG 18 []) [] := by
      intro hr
      unfold s7 at hr
      refine hK1 _ _ ?_
      refine zz ?_
      obtain rfl := sj hr
      exact bO Tryz.results54 []
    obtain ⟨bD, hL2, hr⟩ := aA hr
    refine zz ?_
    refine AB.block <| AB.loopN (fun m s h => ∃ (bS : Int), fL N stack m bS = some bD ∧ Ghost 0 s h (aG 18 [(8, (.row none 1 (stack.map (eL 1 (eI .u8))))), (9, (eI .i64 (stack.length : Int))), (10, (eI .i64 bS))]) []) (n := N) ⟨0, hL2, (zG [])⟩ (by rintro s h ⟨_, h0, _⟩; simp [fL] at h0) ?_
    rintro m2 s h ⟨bS, hr2, hg⟩
    refine AB.ghost hg ?_
    clear hg hL2
    rw [fL] at hr2
    refine zz ?_
    refine AB.seq ?_
    refine zk hr2 rfl (fun h2 hr2 => ?_) (fun h2 hr2 => ?_)
    · refine zz ?_
      refine AB.seq <| AB.block ?_
      obtain ⟨cL, h_3, hr2⟩ := aA hr2
      refine zz ?_
      refine zk hr2 rfl (fun h4 hr2 => ?_) (fun h4 hr2 => ?_)
      · refine zz ?_
        obtain rfl := sj hr2
        obtain rfl := sj hr
        exact bO Tryz.results54 []
      · refine zz ?_
        exact ⟨IntKind.i64.wrap (bS + 1), hr2, (zG [])⟩
    · refine zz ?_
      obtain rfl := sj hr2
      refine zz ?_
      exact hG1 _ _ _ _ (zG []) (J1 hr)
theorem uC {N : Nat} {stack : List (List Int)} {r : (List (List Int))} (hr : nG N stack = some r) :
    Vm.Fn Tryz.prog 55 [] [(.row none 1 (stack.map (eL 1 (eI .u8))))] (.sl 0 0 r.length 1 false) [some ⟨22, r.map (eL 1 (eI .u8))⟩] := by
  refine zf Tryz.func55 Tryz.ntmps55 ?_
  unfold nG at hr
  refine zz ?_
  refine AB.seq_g fun K1 hK1 hG1 => ?_
  have J1 : ∀ (l0 : List (List Int)), qA N l0 = some r → K1 (aG 20 [(3, (.sl 0 0 l0.length 1 false))]) [some ⟨22, l0.map (eL 1 (eI .u8))⟩] := by
    intro l0 hr
    unfold qA at hr
    refine hK1 _ _ ?_
    refine zz ?_
    obtain rfl := sj hr
    exact bO Tryz.results55 [0]
  obtain ⟨bD, hL2, hr⟩ := aA hr
  refine zz ?_
  refine AB.block <| AB.loopN (fun m s h => ∃ (x8 : Int) (aS : List (List Int)), iQ N stack m x8 aS = some bD ∧ Ghost 0 s h (aG 20 [(3, (.sl 0 0 aS.length 1 false)), (6, (.row none 1 (stack.map (eL 1 (eI .u8))))), (7, (eI .i64 (stack.length : Int))), (8, (eI .i64 x8))]) [some ⟨22, aS.map (eL 1 (eI .u8))⟩]) (n := N) ⟨0, [], hL2, (zW 22 [0])⟩ (by rintro s h ⟨_, _, h0, _⟩; simp [iQ] at h0) ?_
  rintro m2 s h ⟨x8, aS, hr2, hg⟩
  refine AB.ghost hg ?_
  clear hg hL2
  rw [iQ] at hr2
  refine zz ?_
  refine AB.seq ?_
  refine zk hr2 rfl (fun h1 hr2 => ?_) (fun h1 hr2 => ?_)
  · refine zz ?_
    refine AB.seq <| AB.block ?_
    obtain ⟨bS, h_2, hr2⟩ := aA hr2
    obtain ⟨x15, h_3, hr2⟩ := aA hr2
    obtain ⟨x17, h_4, hr2⟩ := aA hr2
    refine zz ?_
    refine vG (lM h_3) [] [1] ?_
    refine OpsX.ghost (zv 2) ?_
    refine zz ?_
    exact ⟨IntKind.i64.wrap (x8 + 1), x17, hr2, (zG [4])⟩
  · refine zz ?_
    obtain rfl := sj hr2
    refine zz ?_
    exact hG1 _ _ _ _ (zG [0]) (J1 aS hr)
theorem zM {N : Nat} {aB : List Int} {aD : Int} {aH : Int} {aF : List (List Int)} {aC : List aE} {aP : Int} {r : Bool} (hr : lG N aB aD aH aF aC aP = some r) :
    Vm.Fn Tryz.prog 82 [some ⟨105, (aO (eI .u8) aB [(eI .i64 aD), (eI .i64 aH), (.sl 1 0 aF.length 1 false), (.sl 2 0 aC.length 2 true), (eI .i64 aP)])⟩, some ⟨22, aF.map (eL 1 (eI .u8))⟩, some ⟨127, aC.flatMap aN⟩] [(.ptr 0 0)] (eB r) [some ⟨105, (aO (eI .u8) aB [(eI .i64 aD), (eI .i64 aH), (.sl 1 0 aF.length 1 false), (.sl 2 0 aC.length 2 true), (eI .i64 aP)])⟩, some ⟨22, aF.map (eL 1 (eI .u8))⟩, some ⟨127, aC.flatMap aN⟩] := by
  refine zf Tryz.func82 Tryz.ntmps82 ?_
  unfold lG at hr
  refine zz ?_
  refine AB.seq ?_
  refine zz ?_
  refine zk hr rfl (fun h1 hr => ?_) (fun h1 hr => ?_)
  · refine zz ?_
    obtain rfl := sj hr
    exact bO Tryz.results82 [0, 1, 2]
  · refine zz ?_
    refine AB.seq ?_
    obtain ⟨eX, h_2, hr⟩ := aA hr
    refine AB.rs mixed [] [] [[0, 1, 2, 3, 4, 5, 6, 7, 8, 9, 10, 11, 12, 13]] ?_
    refine zz ?_
    refine xw (v := (.agg [(eB eX.outer), (eB eX.taken)])) (bA rfl (aLd (C := aN) (K := 2) (fun _ => rfl) rfl h_2 (jI (ds := [(eB eX.outer), (eB eX.taken)]) yG rfl zl rfl))) ?_
    refine zz ?_
    refine AB.seq_g fun K1 hK1 hG1 => ?_
    have J1 : ∀ (x2 : Bool), gH N aB aD aH aF aC aP x2 = some r → K1 (aG 28 [(2, (eB x2))]) [some ⟨105, (aO (eI .u8) aB [(eI .i64 aD), (eI .i64 aH), (.sl 1 0 aF.length 1 false), (.sl 2 0 aC.length 2 true), (eI .i64 aP)])⟩, some ⟨22, aF.map (eL 1 (eI .u8))⟩, some ⟨127, aC.flatMap aN⟩] := by
      intro x2 hr
      unfold gH at hr
      refine hK1 _ _ ?_
      refine zz ?_
      obtain rfl := sj hr
      exact bO Tryz.results82 [0, 1, 2]
    rcases Bool.eq_false_or_eq_true eX.outer with h3 | h3
    · replace hr := fM hr h3
      refine xr ?_
      refine zz ?_
      exact hG1 _ _ _ _ (zG [0, 1, 2]) (J1 eX.taken hr)
    · replace hr := fQ hr h3
      refine xr ?_
      refine zz ?_
      exact hG1 _ _ _ _ (zG [0, 1, 2]) (J1 false hr)
theorem aD4 {N : Nat} {aJ : Int} {aU : List Int} {bU : Int} {bN : Int} {r : Int} (hr : rP N aJ aU bU bN = some r) :
    Vm.Fn Tryz.prog 83 [] [(.agg [(eI .i64 aJ), (.row none 1 (aU.map (eI .u8))), (eI .i64 bU), (eI .i64 bN)])] (eI .i64 r) [] := by
  refine zf Tryz.func83 Tryz.ntmps83 ?_
  unfold rP at hr
  refine zz ?_
  refine AB.seq ?_
  refine zz ?_
  refine AB.block ?_
  refine zz ?_
  refine zk hr rfl (fun h1 hr => ?_) (fun h1 hr => ?_)
  · refine zz ?_
    obtain rfl := sj hr
    exact bO Tryz.results83 []
  · refine zz ?_
    refine zk hr rfl (fun h2 hr => ?_) (fun h2 hr => ?_)
    · refine zz ?_
      obtain rfl := sj hr
      exact bO Tryz.results83 []
    · refine zz ?_
      refine zk hr rfl (fun h3 hr => ?_) (fun h3 hr => ?_)
      · refine zz ?_
        obtain rfl := sj hr
        exact bO Tryz.results83 []
      · refine zz ?_
        obtain rfl := sj hr
        exact bO Tryz.results83 []
theorem aD1 {N : Nat} {aJ : Int} {aU : List Int} {bU : Int} {bN : Int} {r : Int} (hr : rR N aJ aU bU bN = some r) :
    Vm.Fn Tryz.prog 84 [] [(.agg [(eI .i64 aJ), (.row none 1 (aU.map (eI .u8))), (eI .i64 bU), (eI .i64 bN)])] (eI .i64 r) [] := by
  refine zf Tryz.func84 Tryz.ntmps84 ?_
  unfold rR at hr
  refine zz ?_
  refine AB.seq ?_
  refine zz ?_
  refine AB.block ?_
  refine AB.seq_g fun K1 hK1 hG1 => ?_
  have J1 : ∀ (x5 : Bool), jZ N aJ aU bU bN x5 = some r → K1 (aG 19 [(1, (.ptr 0 0)), (4, (eI .i64 aJ)), (5, (eB x5))]) [some ⟨85, [(eI .i64 aJ), (.row none 1 (aU.map (eI .u8))), (eI .i64 bU), (eI .i64 bN)]⟩] := by
    intro x5 hr
    unfold jZ at hr
    refine hK1 _ _ ?_
    refine zk hr rfl (fun h1 hr => ?_) (fun h1 hr => ?_)
    · refine zz ?_
      obtain rfl := sj hr
      exact bO Tryz.results84 []
    · refine AB.seq_g fun K2 hK2 hG2 => ?_
      have J2 : ∀ (bS : Bool), lH N aJ aU bU bN bS = some r → K2 (aG 19 [(1, (.ptr 0 0)), (4, (eI .i64 aJ)), (10, (eB bS))]) [some ⟨85, [(eI .i64 aJ), (.row none 1 (aU.map (eI .u8))), (eI .i64 bU), (eI .i64 bN)]⟩] := by
        intro bS hr
        unfold lH at hr
        refine hK2 _ _ ?_
        refine zk hr rfl (fun h2 hr => ?_) (fun h2 hr => ?_)
        · refine zz ?_
          obtain rfl := sj hr
          exact bO Tryz.results84 []
        · refine zz ?_
          refine zk hr rfl (fun h3 hr => ?_) (fun h3 hr => ?_)
          · refine zz ?_
            obtain rfl := sj hr
            exact bO Tryz.results84 []
          · refine zz ?_
            obtain rfl := sj hr
            exact bO Tryz.results84 []
      refine zz ?_
      refine zk hr rfl (fun h4 hr => ?_) (fun h4 hr => ?_)
      · refine zz ?_
        exact hG2 _ _ _ _ (zG [0]) (J2 (aJ == 4) hr)
      · refine zz ?_
        refine zk hr rfl (fun h5 hr => ?_) (fun h5 hr => ?_)
        · refine zz ?_
          exact hG2 _ _ _ _ (zG [0]) (J2 (aJ == 5) hr)
        · refine zz ?_
          exact hG2 _ _ _ _ (zG [0]) (J2 (aJ == 10) hr)
  refine zz ?_
  refine zk hr rfl (fun h6 hr => ?_) (fun h6 hr => ?_)
  · refine zz ?_
    exact hG1 _ _ _ _ (zG [0]) (J1 (aJ == 1) hr)
  · refine zz ?_
    refine zk hr rfl (fun h7 hr => ?_) (fun h7 hr => ?_)
    · refine zz ?_
      exact hG1 _ _ _ _ (zG [0]) (J1 (aJ == 15) hr)
    · refine zz ?_
      refine zk hr rfl (fun h8 hr => ?_) (fun h8 hr => ?_)
      · refine zz ?_
        exact hG1 _ _ _ _ (zG [0]) (J1 (aJ == 16) hr)
      · refine zz ?_
        exact hG1 _ _ _ _ (zG [0]) (J1 (aJ == 17) hr)
theorem c7 {N : Nat} {aB : List Int} {aD : Int} {aH : Int} {aF : List (List Int)} {aC : List aE} {aP : Int} {r : (List Int)} (hr : bY N aB aD aH aF aC aP = some r) :
    Vm.Fn Tryz.prog 85 [some ⟨105, (aO (eI .u8) aB [(eI .i64 aD), (eI .i64 aH), (.sl 1 0 aF.length 1 false), (.sl 2 0 aC.length 2 true), (eI .i64 aP)])⟩, some ⟨22, aF.map (eL 1 (eI .u8))⟩, some ⟨127, aC.flatMap aN⟩] [(.ptr 0 0)] (.row none 1 (r.map (eI .u8))) [some ⟨105, (aO (eI .u8) aB [(eI .i64 aD), (eI .i64 aH), (.sl 1 0 aF.length 1 false), (.sl 2 0 aC.length 2 true), (eI .i64 aP)])⟩, some ⟨22, aF.map (eL 1 (eI .u8))⟩, some ⟨127, aC.flatMap aN⟩] := by
  refine zf Tryz.func85 Tryz.ntmps85 ?_
  unfold bY at hr
  refine zz ?_
  refine AB.seq ?_
  obtain ⟨d7, h_1, hr⟩ := aA hr
  refine AB.rs mixed [] [] [[0, 1, 2, 3, 4, 5, 6, 7, 8, 9, 10, 11, 12]] ?_
  refine zz ?_
  obtain rfl := sj hr
  exact bO Tryz.results85 [0, 1, 2]
theorem rB {N : Nat} {g9 : List Int} {r : Bool} (hr : kV N g9 = some r) :
    Vm.Fn Tryz.prog 36 [] [(.row none 1 (g9.map (eI .u8)))] (eB r) [] := by
  refine zf Tryz.func36 Tryz.ntmps36 ?_
  unfold kV at hr
  refine zz ?_
  refine AB.seq_g fun K1 hK1 hG1 => ?_
  have J1 : vM N = some r → K1 (aG 14 []) [] := by
    intro hr
    unfold vM at hr
    refine hK1 _ _ ?_
    refine zz ?_
    obtain rfl := sj hr
    exact bO Tryz.results36 []
  obtain ⟨bD, hL2, hr⟩ := aA hr
  refine zz ?_
  refine AB.block <| AB.loopN (fun m s h => ∃ (x7 : Int), hH N g9 m x7 = some bD ∧ Ghost 0 s h (aG 14 [(5, (.row none 1 (g9.map (eI .u8)))), (6, (eI .i64 (g9.length : Int))), (7, (eI .i64 x7))]) []) (n := N) ⟨0, hL2, (zG [])⟩ (by rintro s h ⟨_, h0, _⟩; simp [hH] at h0) ?_
  rintro m2 s h ⟨x7, hr2, hg⟩
  refine AB.ghost hg ?_
  clear hg hL2
  rw [hH] at hr2
  refine zz ?_
  refine AB.seq ?_
  refine zk hr2 rfl (fun h1 hr2 => ?_) (fun h1 hr2 => ?_)
  · refine zz ?_
    refine AB.seq <| AB.block ?_
    obtain ⟨x9, h_2, hr2⟩ := aA hr2
    refine zz ?_
    refine zk hr2 rfl (fun h3 hr2 => ?_) (fun h3 hr2 => ?_)
    · refine zz ?_
      obtain rfl := sj hr2
      obtain rfl := sj hr
      exact bO Tryz.results36 []
    · refine zz ?_
      exact ⟨IntKind.i64.wrap (x7 + 1), hr2, (zG [])⟩
  · refine zz ?_
    obtain rfl := sj hr2
    refine zz ?_
    exact hG1 _ _ _ _ (zG []) (J1 hr)
theorem kS {N : Nat} {aB : List Int} {aD : Int} {aH : Int} {aF : List (List Int)} {aC : List aE} {aP : Int} {vn : Int} {r : (List Int) × Int × Int × (List (List Int)) × (List aE) × Int} (hr : dB N aB aD aH aF aC aP vn = some r) :
    Vm.Fn Tryz.prog 86 [some ⟨105, (aO (eI .u8) aB [(eI .i64 aD), (eI .i64 aH), (.sl 1 0 aF.length 1 false), (.sl 2 0 aC.length 2 true), (eI .i64 aP)])⟩, some ⟨22, aF.map (eL 1 (eI .u8))⟩, some ⟨127, aC.flatMap aN⟩] [(.ptr 0 0), (eI .i64 vn)] (.tup []) [some ⟨105, (aO (eI .u8) r.1 [(eI .i64 r.2.1), (eI .i64 r.2.2.1), (.sl 3 0 r.2.2.2.1.length 1 false), (.sl 4 0 r.2.2.2.2.1.length 2 true), (eI .i64 r.2.2.2.2.2)])⟩, none, none, some ⟨22, r.2.2.2.1.map (eL 1 (eI .u8))⟩, some ⟨127, r.2.2.2.2.1.flatMap aN⟩] := by
  refine zf Tryz.func86 Tryz.ntmps86 ?_
  unfold dB at hr
  obtain ⟨x16, h_1, hr⟩ := aA hr
  refine AB.rs mixed [] [] [[0, 1, 2, 3, 4, 5, 6, 7, 8, 9, 10, 11, 12], [13, 14, 15]] ?_
  refine zz ?_
  refine xw (v := (.sl 1 0 x16.length 1 false)) (dU rfl rfl rfl (aIa (l := aF) rfl cP bH rfl rfl rfl h_1)) ?_
  refine zz ?_
  refine ⟨_, _, (Ghost.cutM (t := 16) (E := (eL 1 (eI .u8))) (l := aF) (h' := [some ⟨105, (aO (eI .u8) aB [(eI .i64 aD), (eI .i64 aH), (.sl 1 0 aF.length 1 false), (.sl 2 0 aC.length 2 true), (eI .i64 aP)])⟩, some ⟨22, x16.map (eL 1 (eI .u8))⟩, some ⟨127, aC.flatMap aN⟩]) rfl rfl h_1 rfl), ?_⟩
  refine zz ?_
  obtain rfl := sj hr
  exact zn0 Tryz.results86 (zG [0, 1, 2, 1, 2])
theorem oH {N : Nat} {aB : List Int} {aD : Int} {aH : Int} {aF : List (List Int)} {aC : List aE} {aP : Int} {g9 : List Int} {r : Int × (List Int) × Int × Int × (List (List Int)) × (List aE) × Int} (hr : fP N aB aD aH aF aC aP g9 = some r) :
    Vm.Fn Tryz.prog 108 [some ⟨105, (aO (eI .u8) aB [(eI .i64 aD), (eI .i64 aH), (.sl 1 0 aF.length 1 false), (.sl 2 0 aC.length 2 true), (eI .i64 aP)])⟩, some ⟨22, aF.map (eL 1 (eI .u8))⟩, some ⟨127, aC.flatMap aN⟩] [(.ptr 0 0), (.row none 1 (g9.map (eI .u8)))] (eI .i64 r.1) [some ⟨105, (aO (eI .u8) r.2.1 [(eI .i64 r.2.2.1), (eI .i64 r.2.2.2.1), (.sl 3 0 r.2.2.2.2.1.length 1 false), (.sl 4 0 r.2.2.2.2.2.1.length 2 true), (eI .i64 r.2.2.2.2.2.2)])⟩, none, none, some ⟨22, r.2.2.2.2.1.map (eL 1 (eI .u8))⟩, some ⟨127, r.2.2.2.2.2.1.flatMap aN⟩] := by
  refine zf Tryz.func108 Tryz.ntmps108 ?_
  unfold fP at hr
  refine zz ?_
  refine AB.seq ?_
  refine zz ?_
  refine zk hr rfl (fun h1 hr => ?_) (fun h1 hr => ?_)
  · refine zz ?_
    obtain rfl := sj hr
    exact bO Tryz.results108 [0, 1, 2, 1, 2]
  · obtain ⟨x18, h_2, hr⟩ := aA hr
    refine zz ?_
    obtain rfl := sj hr
    exact bO Tryz.results108 [0, 1, 2, 4, 2]
theorem aEw {N : Nat} {va : List Int} {b : List Int} {r : Bool} (hr : wZ N va b = some r) :
    Vm.Fn Tryz.prog 111 [] [(.row none 1 (va.map (eI .u8))), (.row none 1 (b.map (eI .u8)))] (eB r) [] := by
  refine zf Tryz.func111 Tryz.ntmps111 ?_
  unfold wZ at hr
  refine zz ?_
  refine xw (v := (eS (yJ va))) (qI rfl (aLe bH ti9 jC (aGP (fun _ => rfl)))) ?_
  refine zz ?_
  refine xw (v := (eS (yJ b))) (qI rfl (aLe bH ti9 jC (aGP (fun _ => rfl)))) <| xw (qC rfl rfl (aJO ..)) ?_
  refine zz ?_
  obtain rfl := sj hr
  exact bO Tryz.results111 []
theorem l7 {N : Nat} {vn : Int} {r : (List Int)} (hr : dA N vn = some r) :
    Vm.Fn Tryz.prog 24 [] [(eI .u32 vn)] (.sl 0 0 r.length 1 false) [some ⟨5, r.map (eI .u8)⟩] := by
  refine zf Tryz.func24 Tryz.ntmps24 ?_
  unfold dA at hr
  refine zz ?_
  refine AB.seq_g fun K1 hK1 hG1 => ?_
  have J1 : ∀ (l0 : List Int), sX N l0 = some r → K1 (aG 14 [(3, (.sl 0 0 l0.length 1 false))]) [some ⟨5, l0.map (eI .u8)⟩] := by
    intro l0 hr
    unfold sX at hr
    refine hK1 _ _ ?_
    refine zz ?_
    obtain rfl := sj hr
    exact bO Tryz.results24 [0]
  obtain ⟨bD, hL2, hr⟩ := aA hr
  refine AB.block <| AB.loopN (fun m s h => ∃ (fW : Int) (aS : List Int), bL N m fW aS = some bD ∧ Ghost 0 s h (aG 14 [(0, (eI .u32 fW)), (3, (.sl 0 0 aS.length 1 false))]) [some ⟨5, aS.map (eI .u8)⟩]) (n := N) ⟨vn, [], hL2, (zW 5 [0])⟩ (by rintro s h ⟨_, _, h0, _⟩; simp [bL] at h0) ?_
  rintro m2 s h ⟨fW, aS, hr2, hg⟩
  refine AB.ghost hg ?_
  clear hg hL2
  rw [bL] at hr2
  refine AB.seq ?_
  refine zz ?_
  refine zk hr2 rfl (fun h1 hr2 => ?_) (fun h1 hr2 => ?_)
  · refine zz ?_
    refine AB.seq <| AB.block ?_
    obtain ⟨cL, h_2, hr2⟩ := aA hr2
    obtain ⟨x7, h_3, hr2⟩ := aA hr2
    refine zz ?_
    exact ⟨x7, cL, hr2, (zG [2])⟩
  · refine zz ?_
    obtain rfl := sj hr2
    refine zz ?_
    exact hG1 _ _ _ _ (zG [0]) (J1 aS hr)
theorem vZ {N : Nat} {v : Bool} {r : (List Int)} (hr : lU N v = some r) :
    Vm.Fn Tryz.prog 110 [] [(eB v)] (.sl 0 0 r.length 1 false) [some ⟨5, r.map (eI .u8)⟩] := by
  refine zf Tryz.func110 Tryz.ntmps110 ?_
  unfold lU at hr
  refine zz ?_
  refine AB.seq ?_
  refine zz ?_
  refine zk hr rfl (fun h1 hr => ?_) (fun h1 hr => ?_)
  · obtain ⟨x4, h_2, hr⟩ := aA hr
    refine zz ?_
    refine zc (l7 h_2) [] ?_
    refine zz ?_
    obtain rfl := sj hr
    exact bO Tryz.results110 [0]
  · obtain ⟨x5, h_3, hr⟩ := aA hr
    refine zz ?_
    refine zc (l7 h_3) [] ?_
    refine zz ?_
    obtain rfl := sj hr
    exact bO Tryz.results110 [0]
theorem jB {N : Nat} {aB : List Int} {aD : Int} {aH : Int} {aF : List (List Int)} {aC : List aE} {aP : Int} {vn : Int} {g9 : List Int} {r : (List Int) × Int × Int × (List (List Int)) × (List aE) × Int} (hr : cK N aB aD aH aF aC aP vn g9 = some r) :
    Vm.Fn Tryz.prog 109 [some ⟨105, (aO (eI .u8) aB [(eI .i64 aD), (eI .i64 aH), (.sl 1 0 aF.length 1 false), (.sl 2 0 aC.length 2 true), (eI .i64 aP)])⟩, some ⟨22, aF.map (eL 1 (eI .u8))⟩, some ⟨127, aC.flatMap aN⟩] [(.ptr 0 0), (eI .i64 vn), (.row none 1 (g9.map (eI .u8)))] (.tup []) [some ⟨105, (aO (eI .u8) r.1 [(eI .i64 r.2.1), (eI .i64 r.2.2.1), (.sl 3 0 r.2.2.2.1.length 1 false), (.sl 4 0 r.2.2.2.2.1.length 2 true), (eI .i64 r.2.2.2.2.2)])⟩, none, none, some ⟨22, r.2.2.2.1.map (eL 1 (eI .u8))⟩, some ⟨127, r.2.2.2.2.1.flatMap aN⟩] := by
  refine zf Tryz.func109 Tryz.ntmps109 ?_
  unfold cK at hr
  obtain ⟨x8, h_1, hr⟩ := aA hr
  refine zz ?_
  refine zc (kS h_1) [0, 1, 2] ?_
  obtain ⟨x16, h_2, hr⟩ := aA hr
  refine zz ?_
  obtain rfl := sj hr
  exact zn0 Tryz.results109 (zG [0, 1, 2, 6, 4])
theorem aH4 {N : Nat} {vn : Int} {r : (List Int)} (hr : aAz N vn = some r) :
    Vm.Fn Tryz.prog 106 [] [(eI .u64 vn)] (.sl 0 0 r.length 1 false) [some ⟨5, r.map (eI .u8)⟩] := by
  refine zf Tryz.func106 Tryz.ntmps106 ?_
  unfold aAz at hr
  obtain ⟨x15, h_1, hr⟩ := aA hr
  refine zz ?_
  refine xw (v := (.sl 0 0 x15.length 1 false)) (h' := [some ⟨5, x15.map (eI .u8)⟩]) (aNe rfl rfl (mkL (E := (eI .u8)) (y := 0) bH jC ⟨zl, rfl, rfl⟩ rfl rfl rfl h_1 rfl rfl)) ?_
  obtain ⟨x17, h_2, hr⟩ := aA hr
  refine zz ?_
  refine AB.seq_g fun K1 hK1 hG1 => ?_
  have J1 : ∀ (l0 : List Int), aAN N l0 = some r → K1 (aG 33 [(4, (.sl 0 0 l0.length 1 false))]) [some ⟨5, l0.map (eI .u8)⟩] := by
    intro l0 hr
    unfold aAN at hr
    refine hK1 _ _ ?_
    refine zz ?_
    obtain rfl := sj hr
    exact bO Tryz.results106 [0]
  obtain ⟨bD, hL2, hr⟩ := aA hr
  refine zz ?_
  refine AB.block <| AB.loopN (fun m s h => ∃ (x18 : Int) (aS : List Int), nU N vn m x18 aS = some bD ∧ Ghost 0 s h (aG 33 [(0, (eI .u64 vn)), (4, (.sl 0 0 aS.length 1 false)), (18, (eI .i64 x18))]) [some ⟨5, aS.map (eI .u8)⟩]) (n := N) ⟨0, x15.set (Int.toNat 0) 128, hL2, (rU [0])⟩ (by rintro s h ⟨_, _, h0, _⟩; simp [nU] at h0) ?_
  rintro m2 s h ⟨x18, aS, hr2, hg⟩
  refine AB.ghost hg ?_
  clear hg hL2
  rw [nU] at hr2
  refine zz ?_
  refine AB.seq ?_
  refine zk hr2 rfl (fun h3 hr2 => ?_) (fun h3 hr2 => ?_)
  · refine zz ?_
    refine AB.seq <| AB.block ?_
    obtain ⟨x27, h_4, hr2⟩ := aA hr2
    obtain ⟨mL, h_5, hr2⟩ := aA hr2
    refine zz ?_
    exact ⟨IntKind.i64.wrap (x18 + 1), mL, hr2, (zG [2])⟩
  · refine zz ?_
    obtain rfl := sj hr2
    refine zz ?_
    exact hG1 _ _ _ _ (zG [0]) (J1 aS hr)
theorem aDU {N : Nat} {parts : List (List Int)} {r : (List Int)} (hr : yX N parts = some r) :
    Vm.Fn Tryz.prog 80 [] [(.row none 1 (parts.map (eL 1 (eI .u8))))] (.sl 0 0 r.length 1 false) [some ⟨5, r.map (eI .u8)⟩] := by
  refine zf Tryz.func80 Tryz.ntmps80 ?_
  unfold yX at hr
  refine zz ?_
  refine AB.seq_g fun K1 hK1 hG1 => ?_
  have J1 : ∀ (l0 : List Int), aAL N l0 = some r → K1 (aG 17 [(3, (.sl 0 0 l0.length 1 false))]) [some ⟨5, l0.map (eI .u8)⟩] := by
    intro l0 hr
    unfold aAL at hr
    refine hK1 _ _ ?_
    refine zz ?_
    obtain rfl := sj hr
    exact bO Tryz.results80 [0]
  obtain ⟨bD, hL2, hr⟩ := aA hr
  refine zz ?_
  refine AB.block <| AB.loopN (fun m s h => ∃ (x8 : Int) (aS : List Int), n7 N parts m x8 aS = some bD ∧ Ghost 0 s h (aG 17 [(3, (.sl 0 0 aS.length 1 false)), (6, (.row none 1 (parts.map (eL 1 (eI .u8))))), (7, (eI .i64 (parts.length : Int))), (8, (eI .i64 x8))]) [some ⟨5, aS.map (eI .u8)⟩]) (n := N) ⟨0, [], hL2, (zW 5 [0])⟩ (by rintro s h ⟨_, _, h0, _⟩; simp [n7] at h0) ?_
  rintro m2 s h ⟨x8, aS, hr2, hg⟩
  refine AB.ghost hg ?_
  clear hg hL2
  rw [n7] at hr2
  refine zz ?_
  refine AB.seq ?_
  refine zk hr2 rfl (fun h1 hr2 => ?_) (fun h1 hr2 => ?_)
  · refine zz ?_
    refine AB.seq <| AB.block ?_
    obtain ⟨bS, h_2, hr2⟩ := aA hr2
    obtain ⟨aZ, h_3, hr2⟩ := aA hr2
    refine zz ?_
    exact ⟨IntKind.i64.wrap (x8 + 1), aZ, hr2, (zG [1])⟩
  · refine zz ?_
    obtain rfl := sj hr2
    refine zz ?_
    exact hG1 _ _ _ _ (zG [0]) (J1 aS hr)
theorem q6 {N : Nat} {x : Int} {k : Int} {r : Int} (hr : iC N x k = some r) :
    Vm.Fn Tryz.prog 129 [] [(eI .u32 x), (eI .i64 k)] (eI .u32 r) [] := by
  refine zf Tryz.func129 Tryz.ntmps129 ?_
  unfold iC at hr
  obtain ⟨bW, h_1, hr⟩ := aA hr
  obtain ⟨x15, h_2, hr⟩ := aA hr
  refine zz ?_
  obtain rfl := sj hr
  exact bO Tryz.results129 []
theorem jE {N : Nat} {x : Int} {vn : Int} {r : Int} (hr : cN N x vn = some r) :
    Vm.Fn Tryz.prog 124 [] [(eI .u32 x), (eI .i64 vn)] (eI .u32 r) [] := by
  refine zf Tryz.func124 Tryz.ntmps124 ?_
  unfold cN at hr
  obtain ⟨x8, h_1, hr⟩ := aA hr
  refine zz ?_
  refine xw (aG2 rfl (aI5 ..)) <| xp (q6 h_1) ?_
  refine zz ?_
  obtain rfl := sj hr
  exact bO Tryz.results124 []
theorem aDW {N : Nat} {block : List Int} {r : (List Int)} (hr : mR N block = some r) :
    Vm.Fn Tryz.prog 123 [] [(.agg (block.map (eI .u8)))] (.agg (r.map (eI .u32))) [] := by
  refine zf Tryz.func123 Tryz.ntmps123 ?_
  unfold mR at hr
  refine zz ?_
  refine AB.seq_g fun K1 hK1 hG1 => ?_
  have J1 : ∀ (l1 : List Int), nP N l1 = some r → K1 (aG 85 [(2, (.ptr 0 0)), (3, (.ptr 1 0))]) [some ⟨164, (List.replicate 64 0).map (eI .u32)⟩, some ⟨164, l1.map (eI .u32)⟩] := by
    intro l1 hr
    unfold nP at hr
    refine hK1 _ _ ?_
    refine AB.seq_g fun K2 hK2 hG2 => ?_
    have J2 : ∀ (c5 : List Int), oE N c5 = some r → K2 (aG 85 [(2, (.ptr 0 0)), (3, (.ptr 1 0))]) [some ⟨164, (List.replicate 64 0).map (eI .u32)⟩, some ⟨164, c5.map (eI .u32)⟩] := by
      intro c5 hr
      unfold oE at hr
      refine hK2 _ _ ?_
      obtain ⟨q, h_1, hr⟩ := aA hr
      refine zz ?_
      obtain rfl := sj hr
      exact eR Tryz.results123 bC (zG [])
    obtain ⟨u4, hL3, hr⟩ := aA hr
    refine zz ?_
    refine AB.block <| AB.loopN (fun m s h => ∃ (vi : Int) (cO : List Int), fV N m vi cO = some u4 ∧ Ghost 0 s h (aG 85 [(2, (.ptr 0 0)), (3, (.ptr 1 0)), (6, (eI .i64 vi))]) [some ⟨164, (List.replicate 64 0).map (eI .u32)⟩, some ⟨164, cO.map (eI .u32)⟩]) (n := N) ⟨16, l1, hL3, (zG [0, 1])⟩ (by rintro s h ⟨_, _, h0, _⟩; simp [fV] at h0) ?_
    rintro m3 s h ⟨vi, cO, hr3, hg⟩
    refine AB.ghost hg ?_
    clear hg hL3
    rw [fV] at hr3
    refine AB.seq ?_
    refine zz ?_
    refine zk hr3 rfl (fun h2 hr3 => ?_) (fun h2 hr3 => ?_)
    · refine zz ?_
      refine AB.seq <| AB.block <| AB.seq ?_
      obtain ⟨x37, h_3, hr3⟩ := aA hr3
      obtain ⟨x39, h_4, hr3⟩ := aA hr3
      obtain ⟨x44, h_6, hr3⟩ := aA hr3
      obtain ⟨x50, h_8, hr3⟩ := aA hr3
      refine AB.rs mixed [124] [] [[0, 1, 2, 3, 4, 5, 6, 7, 8, 9, 10, 11, 12, 13, 14, 15, 16, 17]] ?_
      refine zz ?_
      refine xu (jE h_4) ?_
      refine zz ?_
      refine xu (jE h_6) ?_
      refine zz ?_
      refine AB.seq ?_
      obtain ⟨x54, h_9, hr3⟩ := aA hr3
      obtain ⟨x56, h_10, hr3⟩ := aA hr3
      obtain ⟨x61, h_12, hr3⟩ := aA hr3
      obtain ⟨x67, h_14, hr3⟩ := aA hr3
      refine AB.rs mixed [124] [] [[0, 1, 2, 3, 4, 5, 6, 7, 8, 9, 10, 11, 12, 13, 14, 15, 16, 17]] ?_
      refine zz ?_
      refine xu (jE h_10) ?_
      refine zz ?_
      refine xu (jE h_12) ?_
      obtain ⟨x72, h_15, hr3⟩ := aA hr3
      obtain ⟨x78, h_16, hr3⟩ := aA hr3
      obtain ⟨x83, h_17, hr3⟩ := aA hr3
      refine zz ?_
      refine AB.rs mixed [] [] [[0, 1, 2, 3, 4, 5, 6, 7, 8, 9, 10, 11, 12, 13, 14, 15]] ?_
      refine zz ?_
      exact ⟨IntKind.i64.wrap (vi + 1), cO.set (Int.toNat vi) (IntKind.u32.wrap ((IntKind.u32.wrap ((IntKind.u32.wrap (x72 + (bits .xor .u32 (bits .xor .u32 x39 x44) x50))) + x78)) + (bits .xor .u32 (bits .xor .u32 x56 x61) x67))), hr3, (zG [0, 1])⟩
    · refine zz ?_
      obtain rfl := sj hr3
      refine zz ?_
      exact hG2 _ _ _ _ (zG [0, 1]) (J2 cO hr)
  obtain ⟨res4, hL4, hr⟩ := aA hr
  refine zz ?_
  refine AB.block <| AB.loopN (fun m s h => ∃ (x9 : Int) (l2 : List Int), eQ N block m x9 l2 = some res4 ∧ Ghost 0 s h (aG 85 [(1, (.ptr 0 0)), (2, (.ptr 1 0)), (3, (.ptr 2 0)), (9, (eI .i64 x9))]) [some ⟨148, block.map (eI .u8)⟩, some ⟨164, (List.replicate 64 0).map (eI .u32)⟩, some ⟨164, l2.map (eI .u32)⟩]) (n := N) ⟨0, List.replicate 64 0, hL4, (zG [0, 1, 2])⟩ (by rintro s h ⟨_, _, h0, _⟩; simp [eQ] at h0) ?_
  rintro m4 s h ⟨x9, l2, hr4, hg⟩
  refine AB.ghost hg ?_
  clear hg hL4
  rw [eQ] at hr4
  refine zz ?_
  refine AB.seq ?_
  refine zk hr4 rfl (fun h18 hr4 => ?_) (fun h18 hr4 => ?_)
  · refine zz ?_
    refine AB.seq_g fun K5 hK5 hG5 => ?_
    have J5 : ∀ (cX : List Int), q8 N block x9 (eQ N block m4) cX = some res4 → K5 (aG 85 [(1, (.ptr 0 0)), (2, (.ptr 1 0)), (3, (.ptr 2 0)), (9, (eI .i64 x9))]) [some ⟨148, block.map (eI .u8)⟩, some ⟨164, (List.replicate 64 0).map (eI .u32)⟩, some ⟨164, cX.map (eI .u32)⟩] := by
      intro cX hr4
      unfold q8 at hr4
      refine hK5 _ _ ?_
      refine zz ?_
      exact ⟨IntKind.i64.wrap (x9 + 1), cX, hr4, (zG [0, 1, 2])⟩
    refine AB.block ?_
    obtain ⟨res6, hL6, hr4⟩ := aA hr4
    refine zz ?_
    refine AB.block <| AB.loopN (fun m s h => ∃ (cL : Int) (eE : List Int), c6 N block x9 m cL eE = some res6 ∧ Ghost 0 s h (aG 85 [(1, (.ptr 0 0)), (2, (.ptr 1 0)), (3, (.ptr 2 0)), (4, (eI .i64 x9)), (9, (eI .i64 x9)), (12, (eI .i64 cL))]) [some ⟨148, block.map (eI .u8)⟩, some ⟨164, (List.replicate 64 0).map (eI .u32)⟩, some ⟨164, eE.map (eI .u32)⟩]) (n := N) ⟨0, l2, hL6, (zG [0, 1, 2])⟩ (by rintro s h ⟨_, _, h0, _⟩; simp [c6] at h0) ?_
    rintro m6 s h ⟨cL, eE, hr6, hg⟩
    refine AB.ghost hg ?_
    clear hg hL6
    rw [c6] at hr6
    refine zz ?_
    refine AB.seq ?_
    refine zk hr6 rfl (fun h19 hr6 => ?_) (fun h19 hr6 => ?_)
    · refine zz ?_
      refine AB.seq <| AB.block ?_
      obtain ⟨x17, h_20, hr6⟩ := aA hr6
      obtain ⟨x19, h_21, hr6⟩ := aA hr6
      obtain ⟨jD, h_22, hr6⟩ := aA hr6
      refine zz ?_
      refine AB.rs mixed [] [] [[0, 1, 2, 3, 4, 5, 6, 7, 8, 9, 10, 11, 12, 13, 14]] ?_
      refine zz ?_
      exact ⟨IntKind.i64.wrap (cL + 1), eE.set (Int.toNat x9) (bits .or .u32 x19 (IntKind.u32.wrap jD)), hr6, (zG [0, 1, 2])⟩
    · refine zz ?_
      obtain rfl := sj hr6
      refine zz ?_
      exact hG5 _ _ _ _ (zG [0, 1, 2]) (J5 eE hr4)
  · refine zz ?_
    obtain rfl := sj hr4
    refine zz ?_
    exact hG1 _ _ _ _ (zG [1, 2]) (J1 l2 hr)
theorem aD7 {N : Nat} {bX : List Int} {block : List Int} {r : (List Int)} (hr : jV N bX block = some r) :
    Vm.Fn Tryz.prog 107 [] [(.agg (bX.map (eI .u32))), (.agg (block.map (eI .u8)))] (.agg (r.map (eI .u32))) [] := by
  refine zf Tryz.func107 Tryz.ntmps107 ?_
  unfold jV at hr
  obtain ⟨q, h_1, hr⟩ := aA hr
  obtain ⟨x18, h_2, hr⟩ := aA hr
  obtain ⟨q_1, h_3, hr⟩ := aA hr
  refine zz ?_
  refine xp (aDW h_2) ?_
  refine zz ?_
  refine AB.seq ?_
  obtain ⟨x19, h_4, hr⟩ := aA hr
  obtain ⟨dE, h_5, hr⟩ := aA hr
  obtain ⟨e9, h_6, hr⟩ := aA hr
  obtain ⟨x25, h_7, hr⟩ := aA hr
  refine AB.rs mixed [] [] [[0, 1, 2, 3, 4, 5, 6, 7, 8, 9, 10, 11]] ?_
  refine zz ?_
  refine AB.seq ?_
  obtain ⟨x27, h_8, hr⟩ := aA hr
  obtain ⟨x29, h_9, hr⟩ := aA hr
  obtain ⟨eV, h_10, hr⟩ := aA hr
  obtain ⟨oG, h_11, hr⟩ := aA hr
  refine AB.rs mixed [] [] [[0, 1, 2, 3, 4, 5, 6, 7, 8, 9, 10, 11]] ?_
  refine zz ?_
  refine AB.seq_g fun K1 hK1 hG1 => ?_
  have J1 : ∀ (va : Int) (b : Int) (c : Int) (d : Int) (ve : Int) (f : Int) (g : Int) (vh : Int), oF N bX va b c d ve f g vh = some r → K1 (aG 131 [(2, (.ptr 0 0)), (4, (.ptr 1 0)), (6, (eI .u32 va)), (7, (eI .u32 b)), (8, (eI .u32 c)), (9, (eI .u32 d)), (10, (eI .u32 ve)), (11, (eI .u32 f)), (12, (eI .u32 g)), (13, (eI .u32 vh))]) [some ⟨146, bX.map (eI .u32)⟩, some ⟨146, (List.replicate 8 0).map (eI .u32)⟩] := by
    intro va b c d ve f g vh hr
    unfold oF at hr
    refine hK1 _ _ ?_
    obtain ⟨x98, h_12, hr⟩ := aA hr
    obtain ⟨aEj, h_13, hr⟩ := aA hr
    obtain ⟨rZ, h_14, hr⟩ := aA hr
    obtain ⟨aKi, h_15, hr⟩ := aA hr
    obtain ⟨aEC, h_16, hr⟩ := aA hr
    obtain ⟨aKO, h_17, hr⟩ := aA hr
    obtain ⟨aB5, h_18, hr⟩ := aA hr
    obtain ⟨cA, h_19, hr⟩ := aA hr
    refine zz ?_
    refine xw (v := (.agg ([IntKind.u32.wrap (x98 + va), IntKind.u32.wrap (aEj + b), IntKind.u32.wrap (rZ + c), IntKind.u32.wrap (aKi + d), IntKind.u32.wrap (aEC + ve), IntKind.u32.wrap (aKO + f), IntKind.u32.wrap (aB5 + g), IntKind.u32.wrap (cA + vh)].map (eI .u32)))) (cB rfl (k4 aCo tA rfl)) ?_
    refine zz ?_
    obtain rfl := sj hr
    exact eR Tryz.results107 bC (zG [])
  obtain ⟨bD, hL2, hr⟩ := aA hr
  refine zz ?_
  refine AB.block <| AB.loopN (fun m s h => ∃ (va_1 : Int) (b_1 : Int) (c_1 : Int) (d_1 : Int) (ve_1 : Int) (f_1 : Int) (g_1 : Int) (vh_1 : Int) (x35 : Int), fS N bX x18 m va_1 b_1 c_1 d_1 ve_1 f_1 g_1 vh_1 x35 = some bD ∧ Ghost 0 s h (aG 131 [(2, (.ptr 0 0)), (4, (.ptr 1 0)), (5, (.ptr 2 0)), (6, (eI .u32 va_1)), (7, (eI .u32 b_1)), (8, (eI .u32 c_1)), (9, (eI .u32 d_1)), (10, (eI .u32 ve_1)), (11, (eI .u32 f_1)), (12, (eI .u32 g_1)), (13, (eI .u32 vh_1)), (35, (eI .i64 x35))]) [some ⟨146, bX.map (eI .u32)⟩, some ⟨146, (List.replicate 8 0).map (eI .u32)⟩, some ⟨164, x18.map (eI .u32)⟩]) (n := N) ⟨x19, dE, e9, x25, x27, x29, eV, oG, 0, hL2, (zG [0, 2, 3])⟩ (by rintro s h ⟨_, _, _, _, _, _, _, _, _, h0, _⟩; simp [fS] at h0) ?_
  rintro m2 s h ⟨va_1, b_1, c_1, d_1, ve_1, f_1, g_1, vh_1, x35, hr2, hg⟩
  refine AB.ghost hg ?_
  clear hg hL2
  rw [fS] at hr2
  refine zz ?_
  refine AB.seq ?_
  refine zk hr2 rfl (fun h20 hr2 => ?_) (fun h20 hr2 => ?_)
  · refine zz ?_
    refine AB.seq <| AB.block ?_
    refine zz ?_
    refine AB.seq ?_
    obtain ⟨x40, h_21, hr2⟩ := aA hr2
    obtain ⟨x42, h_23, hr2⟩ := aA hr2
    obtain ⟨x45, h_25, hr2⟩ := aA hr2
    obtain ⟨x58, h_27, hr2⟩ := aA hr2
    obtain ⟨x62, h_28, hr2⟩ := aA hr2
    refine AB.rs mixed [124] [] [[0, 1, 2, 3, 4, 5, 6, 7, 8, 9, 10, 11, 12, 13, 14, 15, 16, 17, 18, 19, 20, 21, 22, 23, 24, 25, 26, 27]] ?_
    refine zz ?_
    refine xu (jE h_21) ?_
    refine zz ?_
    refine xu (jE h_23) ?_
    refine zz ?_
    refine xu (jE h_25) ?_
    refine zz ?_
    refine xw (v := (eI .u32 (bits .xor .u32 (IntKind.max .u32) ve_1))) (aG2 rfl (aHK rfl _)) ?_
    refine zz ?_
    refine xw (v := (.eptr [(.agg (aAk.map (eI .u32)))] 0 (Int.toNat x35))) (aAn rfl rfl (iaG aIq tA rfl h_27)) <| xw (v := (eI .u32 x58)) (bA rfl (ldG (E := (eI .u32)) (y := x58) tA rfl (nF h_27))) ?_
    obtain ⟨x66, h_29, hr2⟩ := aA hr2
    obtain ⟨x68, h_30, hr2⟩ := aA hr2
    obtain ⟨x71, h_31, hr2⟩ := aA hr2
    refine zz ?_
    refine xp (jE h_29) ?_
    refine zz ?_
    refine xp (jE h_30) ?_
    refine zz ?_
    refine xp (jE h_31) ?_
    refine zz ?_
    exact ⟨IntKind.u32.wrap ((IntKind.u32.wrap ((IntKind.u32.wrap ((IntKind.u32.wrap ((IntKind.u32.wrap (vh_1 + (bits .xor .u32 (bits .xor .u32 x40 x42) x45))) + (bits .xor .u32 (bits .and .u32 ve_1 f_1) (bits .and .u32 (bits .xor .u32 (IntKind.max .u32) ve_1) g_1)))) + x58)) + x62)) + (IntKind.u32.wrap ((bits .xor .u32 (bits .xor .u32 x66 x68) x71) + (bits .xor .u32 (bits .xor .u32 (bits .and .u32 va_1 b_1) (bits .and .u32 va_1 c_1)) (bits .and .u32 b_1 c_1))))), va_1, b_1, c_1, IntKind.u32.wrap (d_1 + (IntKind.u32.wrap ((IntKind.u32.wrap ((IntKind.u32.wrap ((IntKind.u32.wrap (vh_1 + (bits .xor .u32 (bits .xor .u32 x40 x42) x45))) + (bits .xor .u32 (bits .and .u32 ve_1 f_1) (bits .and .u32 (bits .xor .u32 (IntKind.max .u32) ve_1) g_1)))) + x58)) + x62))), ve_1, f_1, g_1, IntKind.i64.wrap (x35 + 1), hr2, (zG [0, 1, 2])⟩
  · refine zz ?_
    obtain rfl := sj hr2
    refine zz ?_
    exact hG1 _ _ _ _ (zG [0, 1]) (J1 va_1 b_1 c_1 d_1 ve_1 f_1 g_1 vh_1 hr)
theorem aA2 {N : Nat} {b : List Int} {r : (List Int)} (hr : wI N b = some r) :
    Vm.Fn Tryz.prog 79 [] [(.row none 1 (b.map (eI .u8)))] (.agg (r.map (eI .u8))) [] := by
  refine zf Tryz.func79 Tryz.ntmps79 ?_
  unfold wI at hr
  obtain ⟨cL, h_1, hr⟩ := aA hr
  obtain ⟨aZ, h_2, hr⟩ := aA hr
  refine zz ?_
  refine zc (aH4 h_1) [] ?_
  refine OpsX.ghost (zv 1) ?_
  refine zz ?_
  refine vG (aDU h_2) [] [2] ?_
  refine zz ?_
  refine xw (v := (.agg (tB.map (eI .u32)))) (bA rfl (aGs (E := (eI .u32)) (l := tB) aCo rfl rfl)) ?_
  refine zz ?_
  refine AB.seq_g fun K1 hK1 hG1 => ?_
  have J1 : ∀ (l1 : List Int), yN N l1 = some r → K1 (aG 48 [(2, (.ptr 0 0)), (4, (.ptr 1 0))]) [some ⟨24, (List.replicate 32 0).map (eI .u8)⟩, some ⟨146, l1.map (eI .u32)⟩] := by
    intro l1 hr
    unfold yN at hr
    refine hK1 _ _ ?_
    refine zz ?_
    refine AB.seq_g fun K2 hK2 hG2 => ?_
    have J2 : ∀ (c5 : List Int), yO N c5 = some r → K2 (aG 48 [(2, (.ptr 0 0)), (6, (.ptr 1 0))]) [some ⟨24, (List.replicate 32 0).map (eI .u8)⟩, some ⟨24, c5.map (eI .u8)⟩] := by
      intro c5 hr
      unfold yO at hr
      refine hK2 _ _ ?_
      obtain ⟨q, h_3, hr⟩ := aA hr
      refine zz ?_
      obtain rfl := sj hr
      exact eR Tryz.results79 bC (zG [])
    obtain ⟨u4, hL3, hr⟩ := aA hr
    refine zz ?_
    refine AB.block <| AB.loopN (fun m s h => ∃ (eV : Int) (l2 : List Int), p8 N l1 m eV l2 = some u4 ∧ Ghost 0 s h (aG 48 [(2, (.ptr 0 0)), (4, (.ptr 1 0)), (6, (.ptr 2 0)), (31, (eI .i64 eV))]) [some ⟨24, (List.replicate 32 0).map (eI .u8)⟩, some ⟨146, l1.map (eI .u32)⟩, some ⟨24, l2.map (eI .u8)⟩]) (n := N) ⟨0, List.replicate 32 0, hL3, (zG [0, 1, 2])⟩ (by rintro s h ⟨_, _, h0, _⟩; simp [p8] at h0) ?_
    rintro m3 s h ⟨eV, l2, hr3, hg⟩
    refine AB.ghost hg ?_
    clear hg hL3
    rw [p8] at hr3
    refine zz ?_
    refine AB.seq ?_
    refine zk hr3 rfl (fun h4 hr3 => ?_) (fun h4 hr3 => ?_)
    · refine zz ?_
      refine AB.seq <| AB.block ?_
      obtain ⟨x37, h_5, hr3⟩ := aA hr3
      obtain ⟨x43, h_6, hr3⟩ := aA hr3
      obtain ⟨x45, h_7, hr3⟩ := aA hr3
      refine zz ?_
      exact ⟨IntKind.i64.wrap (eV + 1), l2.set (Int.toNat eV) (IntKind.u8.wrap x43), hr3, (zG [0, 1, 2])⟩
    · refine zz ?_
      obtain rfl := sj hr3
      refine zz ?_
      exact hG2 _ _ _ _ (zG [0, 2]) (J2 l2 hr)
  refine zz ?_
  refine AB.ghost (zv 3) ?_
  obtain ⟨res4, hL4, hr⟩ := aA hr
  refine AB.block <| AB.loopN (fun m s h => ∃ (x19 : Int) (cO : List Int), pV N aZ m x19 cO = some res4 ∧ Ghost 0 s h (aG 48 [(2, (.ptr 0 0)), (3, (.row none 1 (aZ.map (eI .u8)))), (4, (.ptr 1 0)), (18, (eI .i64 (IntKind.i64.wrap (Int.tdiv (aZ.length : Int) 64)))), (19, (eI .i64 x19))]) [some ⟨24, (List.replicate 32 0).map (eI .u8)⟩, some ⟨146, cO.map (eI .u32)⟩]) (n := N) ⟨0, tB, hL4, (zG [0, 4])⟩ (by rintro s h ⟨_, _, h0, _⟩; simp [pV] at h0) ?_
  rintro m4 s h ⟨x19, cO, hr4, hg⟩
  refine AB.ghost hg ?_
  clear hg hL4
  rw [pV] at hr4
  refine zz ?_
  refine AB.seq ?_
  refine zk hr4 rfl (fun h8 hr4 => ?_) (fun h8 hr4 => ?_)
  · refine zz ?_
    refine AB.seq <| AB.block ?_
    obtain ⟨q_1, h_9, hr4⟩ := aA hr4
    obtain ⟨x26, h_10, hr4⟩ := aA hr4
    obtain ⟨x27, h_11, hr4⟩ := aA hr4
    obtain ⟨x29, h_12, hr4⟩ := aA hr4
    obtain ⟨q_2, h_14, hr4⟩ := aA hr4
    refine zz ?_
    refine AB.rs mixed [107] [] [[0, 1, 2, 3, 4, 5, 6, 7, 8]] ?_
    refine zz ?_
    refine xw (v := (.eptr [.agg (x27.map (eI .u8))] 0 0)) (aAU rfl (apR (E := (eI .u8)) aH9 (fun _ => rfl) zl h_11)) <| xw (v := (.agg (x27.map (eI .u8)))) (bA rfl (aGs (E := (eI .u8)) (l := x27) aH9 rfl (bP h_11))) <| xu (aD7 h_12) ?_
    refine zz ?_
    exact ⟨IntKind.i64.wrap (x19 + 1), x29, hr4, (zG [0, 1])⟩
  · refine zz ?_
    obtain rfl := sj hr4
    refine zz ?_
    exact hG1 _ _ _ _ (zG [0, 1]) (J1 cO hr)
theorem oY {N : Nat} {vh : List Int} {r : (List Int)} (hr : eM N vh = some r) :
    Vm.Fn Tryz.prog 130 [] [(.agg (vh.map (eI .u8)))] (.agg (r.map (eI .u64))) [] := by
  refine zf Tryz.func130 Tryz.ntmps130 ?_
  unfold eM at hr
  refine zz ?_
  refine AB.seq_g fun K1 hK1 hG1 => ?_
  have J1 : ∀ (l1 : List Int), lP N l1 = some r → K1 (aG 26 [(2, (.ptr 0 0)), (3, (.ptr 1 0))]) [some ⟨31, (List.replicate 4 0).map (eI .u64)⟩, some ⟨31, l1.map (eI .u64)⟩] := by
    intro l1 hr
    unfold lP at hr
    refine hK1 _ _ ?_
    obtain ⟨q, h_1, hr⟩ := aA hr
    refine zz ?_
    obtain rfl := sj hr
    exact eR Tryz.results130 bC (zG [])
  obtain ⟨q_1, h_2, hr⟩ := aA hr
  obtain ⟨bD, hL2, hr⟩ := aA hr
  refine zz ?_
  refine AB.block <| AB.loopN (fun m s h => ∃ (x8 : Int) (c5 : List Int), eG N vh m x8 c5 = some bD ∧ Ghost 0 s h (aG 26 [(2, (.ptr 0 0)), (3, (.ptr 1 0)), (7, (.agg (vh.map (eI .u8)))), (8, (eI .i64 x8))]) [some ⟨31, (List.replicate 4 0).map (eI .u64)⟩, some ⟨31, c5.map (eI .u64)⟩]) (n := N) ⟨0, List.replicate 4 0, hL2, (zG [1, 2])⟩ (by rintro s h ⟨_, _, h0, _⟩; simp [eG] at h0) ?_
  rintro m2 s h ⟨x8, c5, hr2, hg⟩
  refine AB.ghost hg ?_
  clear hg hL2
  rw [eG] at hr2
  refine zz ?_
  refine AB.seq ?_
  refine zk hr2 rfl (fun h3 hr2 => ?_) (fun h3 hr2 => ?_)
  · refine zz ?_
    refine AB.seq <| AB.block ?_
    obtain ⟨bW, h_4, hr2⟩ := aA hr2
    refine zz ?_
    refine xw (v := (eI .u8 bW)) (aKm rfl rfl (ixA (E := (eI .u8)) s8 jC rfl rfl h_4)) ?_
    obtain ⟨x17, h_5, hr2⟩ := aA hr2
    obtain ⟨x19, h_6, hr2⟩ := aA hr2
    refine zz ?_
    exact ⟨IntKind.i64.wrap (x8 + 1), c5.set (Int.toNat (IntKind.i64.wrap (3 - (IntKind.i64.wrap (Int.tdiv x8 8))))) (bits .or .u64 x19 (IntKind.u64.wrap bW)), hr2, (zG [0, 1])⟩
  · refine zz ?_
    obtain rfl := sj hr2
    refine zz ?_
    exact hG1 _ _ _ _ (zG [0, 1]) (J1 c5 hr)
theorem mN {N : Nat} {vn : Int} {r : (List Int)} (hr : eH N vn = some r) :
    Vm.Fn Tryz.prog 134 [] [(eI .u64 vn)] (.agg (r.map (eI .u64))) [] := by
  refine zf Tryz.func134 Tryz.ntmps134 ?_
  unfold eH at hr
  refine zz ?_
  refine xw (v := (.agg ([vn, 0, 0, 0].map (eI .u64)))) (cB rfl (k4 bE jL rfl)) ?_
  refine zz ?_
  obtain rfl := sj hr
  exact eR Tryz.results134 bC (zG [])
theorem zY {N : Nat} {r : (List Int)} (hr : nD N = some r) :
    Vm.Fn Tryz.prog 144 [] [] (.agg (r.map (eI .u64))) [] := by
  refine zf Tryz.func144 Tryz.ntmps144 ?_
  unfold nD at hr
  refine zz ?_
  refine xw (v := (.agg ([18446744073709515503, 18446744073709551615, 18446744073709551615, 18446744073709551615].map (eI .u64)))) (cB rfl (k4 bE jL rfl)) ?_
  refine zz ?_
  obtain rfl := sj hr
  exact eR Tryz.results144 bC (zG [])
theorem qR {N : Nat} {va : List Int} {b : List Int} {r : Int} (hr : lL N va b = some r) :
    Vm.Fn Tryz.prog 143 [] [(.agg (va.map (eI .u64))), (.agg (b.map (eI .u64)))] (eI .i64 r) [] := by
  refine zf Tryz.func143 Tryz.ntmps143 ?_
  unfold lL at hr
  refine zz ?_
  refine AB.seq_g fun K1 hK1 hG1 => ?_
  have J1 : xD N = some r → K1 (aG 24 []) [] := by
    intro hr
    unfold xD at hr
    refine hK1 _ _ ?_
    refine zz ?_
    obtain rfl := sj hr
    exact bO Tryz.results143 []
  obtain ⟨bD, hL2, hr⟩ := aA hr
  refine zz ?_
  refine AB.block <| AB.loopN (fun m s h => ∃ (vi : Int), kO N va b m vi = some bD ∧ Ghost 0 s h (aG 24 [(2, (.ptr 0 0)), (3, (.ptr 1 0)), (5, (eI .i64 vi))]) [some ⟨31, va.map (eI .u64)⟩, some ⟨31, b.map (eI .u64)⟩]) (n := N) ⟨3, hL2, (zG [0, 1])⟩ (by rintro s h ⟨_, h0, _⟩; simp [kO] at h0) ?_
  rintro m2 s h ⟨vi, hr2, hg⟩
  refine AB.ghost hg ?_
  clear hg hL2
  rw [kO] at hr2
  refine AB.seq ?_
  refine zz ?_
  refine zk hr2 rfl (fun h1 hr2 => ?_) (fun h1 hr2 => ?_)
  · refine zz ?_
    refine AB.seq <| AB.block <| AB.seq <| AB.seq ?_
    obtain ⟨bW, h_2, hr2⟩ := aA hr2
    obtain ⟨aZ, h_3, hr2⟩ := aA hr2
    refine AB.rs mixed [] [] [[0, 1, 2, 3, 4, 5, 6]] ?_
    refine zz ?_
    refine zk hr2 rfl (fun h4 hr2 => ?_) (fun h4 hr2 => ?_)
    · refine zz ?_
      obtain rfl := sj hr2
      obtain rfl := sj hr
      exact bO Tryz.results143 []
    · refine zz ?_
      refine AB.seq <| AB.rs mixed [] [] [[0, 1, 2, 3, 4, 5, 6]] ?_
      refine zz ?_
      refine zk hr2 rfl (fun h5 hr2 => ?_) (fun h5 hr2 => ?_)
      · refine zz ?_
        obtain rfl := sj hr2
        obtain rfl := sj hr
        exact bO Tryz.results143 []
      · refine zz ?_
        exact ⟨IntKind.i64.wrap (vi - 1), hr2, (zG [0, 1])⟩
  · refine zz ?_
    obtain rfl := sj hr2
    refine zz ?_
    exact hG1 _ _ _ _ (zG []) (J1 hr)
theorem sQ {N : Nat} {r : (List Int)} (hr : lV N = some r) :
    Vm.Fn Tryz.prog 138 [] [] (.agg (r.map (eI .u64))) [] := by
  refine zf Tryz.func138 Tryz.ntmps138 ?_
  unfold lV at hr
  refine zz ?_
  refine xw (v := (.agg ([18446744073709533559, 18446744073709551615, 18446744073709551615, 9223372036854775807].map (eI .u64)))) (cB rfl (k4 bE jL rfl)) ?_
  refine zz ?_
  obtain rfl := sj hr
  exact eR Tryz.results138 bC (zG [])
theorem aBU {N : Nat} {x : Int} {r : Int} (hr : nV N x = some r) :
    Vm.Fn Tryz.prog 152 [] [(eI .u64 x)] (eI .i64 r) [] := by
  refine zf Tryz.func152 Tryz.ntmps152 ?_
  unfold nV at hr
  refine zz ?_
  refine AB.seq_g fun K1 hK1 hG1 => ?_
  have J1 : ∀ (x_1 : Int) (vn : Int), iV N x_1 vn = some r → K1 (aG 25 [(0, (eI .u64 x_1)), (2, (eI .i64 vn))]) [] := by
    intro x_1 vn hr
    unfold iV at hr
    refine hK1 _ _ ?_
    refine AB.seq_g fun K2 hK2 hG2 => ?_
    have J2 : ∀ (x_2 : Int) (fW : Int), i5 N x_2 fW = some r → K2 (aG 25 [(0, (eI .u64 x_2)), (2, (eI .i64 fW))]) [] := by
      intro x_2 fW hr
      unfold i5 at hr
      refine hK2 _ _ ?_
      refine AB.seq_g fun K3 hK3 hG3 => ?_
      have J3 : ∀ (x_3 : Int) (xZ : Int), gB N x_3 xZ = some r → K3 (aG 25 [(0, (eI .u64 x_3)), (2, (eI .i64 xZ))]) [] := by
        intro x_3 xZ hr
        unfold gB at hr
        refine hK3 _ _ ?_
        obtain ⟨dW, h_1, hr⟩ := aA hr
        refine zz ?_
        refine xw (v := (eI .u8 dW)) (aKm rfl rfl (ixT ti9 h_1)) ?_
        refine zz ?_
        obtain rfl := sj hr
        exact bO Tryz.results152 []
      refine zz ?_
      refine zk hr rfl (fun h2 hr => ?_) (fun h2 hr => ?_)
      · obtain ⟨x16, h_3, hr⟩ := aA hr
        refine zz ?_
        exact hG3 _ _ _ _ (zG []) (J3 x16 (IntKind.i64.wrap (fW + 8)) hr)
      · refine zz ?_
        exact hG3 _ _ _ _ (zG []) (J3 x_2 fW hr)
    refine zz ?_
    refine zk hr rfl (fun h4 hr => ?_) (fun h4 hr => ?_)
    · obtain ⟨bS, h_5, hr⟩ := aA hr
      refine zz ?_
      exact hG2 _ _ _ _ (zG []) (J2 bS (IntKind.i64.wrap (vn + 16)) hr)
    · refine zz ?_
      exact hG2 _ _ _ _ (zG []) (J2 x_1 vn hr)
  refine zz ?_
  refine zk hr rfl (fun h6 hr => ?_) (fun h6 hr => ?_)
  · obtain ⟨x6, h_7, hr⟩ := aA hr
    refine zz ?_
    exact hG1 _ _ _ _ (zG []) (J1 x6 32 hr)
  · refine zz ?_
    exact hG1 _ _ _ _ (zG []) (J1 x 0 hr)
theorem aHg {N : Nat} {va : List Int} {r : Int} (hr : zK N va = some r) :
    Vm.Fn Tryz.prog 146 [] [(.agg (va.map (eI .u64)))] (eI .i64 r) [] := by
  refine zf Tryz.func146 Tryz.ntmps146 ?_
  unfold zK at hr
  refine zz ?_
  refine AB.seq_g fun K1 hK1 hG1 => ?_
  have J1 : wW N = some r → K1 (aG 19 []) [] := by
    intro hr
    unfold wW at hr
    refine hK1 _ _ ?_
    refine zz ?_
    obtain rfl := sj hr
    exact bO Tryz.results146 []
  obtain ⟨bD, hL2, hr⟩ := aA hr
  refine zz ?_
  refine AB.block <| AB.loopN (fun m s h => ∃ (vi : Int), oI N va m vi = some bD ∧ Ghost 0 s h (aG 19 [(1, (.ptr 0 0)), (3, (eI .i64 vi))]) [some ⟨31, va.map (eI .u64)⟩]) (n := N) ⟨3, hL2, (zG [0])⟩ (by rintro s h ⟨_, h0, _⟩; simp [oI] at h0) ?_
  rintro m2 s h ⟨vi, hr2, hg⟩
  refine AB.ghost hg ?_
  clear hg hL2
  rw [oI] at hr2
  refine AB.seq ?_
  refine zz ?_
  refine zk hr2 rfl (fun h1 hr2 => ?_) (fun h1 hr2 => ?_)
  · refine zz ?_
    refine AB.seq <| AB.block ?_
    obtain ⟨x9, h_2, hr2⟩ := aA hr2
    refine zz ?_
    refine zk hr2 rfl (fun h3 hr2 => ?_) (fun h3 hr2 => ?_)
    · obtain ⟨x17, h_4, hr2⟩ := aA hr2
      refine zz ?_
      refine xp (aBU h_4) ?_
      refine zz ?_
      obtain rfl := sj hr2
      obtain rfl := sj hr
      exact bO Tryz.results146 []
    · refine zz ?_
      exact ⟨IntKind.i64.wrap (vi - 1), hr2, (zG [0])⟩
  · refine zz ?_
    obtain rfl := sj hr2
    refine zz ?_
    exact hG1 _ _ _ _ (zG []) (J1 hr)
theorem xH {N : Nat} {x : Int} {y : Int} {r : Int × Int} (hr : jX N x y = some r) :
    Vm.Fn Tryz.prog 121 [] [(eI .u64 x), (eI .u64 y)] (.tup [(eI .u64 r.1), (eI .u64 r.2)]) [] := by
  refine zf Tryz.func121 Tryz.ntmps121 ?_
  unfold jX at hr
  obtain ⟨x17, h_1, hr⟩ := aA hr
  obtain ⟨dE, h_2, hr⟩ := aA hr
  obtain ⟨x29, h_3, hr⟩ := aA hr
  obtain ⟨fY, h_4, hr⟩ := aA hr
  obtain ⟨x46, h_5, hr⟩ := aA hr
  refine zz ?_
  obtain rfl := sj hr
  exact zd2 Tryz.results121 []
theorem iX {N : Nat} {x y c : Int} {r : Int × Int} (hr : cV N x y c = some r) : Vm.Fn Tryz.prog 114 [] [(eI .u64 x), (eI .u64 y), (eI .u64 c)] (.tup [(eI .u64 r.1), (eI .u64 r.2)]) [] :=
  aKA Tryz.func114 (by kernel_rfl) (by kernel_rfl) (by kernel_rfl) (by kernel_rfl) hr
theorem aG6 {N : Nat} {va : List Int} {b : List Int} {r : (List Int) × (List Int)} (hr : uG N va b = some r) :
    Vm.Fn Tryz.prog 149 [] [(.agg (va.map (eI .u64))), (.agg (b.map (eI .u64)))] (.tup [(.agg (r.1.map (eI .u64))), (.agg (r.2.map (eI .u64)))]) [] := by
  refine zf Tryz.func149 Tryz.ntmps149 ?_
  unfold uG at hr
  refine zz ?_
  refine AB.seq_g fun K1 hK1 hG1 => ?_
  have J1 : ∀ (l2 : List Int), t0 N l2 = some r → K1 (aG 69 [(4, (.ptr 0 0)), (5, (.ptr 1 0)), (6, (.ptr 2 0))]) [some ⟨31, (List.replicate 4 0).map (eI .u64)⟩, some ⟨31, (List.replicate 4 0).map (eI .u64)⟩, some ⟨160, l2.map (eI .u64)⟩] := by
    intro l2 hr
    unfold t0 at hr
    refine hK1 _ _ <| AB.seq ?_
    obtain ⟨q, h_1, hr⟩ := aA hr
    obtain ⟨x63, h_2, hr⟩ := aA hr
    obtain ⟨x64, h_3, hr⟩ := aA hr
    obtain ⟨x66, h_4, hr⟩ := aA hr
    obtain ⟨x67, h_5, hr⟩ := aA hr
    refine AB.rd (dN []) (dN []) mixed <| DrawG.pick (n := 7) (i := 0) (by decide +kernel) rfl (gS (v := (.sl 2 (Int.toNat 4 * 1) x63.length 1 false)) (sv (dU rfl rfl rfl (aFR (E := (eI .u64)) (l := l2) aCr jL rfl rfl rfl (aQ h_1) zl rfl rfl h_2)))) <| DrawG.pick (n := 6) (i := 1) (by decide +kernel) rfl (gS (v := (.ptr 2 (Int.toNat 4 * 1))) (sv (aAU rfl (apS bE zl rfl h_3)))) <| DrawG.pick (n := 5) (i := 2) (by decide +kernel) rfl (gS (v := (.agg (x64.map (eI .u64)))) (sv (bA rfl (aIm (E := (eI .u64)) (l := l2) bE rfl rfl h_2 h_3)))) ?_
    refine DrawG.jn (m := 1) (L := lst [0, 1, 2, 3, 4, 5, 6] 8) (s1 := aG 69 [(4, (.ptr 0 0)), (5, (.ptr 1 0)), (68, (.agg (x67.map (eI .u64))))]) (h1 := [some ⟨31, x64.map (eI .u64)⟩, some ⟨31, (List.replicate 4 0).map (eI .u64)⟩]) ?_ (fun J => ?_)
    · refine DrawG.pick (n := 0) (i := 7) (by decide +kernel) rfl (gN (h' := [some ⟨31, x64.map (eI .u64)⟩, some ⟨31, x67.map (eI .u64)⟩]) (sv (bG rfl rfl (s6 (E := (eI .u64)) (l := List.replicate 4 0) bE rfl rfl (fun _ => rfl) rfl (bP h_5) rfl)))) <| DrawG.nil (by decide +kernel) ?_
      refine zz ?_
      obtain rfl := sj hr
      exact vV Tryz.results149 bC bC (rU [])
    · refine DrawG.fork (n := 4) [3, 6] (by decide +kernel) (by decide) ?_
      refine (Fork.cons rfl (gS (v := (.sl 2 (Int.toNat 0 * 1) x66.length 1 false)) (sv (dU rfl rfl rfl (aFR (E := (eI .u64)) (l := l2) aCr jL rfl rfl rfl (aQ h_1) zl rfl rfl h_4)))) ?_ (Fork.cons rfl (gN (h' := [some ⟨31, x64.map (eI .u64)⟩, some ⟨31, (List.replicate 4 0).map (eI .u64)⟩, some ⟨160, l2.map (eI .u64)⟩]) (sv (bG rfl rfl (s6 (E := (eI .u64)) (l := List.replicate 4 0) bE rfl rfl (fun _ => rfl) rfl (bP h_3) rfl)))) ?_ Fork.nil))
      · refine DrawG.pick (n := 3) (i := 4) (by decide +kernel) rfl (gS (v := (.ptr 2 (Int.toNat 0 * 1))) (sv (aAU rfl (apS bE zl rfl h_5)))) <| DrawG.fork (n := 2) [5, 6] (by decide +kernel) (by decide) ?_
        refine (Fork.cons rfl (gS (v := (.agg (x67.map (eI .u64)))) (sv (bA rfl (aIm (E := (eI .u64)) (l := l2) bE rfl rfl h_4 h_5)))) ?_ (Fork.cons rfl (gN (h' := [some ⟨31, x64.map (eI .u64)⟩, some ⟨31, (List.replicate 4 0).map (eI .u64)⟩, some ⟨160, l2.map (eI .u64)⟩]) (sv (bG rfl rfl (s6 (E := (eI .u64)) (l := List.replicate 4 0) bE rfl rfl (fun _ => rfl) rfl (bP h_3) rfl)))) ?_ Fork.nil))
        · refine DrawG.pick (n := 1) (i := 6) (by decide +kernel) rfl (gN (h' := [some ⟨31, x64.map (eI .u64)⟩, some ⟨31, (List.replicate 4 0).map (eI .u64)⟩, some ⟨160, l2.map (eI .u64)⟩]) (sv (bG rfl rfl (s6 (E := (eI .u64)) (l := List.replicate 4 0) bE rfl rfl (fun _ => rfl) rfl (bP h_3) rfl)))) ?_
          exact DrawG.jg (by decide +kernel) (by decide +kernel) (zG [0, 1]) J
        · refine DrawG.pick (n := 1) (i := 5) (by decide +kernel) rfl (gS (v := (.agg (x67.map (eI .u64)))) (sv (bA rfl (aIm (E := (eI .u64)) (l := l2) bE rfl rfl h_4 h_5)))) ?_
          exact DrawG.jg (by decide +kernel) (by decide +kernel) (zG [0, 1]) J
      · refine DrawG.pick (n := 3) (i := 3) (by decide +kernel) rfl (gS (v := (.sl 2 (Int.toNat 0 * 1) x66.length 1 false)) (sv (dU rfl rfl rfl (aFR (E := (eI .u64)) (l := l2) aCr jL rfl rfl rfl (aQ h_1) zl rfl rfl h_4)))) <| DrawG.pick (n := 2) (i := 4) (by decide +kernel) rfl (gS (v := (.ptr 2 (Int.toNat 0 * 1))) (sv (aAU rfl (apS bE zl rfl h_5)))) <| DrawG.pick (n := 1) (i := 5) (by decide +kernel) rfl (gS (v := (.agg (x67.map (eI .u64)))) (sv (bA rfl (aIm (E := (eI .u64)) (l := l2) bE rfl rfl h_4 h_5)))) ?_
        exact DrawG.jg (by decide +kernel) (by decide +kernel) (zG [0, 1]) J
  obtain ⟨bD, hL2, hr⟩ := aA hr
  refine zz ?_
  refine AB.block <| AB.loopN (fun m s h => ∃ (aZ : Int) (l4 : List Int), iE N va b m aZ l4 = some bD ∧ Ghost 0 s h (aG 69 [(2, (.ptr 0 0)), (3, (.ptr 1 0)), (4, (.ptr 2 0)), (5, (.ptr 3 0)), (6, (.ptr 4 0)), (14, (eI .i64 aZ))]) [some ⟨31, va.map (eI .u64)⟩, some ⟨31, b.map (eI .u64)⟩, some ⟨31, (List.replicate 4 0).map (eI .u64)⟩, some ⟨31, (List.replicate 4 0).map (eI .u64)⟩, some ⟨160, l4.map (eI .u64)⟩]) (n := N) ⟨0, List.replicate 8 0, hL2, (zG [0, 1, 2, 3, 4])⟩ (by rintro s h ⟨_, _, h0, _⟩; simp [iE] at h0) ?_
  rintro m2 s h ⟨aZ, l4, hr2, hg⟩
  refine AB.ghost hg ?_
  clear hg hL2
  rw [iE] at hr2
  refine zz ?_
  refine AB.seq ?_
  refine zk hr2 rfl (fun h6 hr2 => ?_) (fun h6 hr2 => ?_)
  · refine zz ?_
    refine AB.seq_g fun K3 hK3 hG3 => ?_
    have J3 : ∀ (pB : List Int), tQ N va b aZ (iE N va b m2) pB = some bD → K3 (aG 69 [(2, (.ptr 0 0)), (3, (.ptr 1 0)), (4, (.ptr 2 0)), (5, (.ptr 3 0)), (6, (.ptr 4 0)), (14, (eI .i64 aZ))]) [some ⟨31, va.map (eI .u64)⟩, some ⟨31, b.map (eI .u64)⟩, some ⟨31, (List.replicate 4 0).map (eI .u64)⟩, some ⟨31, (List.replicate 4 0).map (eI .u64)⟩, some ⟨160, pB.map (eI .u64)⟩] := by
      intro pB hr2
      unfold tQ at hr2
      refine hK3 _ _ ?_
      refine zz ?_
      exact ⟨IntKind.i64.wrap (aZ + 1), pB, hr2, (zG [0, 1, 2, 3, 4])⟩
    refine AB.block ?_
    refine zz ?_
    refine AB.seq_g fun K4 hK4 hG4 => ?_
    have J4 : ∀ (iL : Int) (uE : List Int), tX N va b aZ (iE N va b m2) iL uE = some bD → K4 (aG 69 [(2, (.ptr 0 0)), (3, (.ptr 1 0)), (4, (.ptr 2 0)), (5, (.ptr 3 0)), (6, (.ptr 4 0)), (7, (eI .i64 aZ)), (8, (eI .u64 iL)), (14, (eI .i64 aZ))]) [some ⟨31, va.map (eI .u64)⟩, some ⟨31, b.map (eI .u64)⟩, some ⟨31, (List.replicate 4 0).map (eI .u64)⟩, some ⟨31, (List.replicate 4 0).map (eI .u64)⟩, some ⟨160, uE.map (eI .u64)⟩] := by
      intro iL uE hr2
      unfold tX at hr2
      refine hK4 _ _ ?_
      obtain ⟨x61, h_7, hr2⟩ := aA hr2
      refine zz ?_
      exact hG3 _ _ _ _ (zG [0, 1, 2, 3, 4]) (J3 (uE.set (Int.toNat (IntKind.i64.wrap (aZ + 4))) iL) hr2)
    obtain ⟨res5, hL5, hr2⟩ := aA hr2
    refine zz ?_
    refine AB.block <| AB.loopN (fun m s h => ∃ (carry_1 : Int) (x17 : Int) (l4_3 : List Int), b8 N va b aZ m carry_1 x17 l4_3 = some res5 ∧ Ghost 0 s h (aG 69 [(2, (.ptr 0 0)), (3, (.ptr 1 0)), (4, (.ptr 2 0)), (5, (.ptr 3 0)), (6, (.ptr 4 0)), (7, (eI .i64 aZ)), (8, (eI .u64 carry_1)), (14, (eI .i64 aZ)), (17, (eI .i64 x17))]) [some ⟨31, va.map (eI .u64)⟩, some ⟨31, b.map (eI .u64)⟩, some ⟨31, (List.replicate 4 0).map (eI .u64)⟩, some ⟨31, (List.replicate 4 0).map (eI .u64)⟩, some ⟨160, l4_3.map (eI .u64)⟩]) (n := N) ⟨0, 0, l4, hL5, (zG [0, 1, 2, 3, 4])⟩ (by rintro s h ⟨_, _, _, h0, _⟩; simp [b8] at h0) ?_
    rintro m5 s h ⟨carry_1, x17, l4_3, hr5, hg⟩
    refine AB.ghost hg ?_
    clear hg hL5
    rw [b8] at hr5
    refine zz ?_
    refine AB.seq ?_
    refine zk hr5 rfl (fun h8 hr5 => ?_) (fun h8 hr5 => ?_)
    · refine zz ?_
      refine AB.seq <| AB.block ?_
      refine zz ?_
      refine AB.seq ?_
      obtain ⟨dW, h_9, hr5⟩ := aA hr5
      obtain ⟨x25, h_10, hr5⟩ := aA hr5
      obtain ⟨x27, h_11, hr5⟩ := aA hr5
      refine AB.rs mixed [121] [] [[0, 1, 2, 3, 4, 5, 6, 7, 8, 9, 10, 11]] ?_
      refine zz ?_
      refine xu (xH h_11) ?_
      obtain ⟨x35, h_13, hr5⟩ := aA hr5
      obtain ⟨x37, h_14, hr5⟩ := aA hr5
      refine zz ?_
      refine xp (iX h_14) ?_
      obtain ⟨x46, h_15, hr5⟩ := aA hr5
      refine zz ?_
      refine xp (iX h_15) ?_
      refine zz ?_
      exact ⟨IntKind.u64.wrap ((IntKind.u64.wrap (x27.1 + x37.2)) + x46.2), IntKind.i64.wrap (x17 + 1), l4_3.set (Int.toNat (IntKind.i64.wrap (aZ + x17))) x46.1, hr5, (zG [0, 1, 2, 3, 4])⟩
    · refine zz ?_
      obtain rfl := sj hr5
      refine zz ?_
      exact hG4 _ _ _ _ (zG [0, 1, 2, 3, 4]) (J4 carry_1 l4_3 hr2)
  · refine zz ?_
    obtain rfl := sj hr2
    refine zz ?_
    exact hG1 _ _ _ _ (zG [2, 3, 4]) (J1 l4 hr)
theorem aAy {N : Nat} {va : List Int} {low : Int} {r : (List Int) × Int} (hr : oJ N va low = some r) :
    Vm.Fn Tryz.prog 154 [] [(.agg (va.map (eI .u64))), (eI .u64 low)] (.tup [(.agg (r.1.map (eI .u64))), (eI .u64 r.2)]) [] := by
  refine zf Tryz.func154 Tryz.ntmps154 ?_
  unfold oJ at hr
  refine zz ?_
  refine AB.seq_g fun K1 hK1 hG1 => ?_
  have J1 : ∀ (aD6 : Int) (l0 : List Int), sI N aD6 l0 = some r → K1 (aG 25 [(1, (eI .u64 aD6)), (2, (.ptr 0 0)), (4, (.ptr 1 0))]) [some ⟨31, l0.map (eI .u64)⟩, some ⟨31, (List.replicate 4 0).map (eI .u64)⟩] := by
    intro aD6 l0 hr
    unfold sI at hr
    refine hK1 _ _ ?_
    obtain ⟨q, h_1, hr⟩ := aA hr
    refine zz ?_
    obtain rfl := sj hr
    exact vV Tryz.results154 bC bC (rU [])
  obtain ⟨bD, hL2, hr⟩ := aA hr
  refine zz ?_
  refine AB.block <| AB.loopN (fun m s h => ∃ (low_2 : Int) (x7 : Int) (aS : List Int), kJ N m low_2 x7 aS = some bD ∧ Ghost 0 s h (aG 25 [(1, (eI .u64 low_2)), (2, (.ptr 0 0)), (4, (.ptr 1 0)), (7, (eI .i64 x7))]) [some ⟨31, aS.map (eI .u64)⟩, some ⟨31, (List.replicate 4 0).map (eI .u64)⟩]) (n := N) ⟨low, 0, va, hL2, (zG [0, 1])⟩ (by rintro s h ⟨_, _, _, h0, _⟩; simp [kJ] at h0) ?_
  rintro m2 s h ⟨low_2, x7, aS, hr2, hg⟩
  refine AB.ghost hg ?_
  clear hg hL2
  rw [kJ] at hr2
  refine zz ?_
  refine AB.seq ?_
  refine zk hr2 rfl (fun h2 hr2 => ?_) (fun h2 hr2 => ?_)
  · refine zz ?_
    refine AB.seq <| AB.block ?_
    obtain ⟨cL, h_3, hr2⟩ := aA hr2
    obtain ⟨aZ, h_4, hr2⟩ := aA hr2
    obtain ⟨eX, h_5, hr2⟩ := aA hr2
    refine zz ?_
    refine AB.rs mixed [] [] [[0, 1, 2, 3, 4, 5, 6, 7, 8, 9, 10, 11, 12, 13]] ?_
    refine zz ?_
    exact ⟨eX, IntKind.i64.wrap (x7 + 1), aS.set (Int.toNat x7) (bits .or .u64 aZ low_2), hr2, (zG [0, 1])⟩
  · refine zz ?_
    obtain rfl := sj hr2
    refine zz ?_
    exact hG1 _ _ _ _ (zG [0, 1]) (J1 low_2 aS hr)
theorem xO {N : Nat} {x y c : Int} {r : Int × Int} (hr : nR N x y c = some r) : Vm.Fn Tryz.prog 115 [] [(eI .u64 x), (eI .u64 y), (eI .u64 c)] (.tup [(eI .u64 r.1), (eI .u64 r.2)]) [] :=
  aJ2 Tryz.func115 (by kernel_rfl) (by kernel_rfl) (by kernel_rfl) (by kernel_rfl) hr
theorem aAr {N : Nat} {va : List Int} {b : List Int} {r : (List Int) × Bool} (hr : oM N va b = some r) :
    Vm.Fn Tryz.prog 137 [] [(.agg (va.map (eI .u64))), (.agg (b.map (eI .u64)))] (.tup [(.agg (r.1.map (eI .u64))), (eB r.2)]) [] := by
  refine zf Tryz.func137 Tryz.ntmps137 ?_
  unfold oM at hr
  refine zz ?_
  refine AB.seq_g fun K1 hK1 hG1 => ?_
  have J1 : ∀ (borrow : Int) (l1 : List Int), tV N borrow l1 = some r → K1 (aG 29 [(4, (.ptr 0 0)), (6, (.ptr 1 0)), (7, (eI .u64 borrow))]) [some ⟨31, (List.replicate 4 0).map (eI .u64)⟩, some ⟨31, l1.map (eI .u64)⟩] := by
    intro borrow l1 hr
    unfold tV at hr
    refine hK1 _ _ ?_
    obtain ⟨q, h_1, hr⟩ := aA hr
    refine zz ?_
    obtain rfl := sj hr
    exact vV Tryz.results137 bC bC (rU [])
  obtain ⟨bD, hL2, hr⟩ := aA hr
  refine zz ?_
  refine AB.block <| AB.loopN (fun m s h => ∃ (borrow_1 : Int) (x9 : Int) (l3 : List Int), iB N va b m borrow_1 x9 l3 = some bD ∧ Ghost 0 s h (aG 29 [(2, (.ptr 0 0)), (3, (.ptr 1 0)), (4, (.ptr 2 0)), (6, (.ptr 3 0)), (7, (eI .u64 borrow_1)), (9, (eI .i64 x9))]) [some ⟨31, va.map (eI .u64)⟩, some ⟨31, b.map (eI .u64)⟩, some ⟨31, (List.replicate 4 0).map (eI .u64)⟩, some ⟨31, l3.map (eI .u64)⟩]) (n := N) ⟨0, 0, List.replicate 4 0, hL2, (zG [0, 1, 2, 3])⟩ (by rintro s h ⟨_, _, _, h0, _⟩; simp [iB] at h0) ?_
  rintro m2 s h ⟨borrow_1, x9, l3, hr2, hg⟩
  refine AB.ghost hg ?_
  clear hg hL2
  rw [iB] at hr2
  refine zz ?_
  refine AB.seq ?_
  refine zk hr2 rfl (fun h2 hr2 => ?_) (fun h2 hr2 => ?_)
  · refine zz ?_
    refine AB.seq <| AB.block ?_
    obtain ⟨x15, h_3, hr2⟩ := aA hr2
    obtain ⟨x18, h_4, hr2⟩ := aA hr2
    obtain ⟨dE, h_5, hr2⟩ := aA hr2
    obtain ⟨jD, h_7, hr2⟩ := aA hr2
    refine zz ?_
    refine AB.rs mixed [115] [] [[0, 1, 2, 3, 4, 5, 6, 7, 8, 9, 10, 11, 12, 13, 14]] ?_
    refine zz ?_
    refine xu (xO h_5) ?_
    refine zz ?_
    exact ⟨dE.2, IntKind.i64.wrap (x9 + 1), l3.set (Int.toNat x9) dE.1, hr2, (zG [0, 1, 2, 3])⟩
  · refine zz ?_
    obtain rfl := sj hr2
    refine zz ?_
    exact hG1 _ _ _ _ (zG [2, 3]) (J1 borrow_1 l3 hr)
theorem aCH {N : Nat} {hi : List Int} {lo : List Int} {b : List Int} {r : (List Int) × (List Int) × Bool} (hr : wG N hi lo b = some r) :
    Vm.Fn Tryz.prog 150 [] [(.agg (hi.map (eI .u64))), (.agg (lo.map (eI .u64))), (.agg (b.map (eI .u64)))] (.tup [(.agg (r.1.map (eI .u64))), (.agg (r.2.1.map (eI .u64))), (eB r.2.2)]) [] := by
  refine zf Tryz.func150 Tryz.ntmps150 ?_
  unfold wG at hr
  refine zz ?_
  refine AB.scope <| AB.seq ?_
  obtain ⟨q, h_1, hr⟩ := aA hr
  obtain ⟨q_1, h_2, hr⟩ := aA hr
  obtain ⟨x16, h_3, hr⟩ := aA hr
  refine zz ?_
  refine xp (qR h_3) ?_
  refine zz ?_
  refine zk hr rfl (fun h4 hr => ?_) (fun h4 hr => ?_)
  · refine zz ?_
    refine xw (v := (.agg ([0, 0, 0, 0].map (eI .u64)))) (cB rfl (k4 bE jL rfl)) <| xw (v := (.agg ([0, 0, 0, 0].map (eI .u64)))) (cB rfl (k4 bE jL rfl)) ?_
    refine zz ?_
    obtain rfl := sj hr
    exact zr3 Tryz.results150 bC bC bC (rU [])
  · refine zz ?_
    refine xw (v := (.agg ([0, 0, 0, 0].map (eI .u64)))) (cB rfl (k4 bE jL rfl)) ?_
    refine zz ?_
    refine AB.seq <| AB.label ?_
    refine zz ?_
    refine AB.seq_g fun K1 hK1 hG1 => ?_
    have J1 : ∀ (l0 : List Int) (l1 : List Int), wU N l0 l1 = some r → K1 (aG 72 [(6, (.ptr 0 0)), (7, (.ptr 1 0))]) [some ⟨31, l0.map (eI .u64)⟩, some ⟨31, l1.map (eI .u64)⟩] := by
      intro l0 l1 hr
      unfold wU at hr
      refine hK1 _ _ <| AB.seq ?_
      obtain ⟨q_2, h_5, hr⟩ := aA hr
      obtain ⟨q_3, h_6, hr⟩ := aA hr
      refine AB.rd (dN []) (dN []) mixed <| DrawG.pick (n := 4) (i := 0) (by decide +kernel) rfl (gS (v := (.agg (l0.map (eI .u64)))) (sv (bA rfl (uN (E := (eI .u64)) (l := l0) bE rfl rfl (aQ h_5))))) ?_
      refine DrawG.jn (m := 2) (L := lst [0, 1, 2] 5) (s1 := aG 72 [(6, (.ptr 0 0)), (7, (.ptr 1 0)), (71, (.agg (l1.map (eI .u64))))]) (h1 := [some ⟨31, l0.map (eI .u64)⟩, some ⟨31, l1.map (eI .u64)⟩]) ?_ (fun J => ?_)
      · refine DrawG.pick (n := 1) (i := 3) (by decide +kernel) rfl (gN (h' := [some ⟨31, l0.map (eI .u64)⟩, some ⟨31, l1.map (eI .u64)⟩]) (sv (bG rfl rfl (s6 (E := (eI .u64)) (l := l1) bE rfl rfl (fun _ => rfl) (aQ h_6) (aQ h_6) rfl)))) <| DrawG.pick (n := 0) (i := 4) (by decide +kernel) rfl (gS (v := (eB true)) (sv (bB rfl))) <| DrawG.nil (by decide +kernel) ?_
        refine zz ?_
        obtain rfl := sj hr
        exact zr3 Tryz.results150 bC bC bC (rU [])
      · refine DrawG.fork (n := 3) [1, 2] (by decide +kernel) (by decide) ?_
        refine (Fork.cons rfl (gS (v := (.agg (l1.map (eI .u64)))) (sv (bA rfl (uN (E := (eI .u64)) (l := l1) bE rfl rfl (aQ h_6))))) ?_ (Fork.cons rfl (gN (h' := [some ⟨31, l0.map (eI .u64)⟩, some ⟨31, l1.map (eI .u64)⟩]) (sv (bG rfl rfl (s6 (E := (eI .u64)) (l := l0) bE rfl rfl (fun _ => rfl) (aQ h_5) (aQ h_5) rfl)))) ?_ Fork.nil))
        · refine DrawG.pick (n := 2) (i := 2) (by decide +kernel) rfl (gN (h' := [some ⟨31, l0.map (eI .u64)⟩, some ⟨31, l1.map (eI .u64)⟩]) (sv (bG rfl rfl (s6 (E := (eI .u64)) (l := l0) bE rfl rfl (fun _ => rfl) (aQ h_5) (aQ h_5) rfl)))) ?_
          exact DrawG.jg (by decide +kernel) (by decide +kernel) (zG [0, 1]) J
        · refine DrawG.pick (n := 2) (i := 1) (by decide +kernel) rfl (gS (v := (.agg (l1.map (eI .u64)))) (sv (bA rfl (uN (E := (eI .u64)) (l := l1) bE rfl rfl (aQ h_6))))) ?_
          exact DrawG.jg (by decide +kernel) (by decide +kernel) (zG [0, 1]) J
    obtain ⟨bD, hL2, hr⟩ := aA hr
    refine zz ?_
    refine AB.block <| AB.loopN (fun m s h => ∃ (b6 : Int) (aS : List Int) (l2 : List Int) (l3 : List Int), kP N b m b6 aS l2 l3 = some bD ∧ Ghost 0 s h (aG 72 [(4, (.ptr 0 0)), (5, (.ptr 1 0)), (6, (.ptr 2 0)), (7, (.ptr 3 0)), (9, (.ptr 4 0)), (10, (eI .i64 b6))]) [some ⟨31, aS.map (eI .u64)⟩, some ⟨31, b.map (eI .u64)⟩, some ⟨31, l2.map (eI .u64)⟩, some ⟨31, l3.map (eI .u64)⟩, some ⟨31, [0, 0, 0, 0].map (eI .u64)⟩]) (n := N) ⟨3, lo, List.replicate 4 0, hi, hL2, (zG [1, 2, 3, 4, 5])⟩ (by rintro s h ⟨_, _, _, _, h0, _⟩; simp [kP] at h0) ?_
    rintro m2 s h ⟨b6, aS, l2, l3, hr2, hg⟩
    refine AB.ghost hg ?_
    clear hg hL2
    rw [kP] at hr2
    refine AB.seq ?_
    refine zz ?_
    refine zk hr2 rfl (fun h7 hr2 => ?_) (fun h7 hr2 => ?_)
    · refine zz ?_
      refine AB.seq_g fun K3 hK3 hG3 => ?_
      have J3 : ∀ (mJ : List Int) (cX : List Int) (jF : List Int), wT N b b6 (kP N b m2) mJ cX jF = some bD → K3 (aG 72 [(4, (.ptr 0 0)), (5, (.ptr 1 0)), (6, (.ptr 2 0)), (7, (.ptr 3 0)), (9, (.ptr 4 0)), (10, (eI .i64 b6))]) [some ⟨31, mJ.map (eI .u64)⟩, some ⟨31, b.map (eI .u64)⟩, some ⟨31, cX.map (eI .u64)⟩, some ⟨31, jF.map (eI .u64)⟩, some ⟨31, [0, 0, 0, 0].map (eI .u64)⟩] := by
        intro mJ cX jF hr2
        unfold wT at hr2
        refine hK3 _ _ ?_
        refine zz ?_
        exact ⟨IntKind.i64.wrap (b6 - 1), mJ, cX, jF, hr2, (zG [0, 1, 2, 3, 4])⟩
      refine AB.block ?_
      obtain ⟨res4, hL4, hr2⟩ := aA hr2
      refine zz ?_
      refine AB.block <| AB.loopN (fun m s h => ∃ (bit : Int) (kU : List Int) (eE : List Int) (f7 : List Int), cS N b b6 m bit kU eE f7 = some res4 ∧ Ghost 0 s h (aG 72 [(4, (.ptr 0 0)), (5, (.ptr 1 0)), (6, (.ptr 2 0)), (7, (.ptr 3 0)), (9, (.ptr 4 0)), (10, (eI .i64 b6)), (11, (eI .i64 bit))]) [some ⟨31, kU.map (eI .u64)⟩, some ⟨31, b.map (eI .u64)⟩, some ⟨31, eE.map (eI .u64)⟩, some ⟨31, f7.map (eI .u64)⟩, some ⟨31, [0, 0, 0, 0].map (eI .u64)⟩]) (n := N) ⟨63, aS, l2, l3, hL4, (zG [0, 1, 2, 3, 4])⟩ (by rintro s h ⟨_, _, _, _, h0, _⟩; simp [cS] at h0) ?_
      rintro m4 s h ⟨bit, kU, eE, f7, hr4, hg⟩
      refine AB.ghost hg ?_
      clear hg hL4
      rw [cS] at hr4
      refine AB.seq ?_
      refine zz ?_
      refine zk hr4 rfl (fun h8 hr4 => ?_) (fun h8 hr4 => ?_)
      · refine zz ?_
        refine AB.seq_g fun K5 hK5 hG5 => ?_
        have J5 : ∀ (aEq : List Int) (aEo : List Int) (aEm : List Int), qN N b b6 bit (cS N b b6 m4) aEq aEo aEm = some res4 → K5 (aG 72 [(4, (.ptr 0 0)), (5, (.ptr 1 0)), (6, (.ptr 2 0)), (7, (.ptr 3 0)), (9, (.ptr 4 0)), (10, (eI .i64 b6)), (11, (eI .i64 bit))]) [some ⟨31, aEq.map (eI .u64)⟩, some ⟨31, b.map (eI .u64)⟩, some ⟨31, aEo.map (eI .u64)⟩, some ⟨31, aEm.map (eI .u64)⟩, some ⟨31, [0, 0, 0, 0].map (eI .u64)⟩] := by
          intro aEq aEo aEm hr4
          unfold qN at hr4
          refine hK5 _ _ ?_
          refine zz ?_
          exact ⟨IntKind.i64.wrap (bit - 1), aEq, aEo, aEm, hr4, (zG [0, 1, 2, 3, 4])⟩
        refine AB.block <| AB.seq ?_
        refine AB.seq_g fun K6 hK6 hG6 => ?_
        have J6 : ∀ (x37 : Bool), qS N b b6 bit kU eE f7 (cS N b b6 m4) x37 = some res4 → K6 (aG 72 [(4, (.ptr 0 0)), (5, (.ptr 1 0)), (6, (.ptr 2 0)), (7, (.ptr 3 0)), (9, (.ptr 4 0)), (10, (eI .i64 b6)), (11, (eI .i64 bit)), (37, (eB x37))]) [some ⟨31, kU.map (eI .u64)⟩, some ⟨31, b.map (eI .u64)⟩, some ⟨31, eE.map (eI .u64)⟩, some ⟨31, f7.map (eI .u64)⟩, some ⟨31, [0, 0, 0, 0].map (eI .u64)⟩] := by
          intro x37 hr4
          unfold qS at hr4
          refine hK6 _ _ ?_
          refine zk hr4 rfl (fun h9 hr4 => ?_) (fun h9 hr4 => ?_)
          · refine zz ?_
            obtain rfl := sj hr4
            obtain rfl := sj hr2
            refine zz ?_
            exact hG1 _ _ _ _ (zG [2, 3]) (J1 eE f7 hr)
          · obtain ⟨q_4, h_10, hr4⟩ := aA hr4
            obtain ⟨x40, h_11, hr4⟩ := aA hr4
            obtain ⟨q_5, h_12, hr4⟩ := aA hr4
            refine zz ?_
            refine xp (aAy h_11) ?_
            obtain ⟨q_6, h_13, hr4⟩ := aA hr4
            obtain ⟨x46, h_14, hr4⟩ := aA hr4
            obtain ⟨q_7, h_15, hr4⟩ := aA hr4
            refine zz ?_
            refine xp (aAy h_14) ?_
            refine zz ?_
            refine AB.seq_g fun K7 hK7 hG7 => ?_
            have J7 : ∀ (x56 : Bool), oO N b b6 bit eE x40 x46 (cS N b b6 m4) x56 = some res4 → K7 (aG 72 [(4, (.ptr 0 0)), (5, (.ptr 1 0)), (6, (.ptr 2 0)), (7, (.ptr 3 0)), (9, (.ptr 4 0)), (10, (eI .i64 b6)), (11, (eI .i64 bit)), (56, (eB x56))]) [some ⟨31, x40.1.map (eI .u64)⟩, some ⟨31, b.map (eI .u64)⟩, some ⟨31, eE.map (eI .u64)⟩, some ⟨31, x46.1.map (eI .u64)⟩, some ⟨31, [0, 0, 0, 0].map (eI .u64)⟩] := by
              intro x56 hr4
              unfold oO at hr4
              refine hK7 _ _ ?_
              refine zk hr4 rfl (fun h16 hr4 => ?_) (fun h16 hr4 => ?_)
              · obtain ⟨x60, h_17, hr4⟩ := aA hr4
                obtain ⟨q_8, h_18, hr4⟩ := aA hr4
                refine zz ?_
                refine xp (aAr h_17) ?_
                obtain ⟨x64, h_19, hr4⟩ := aA hr4
                obtain ⟨x67, h_20, hr4⟩ := aA hr4
                refine zz ?_
                refine AB.rs mixed [] [] [[0, 1, 2, 3, 4, 5, 6, 7]] ?_
                refine zz ?_
                exact hG5 _ _ _ _ (zG [0, 1, 2, 3, 4]) (J5 x40.1 (eE.set (Int.toNat b6) (bits .or .u64 x64 x67)) x60.1 hr4)
              · refine zz ?_
                exact hG5 _ _ _ _ (zG [0, 1, 2, 3, 4]) (J5 x40.1 eE x46.1 hr4)
            rcases Bool.eq_false_or_eq_true (x46.2 != 0) with h21 | h21
            · replace hr4 := fM hr4 h21
              refine xr ?_
              refine zz ?_
              exact hG7 _ _ _ _ (zG [0, 1, 2, 3, 4]) (J7 true hr4)
            · replace hr4 := fQ hr4 h21
              obtain ⟨x54, h_22, hr4⟩ := aA hr4
              refine xr ?_
              refine zz ?_
              refine xCg (v := (eI .i64 x54)) (h' := [some ⟨31, x40.1.map (eI .u64)⟩, some ⟨31, b.map (eI .u64)⟩, some ⟨31, eE.map (eI .u64)⟩, some ⟨31, x46.1.map (eI .u64)⟩, some ⟨31, [0, 0, 0, 0].map (eI .u64)⟩]) rfl rfl h21 rfl (Vm.Fn.pure (qR h_22) zR rfl) ?_
              refine zz ?_
              exact hG7 _ _ _ _ (zG [0, 1, 2, 3, 4]) (J7 (decide (0 ≤ x54)) hr4)
        obtain ⟨q_9, h_23, hr4⟩ := aA hr4
        rcases Bool.eq_false_or_eq_true (f7 == [0, 0, 0, 0]) with h24 | h24
        · replace hr4 := fM hr4 h24
          obtain ⟨aO9, h_25, hr4⟩ := aA hr4
          refine xr ?_
          refine zz ?_
          exact hG6 _ _ _ _ (zG [0, 1, 2, 3, 4]) (J6 (kU == [0, 0, 0, 0]) hr4)
        · replace hr4 := fQ hr4 h24
          refine xr ?_
          refine zz ?_
          exact hG6 _ _ _ _ (zG [0, 1, 2, 3, 4]) (J6 false hr4)
      · refine zz ?_
        obtain rfl := sj hr4
        refine zz ?_
        exact hG3 _ _ _ _ (zG [0, 1, 2, 3, 4]) (J3 kU eE f7 hr2)
    · refine zz ?_
      obtain rfl := sj hr2
      refine zz ?_
      exact hG1 _ _ _ _ (zG [2, 3]) (J1 l2 l3 hr)
theorem wE {N : Nat} {va : List Int} {vm : List Int} {r : (List Int)} (hr : oN N va vm = some r) :
    Vm.Fn Tryz.prog 151 [] [(.agg (va.map (eI .u64))), (.agg (vm.map (eI .u64)))] (.agg (r.map (eI .u64))) [] := by
  refine zf Tryz.func151 Tryz.ntmps151 ?_
  unfold oN at hr
  refine zz ?_
  refine AB.seq ?_
  obtain ⟨q, h_1, hr⟩ := aA hr
  obtain ⟨q_1, h_2, hr⟩ := aA hr
  obtain ⟨bS, h_3, hr⟩ := aA hr
  refine zz ?_
  refine xp (qR h_3) ?_
  refine zz ?_
  refine zk hr rfl (fun h4 hr => ?_) (fun h4 hr => ?_)
  · refine zz ?_
    obtain rfl := sj hr
    exact eR Tryz.results151 bC (zG [])
  · obtain ⟨x17, h_5, hr⟩ := aA hr
    obtain ⟨q_2, h_6, hr⟩ := aA hr
    obtain ⟨q_3, h_7, hr⟩ := aA hr
    refine zz ?_
    refine xw (v := (.agg ([0, 0, 0, 0].map (eI .u64)))) (cB rfl (k4 bE jL rfl)) ?_
    refine zz ?_
    refine xp (aCH h_5) ?_
    refine zz ?_
    obtain rfl := sj hr
    exact eR Tryz.results151 bC (zG [])
theorem aEt {N : Nat} {va : List Int} {b : List Int} {vm : List Int} {r : (List Int)} (hr : tP N va b vm = some r) :
    Vm.Fn Tryz.prog 145 [] [(.agg (va.map (eI .u64))), (.agg (b.map (eI .u64))), (.agg (vm.map (eI .u64)))] (.agg (r.map (eI .u64))) [] := by
  refine zf Tryz.func145 Tryz.ntmps145 ?_
  unfold tP at hr
  refine zz ?_
  refine AB.seq ?_
  obtain ⟨q, h_1, hr⟩ := aA hr
  refine zz ?_
  refine xw (v := (.agg ([0, 0, 0, 0].map (eI .u64)))) (cB rfl (k4 bE jL rfl)) ?_
  refine zz ?_
  refine zk hr rfl (fun h2 hr => ?_) (fun h2 hr => ?_)
  · refine zz ?_
    refine xw (v := (.agg ([0, 0, 0, 0].map (eI .u64)))) (cB rfl (k4 bE jL rfl)) ?_
    refine zz ?_
    obtain rfl := sj hr
    exact eR Tryz.results145 bC (zG [])
  · obtain ⟨q_1, h_3, hr⟩ := aA hr
    obtain ⟨q_2, h_4, hr⟩ := aA hr
    obtain ⟨x19, h_5, hr⟩ := aA hr
    obtain ⟨q_3, h_6, hr⟩ := aA hr
    obtain ⟨q_4, h_7, hr⟩ := aA hr
    refine zz ?_
    refine xp (aG6 h_5) ?_
    refine zz ?_
    refine AB.seq ?_
    obtain ⟨x25, h_8, hr⟩ := aA hr
    obtain ⟨x28, h_10, hr⟩ := aA hr
    obtain ⟨q_5, h_12, hr⟩ := aA hr
    obtain ⟨q_6, h_13, hr⟩ := aA hr
    refine AB.rd (dN [150, 151]) (dN []) mixed <| DrawG.pick (n := 14) (i := 0) (by decide +kernel) rfl (gS (v := (.agg (x19.1.map (eI .u64)))) (sv (bA rfl (uN (E := (eI .u64)) (l := x19.1) bE rfl rfl (aQ h_6))))) <| DrawG.pick (n := 13) (i := 1) (by decide +kernel) rfl (gS (v := (.agg (vm.map (eI .u64)))) (sv (bA rfl (uN (E := (eI .u64)) (l := vm) bE rfl rfl (aQ h_1))))) <| DrawG.pick (n := 12) (i := 2) (by decide +kernel) rfl (gU (fun _ => (Vm.Fn.pure (wE h_8) zR zR)) rfl (sv (d6 rfl kL))) <| DrawG.pick (n := 11) (i := 3) (by decide +kernel) rfl (gS (v := (.agg (x19.2.map (eI .u64)))) (sv (bA rfl (uN (E := (eI .u64)) (l := x19.2) bE rfl rfl (aQ h_7))))) ?_
    refine DrawG.pick (n := 10) (i := 4) (by decide +kernel) rfl (gS (v := (.agg (vm.map (eI .u64)))) (sv (bA rfl (uN (E := (eI .u64)) (l := vm) bE rfl rfl (aQ h_1))))) <| DrawG.pick (n := 9) (i := 5) (by decide +kernel) rfl (gU (fun _ => (Vm.Fn.pure (aCH h_10) zR zR)) rfl (sv (d6 rfl kL))) <| DrawG.pick (n := 8) (i := 6) (by decide +kernel) rfl (gS (v := (.tup [(.agg (x28.1.map (eI .u64))), (.agg (x28.2.1.map (eI .u64))), (eB x28.2.2)])) (sv (fC rfl))) <| DrawG.pick (n := 7) (i := 7) (by decide +kernel) rfl (gS (v := (.agg (x28.1.map (eI .u64)))) (sv (aCj rfl rfl))) <| DrawG.pick (n := 6) (i := 8) (by decide +kernel) rfl (gS (v := (.agg (x28.2.1.map (eI .u64)))) (sv (aCj rfl rfl))) ?_
    refine DrawG.pick (n := 5) (i := 9) (by decide +kernel) rfl (gS (v := (eB x28.2.2)) (sv (aCj rfl rfl))) ?_
    refine DrawG.jn (m := 1) (L := lst [0, 1, 2, 3, 4, 5, 6, 7, 8, 9, 10, 11, 12, 13] 15) (s1 := aG 33 [(6, (.ptr 0 0)), (10, (.ptr 1 0)), (31, (eB x28.2.2))]) (h1 := [some ⟨31, (List.replicate 4 0).map (eI .u64)⟩, some ⟨31, x28.2.1.map (eI .u64)⟩]) ?_ (fun J => ?_)
    · refine DrawG.pick (n := 0) (i := 14) (by decide +kernel) rfl (gS (v := (eB x28.2.2)) (sv (bB rfl))) <| DrawG.nil (by decide +kernel) ?_
      refine zz ?_
      obtain rfl := sj hr
      exact eR Tryz.results145 bC (zG [])
    · refine DrawG.fork (n := 4) [10, 11] (by decide +kernel) (by decide) ?_
      refine (Fork.cons rfl (gS (v := (.ptr 6 0)) (h' := [some ⟨31, va.map (eI .u64)⟩, some ⟨31, b.map (eI .u64)⟩, some ⟨31, vm.map (eI .u64)⟩, some ⟨31, (List.replicate 4 0).map (eI .u64)⟩, some ⟨31, x19.1.map (eI .u64)⟩, some ⟨31, x19.2.map (eI .u64)⟩, some ⟨31, (List.replicate 4 0).map (eI .u64)⟩]) (sv (eK bE rfl rfl rfl))) ?_ (Fork.cons rfl (gS (v := (.ptr 6 0)) (h' := [some ⟨31, va.map (eI .u64)⟩, some ⟨31, b.map (eI .u64)⟩, some ⟨31, vm.map (eI .u64)⟩, some ⟨31, (List.replicate 4 0).map (eI .u64)⟩, some ⟨31, x19.1.map (eI .u64)⟩, some ⟨31, x19.2.map (eI .u64)⟩, some ⟨31, (List.replicate 4 0).map (eI .u64)⟩]) (sv (eK bE rfl rfl rfl))) ?_ Fork.nil))
      · refine DrawG.pick (n := 3) (i := 11) (by decide +kernel) rfl (gS (v := (.ptr 7 0)) (h' := [some ⟨31, va.map (eI .u64)⟩, some ⟨31, b.map (eI .u64)⟩, some ⟨31, vm.map (eI .u64)⟩, some ⟨31, (List.replicate 4 0).map (eI .u64)⟩, some ⟨31, x19.1.map (eI .u64)⟩, some ⟨31, x19.2.map (eI .u64)⟩, some ⟨31, (List.replicate 4 0).map (eI .u64)⟩, some ⟨31, (List.replicate 4 0).map (eI .u64)⟩]) (sv (eK bE rfl rfl rfl))) <| DrawG.pick (n := 2) (i := 12) (by decide +kernel) rfl (gN (h' := [some ⟨31, va.map (eI .u64)⟩, some ⟨31, b.map (eI .u64)⟩, some ⟨31, vm.map (eI .u64)⟩, some ⟨31, (List.replicate 4 0).map (eI .u64)⟩, some ⟨31, x19.1.map (eI .u64)⟩, some ⟨31, x19.2.map (eI .u64)⟩, some ⟨31, x28.1.map (eI .u64)⟩, some ⟨31, (List.replicate 4 0).map (eI .u64)⟩]) (sv (bG rfl rfl (s6 (E := (eI .u64)) (l := List.replicate 4 0) bE rfl rfl (fun _ => rfl) rfl (aQ h_12) rfl)))) ?_
        refine DrawG.pick (n := 1) (i := 13) (by decide +kernel) rfl (gN (h' := [some ⟨31, va.map (eI .u64)⟩, some ⟨31, b.map (eI .u64)⟩, some ⟨31, vm.map (eI .u64)⟩, some ⟨31, (List.replicate 4 0).map (eI .u64)⟩, some ⟨31, x19.1.map (eI .u64)⟩, some ⟨31, x19.2.map (eI .u64)⟩, some ⟨31, x28.1.map (eI .u64)⟩, some ⟨31, x28.2.1.map (eI .u64)⟩]) (sv (bG rfl rfl (s6 (E := (eI .u64)) (l := List.replicate 4 0) bE rfl rfl (fun _ => rfl) rfl (aQ h_13) rfl)))) ?_
        exact DrawG.jg (by decide +kernel) (by decide +kernel) (zG [3, 7]) J
      · refine DrawG.pick (n := 3) (i := 10) (by decide +kernel) rfl (gS (v := (.ptr 7 0)) (h' := [some ⟨31, va.map (eI .u64)⟩, some ⟨31, b.map (eI .u64)⟩, some ⟨31, vm.map (eI .u64)⟩, some ⟨31, (List.replicate 4 0).map (eI .u64)⟩, some ⟨31, x19.1.map (eI .u64)⟩, some ⟨31, x19.2.map (eI .u64)⟩, some ⟨31, (List.replicate 4 0).map (eI .u64)⟩, some ⟨31, (List.replicate 4 0).map (eI .u64)⟩]) (sv (eK bE rfl rfl rfl))) <| DrawG.pick (n := 2) (i := 12) (by decide +kernel) rfl (gN (h' := [some ⟨31, va.map (eI .u64)⟩, some ⟨31, b.map (eI .u64)⟩, some ⟨31, vm.map (eI .u64)⟩, some ⟨31, (List.replicate 4 0).map (eI .u64)⟩, some ⟨31, x19.1.map (eI .u64)⟩, some ⟨31, x19.2.map (eI .u64)⟩, some ⟨31, (List.replicate 4 0).map (eI .u64)⟩, some ⟨31, x28.1.map (eI .u64)⟩]) (sv (bG rfl rfl (s6 (E := (eI .u64)) (l := List.replicate 4 0) bE rfl rfl (fun _ => rfl) rfl (aQ h_12) rfl)))) ?_
        refine DrawG.pick (n := 1) (i := 13) (by decide +kernel) rfl (gN (h' := [some ⟨31, va.map (eI .u64)⟩, some ⟨31, b.map (eI .u64)⟩, some ⟨31, vm.map (eI .u64)⟩, some ⟨31, (List.replicate 4 0).map (eI .u64)⟩, some ⟨31, x19.1.map (eI .u64)⟩, some ⟨31, x19.2.map (eI .u64)⟩, some ⟨31, x28.2.1.map (eI .u64)⟩, some ⟨31, x28.1.map (eI .u64)⟩]) (sv (bG rfl rfl (s6 (E := (eI .u64)) (l := List.replicate 4 0) bE rfl rfl (fun _ => rfl) rfl (aQ h_13) rfl)))) ?_
        exact DrawG.jg (by decide +kernel) (by decide +kernel) (zG [3, 6]) J
theorem zT {N : Nat} {va : List Int} {b : List Int} {r : (List Int)} (hr : sE N va b = some r) :
    Vm.Fn Tryz.prog 139 [] [(.agg (va.map (eI .u64))), (.agg (b.map (eI .u64)))] (.agg (r.map (eI .u64))) [] := by
  refine zf Tryz.func139 Tryz.ntmps139 ?_
  unfold sE at hr
  refine zz ?_
  refine AB.seq ?_
  obtain ⟨q, h_1, hr⟩ := aA hr
  obtain ⟨q_1, h_2, hr⟩ := aA hr
  obtain ⟨x7, h_3, hr⟩ := aA hr
  obtain ⟨x8, h_5, hr⟩ := aA hr
  obtain ⟨q_2, h_7, hr⟩ := aA hr
  refine AB.rs mixed [144, 145] [] [[0, 1, 2, 3, 4]] ?_
  refine zz ?_
  refine xu (zY h_3) <| xu (aEt h_5) ?_
  refine zz ?_
  obtain rfl := sj hr
  exact eR Tryz.results139 bC (zG [])
theorem zJ {N : Nat} {va : List Int} {ve : List Int} {r : (List Int)} (hr : rW N va ve = some r) :
    Vm.Fn Tryz.prog 141 [] [(.agg (va.map (eI .u64))), (.agg (ve.map (eI .u64)))] (.agg (r.map (eI .u64))) [] := by
  refine zf Tryz.func141 Tryz.ntmps141 ?_
  unfold rW at hr
  obtain ⟨x9, h_1, hr⟩ := aA hr
  obtain ⟨q, h_2, hr⟩ := aA hr
  refine zz ?_
  refine xp (mN h_1) ?_
  obtain ⟨q_1, h_3, hr⟩ := aA hr
  obtain ⟨bW, h_4, hr⟩ := aA hr
  refine zz ?_
  refine xp (aHg h_4) ?_
  refine zz ?_
  refine AB.seq_g fun K1 hK1 hG1 => ?_
  have J1 : ∀ (l1 : List Int), vU N l1 = some r → K1 (aG 37 [(4, (.ptr 0 0)), (5, (.ptr 1 0))]) [some ⟨31, (List.replicate 4 0).map (eI .u64)⟩, some ⟨31, l1.map (eI .u64)⟩] := by
    intro l1 hr
    unfold vU at hr
    refine hK1 _ _ ?_
    obtain ⟨q_2, h_5, hr⟩ := aA hr
    refine zz ?_
    obtain rfl := sj hr
    exact eR Tryz.results141 bC (zG [])
  obtain ⟨bD, hL2, hr⟩ := aA hr
  refine zz ?_
  refine AB.block <| AB.loopN (fun m s h => ∃ (d7 : Int) (l3 : List Int), jT N va ve bW m d7 l3 = some bD ∧ Ghost 0 s h (aG 37 [(2, (.ptr 0 0)), (3, (.ptr 1 0)), (4, (.ptr 2 0)), (5, (.ptr 3 0)), (6, (eI .i64 bW)), (12, (eI .i64 bW)), (13, (eI .i64 d7))]) [some ⟨31, va.map (eI .u64)⟩, some ⟨31, ve.map (eI .u64)⟩, some ⟨31, (List.replicate 4 0).map (eI .u64)⟩, some ⟨31, l3.map (eI .u64)⟩]) (n := N) ⟨0, x9, hL2, (zG [0, 1, 2, 3])⟩ (by rintro s h ⟨_, _, h0, _⟩; simp [jT] at h0) ?_
  rintro m2 s h ⟨d7, l3, hr2, hg⟩
  refine AB.ghost hg ?_
  clear hg hL2
  rw [jT] at hr2
  refine zz ?_
  refine AB.seq ?_
  refine zk hr2 rfl (fun h6 hr2 => ?_) (fun h6 hr2 => ?_)
  · refine zz ?_
    refine AB.seq_g fun K3 hK3 hG3 => ?_
    have J3 : ∀ (jF : List Int), pI N va ve bW d7 (jT N va ve bW m2) jF = some bD → K3 (aG 37 [(2, (.ptr 0 0)), (3, (.ptr 1 0)), (4, (.ptr 2 0)), (5, (.ptr 3 0)), (6, (eI .i64 bW)), (12, (eI .i64 bW)), (13, (eI .i64 d7))]) [some ⟨31, va.map (eI .u64)⟩, some ⟨31, ve.map (eI .u64)⟩, some ⟨31, (List.replicate 4 0).map (eI .u64)⟩, some ⟨31, jF.map (eI .u64)⟩] := by
      intro jF hr2
      unfold pI at hr2
      refine hK3 _ _ ?_
      refine zz ?_
      exact ⟨IntKind.i64.wrap (d7 + 1), jF, hr2, (zG [0, 1, 2, 3])⟩
    refine AB.block ?_
    obtain ⟨q_3, h_7, hr2⟩ := aA hr2
    obtain ⟨dW, h_8, hr2⟩ := aA hr2
    obtain ⟨q_4, h_9, hr2⟩ := aA hr2
    refine zz ?_
    refine xp (zT h_8) ?_
    obtain ⟨x25, h_10, hr2⟩ := aA hr2
    obtain ⟨x29, h_11, hr2⟩ := aA hr2
    refine zz ?_
    refine zk hr2 rfl (fun h12 hr2 => ?_) (fun h12 hr2 => ?_)
    · obtain ⟨q_5, h_13, hr2⟩ := aA hr2
      obtain ⟨fY, h_14, hr2⟩ := aA hr2
      obtain ⟨q_6, h_15, hr2⟩ := aA hr2
      refine zz ?_
      refine xp (zT h_14) ?_
      refine zz ?_
      exact hG3 _ _ _ _ (zG [0, 1, 2, 3]) (J3 fY hr2)
    · refine zz ?_
      exact hG3 _ _ _ _ (zG [0, 1, 2, 3]) (J3 dW hr2)
  · refine zz ?_
    obtain rfl := sj hr2
    refine zz ?_
    exact hG1 _ _ _ _ (zG [2, 3]) (J1 l3 hr)
theorem aDn {N : Nat} {va : List Int} {r : Bool} (hr : mV N va = some r) :
    Vm.Fn Tryz.prog 135 [] [(.agg (va.map (eI .u64)))] (eB r) [] := by
  refine zf Tryz.func135 Tryz.ntmps135 ?_
  unfold mV at hr
  refine zz ?_
  refine AB.seq ?_
  refine AB.seq_g fun K1 hK1 hG1 => ?_
  have J1 : ∀ (bW : Bool), jG N va bW = some r → K1 (aG 17 [(1, (.ptr 0 0)), (11, (eB bW))]) [some ⟨31, va.map (eI .u64)⟩] := by
    intro bW hr
    unfold jG at hr
    refine hK1 _ _ ?_
    refine zk hr rfl (fun h1 hr => ?_) (fun h1 hr => ?_)
    · refine zz ?_
      obtain rfl := sj hr
      exact bO Tryz.results135 []
    · refine zz ?_
      refine AB.seq ?_
      obtain ⟨q, h_2, hr⟩ := aA hr
      obtain ⟨d7, h_3, hr⟩ := aA hr
      obtain ⟨aZ, h_5, hr⟩ := aA hr
      obtain ⟨x15, h_7, hr⟩ := aA hr
      obtain ⟨q_1, h_9, hr⟩ := aA hr
      obtain ⟨q_2, h_10, hr⟩ := aA hr
      refine AB.rs mixed [134, 138, 141] [] [[0, 1, 2, 3, 4, 5]] ?_
      refine zz ?_
      refine xu (sQ h_3) <| xu (zJ h_5) <| xu (mN h_7) ?_
      refine zz ?_
      obtain rfl := sj hr
      exact bO Tryz.results135 []
  obtain ⟨q_3, h_11, hr⟩ := aA hr
  rcases Bool.eq_false_or_eq_true (va == [0, 0, 0, 0]) with h12 | h12
  · replace hr := fM hr h12
    refine AB.rs mixed [143, 144] [] [[0, 1, 2, 3, 4, 5, 6, 7, 8]] ?_
    refine zz ?_
    refine xw (v := (.agg ([0, 0, 0, 0].map (eI .u64)))) (cB rfl (k4 bE jL rfl)) ?_
    refine zz ?_
    exact hG1 _ _ _ _ (zG [0]) (J1 true hr)
  · replace hr := fQ hr h12
    obtain ⟨x8, h_13, hr⟩ := aA hr
    obtain ⟨x9, h_15, hr⟩ := aA hr
    refine AB.rs mixed [143, 144] [] [[0, 1, 2, 3, 4, 5, 6, 7, 8]] ?_
    refine zz ?_
    refine xw (v := (.agg ([0, 0, 0, 0].map (eI .u64)))) (cB rfl (k4 bE jL rfl)) ?_
    refine zz ?_
    refine xu (zY h_13) <| xu (qR h_15) ?_
    refine zz ?_
    exact hG1 _ _ _ _ (zG [0]) (J1 (decide (0 ≤ x9)) hr)
theorem aBu {N : Nat} {p : List Int} {r : Bool} (hr : oC N p = some r) :
    Vm.Fn Tryz.prog 131 [] [(.agg (p.map (eI .u64)))] (eB r) [] := by
  refine zf Tryz.func131 Tryz.ntmps131 ?_
  unfold oC at hr
  refine zz ?_
  refine AB.seq_g fun K1 hK1 hG1 => ?_
  have J1 : ∀ (x2 : Bool), t9 N x2 = some r → K1 (aG 10 [(2, (eB x2))]) [] := by
    intro x2 hr
    unfold t9 at hr
    refine hK1 _ _ ?_
    refine zz ?_
    obtain rfl := sj hr
    exact bO Tryz.results131 []
  obtain ⟨q, h_1, hr⟩ := aA hr
  obtain ⟨x4, h_2, hr⟩ := aA hr
  obtain ⟨q_1, h_4, hr⟩ := aA hr
  rcases Bool.eq_false_or_eq_true (!(p == x4)) with h5 | h5
  · replace hr := fM hr h5
    obtain ⟨x8, h_6, hr⟩ := aA hr
    refine AB.rs mixed [134, 135] [] [[0, 1, 2, 3, 4, 5, 6, 7]] ?_
    refine zz ?_
    refine xu (mN h_2) ?_
    refine zz ?_
    refine xu (aDn h_6) ?_
    refine zz ?_
    exact hG1 _ _ _ _ (zG []) (J1 x8 hr)
  · replace hr := fQ hr h5
    refine AB.rs mixed [134, 135] [] [[0, 1, 2, 3, 4, 5, 6, 7]] ?_
    refine zz ?_
    refine xu (mN h_2) ?_
    refine zz ?_
    exact hG1 _ _ _ _ (zG []) (J1 false hr)
theorem iY {N : Nat} {va : List Int} {r : Bool} (hr : lW N va = some r) :
    Vm.Fn Tryz.prog 136 [] [(.agg (va.map (eI .u64)))] (eB r) [] := by
  refine zf Tryz.func136 Tryz.ntmps136 ?_
  unfold lW at hr
  refine zz ?_
  refine AB.seq ?_
  obtain ⟨q, h_1, hr⟩ := aA hr
  obtain ⟨x4, h_2, hr⟩ := aA hr
  obtain ⟨x5, h_4, hr⟩ := aA hr
  refine AB.rs mixed [138, 143] [] [[0, 1, 2, 3, 4]] ?_
  refine zz ?_
  refine xu (sQ h_2) <| xu (qR h_4) ?_
  refine zz ?_
  obtain rfl := sj hr
  exact bO Tryz.results136 []
theorem aEE {N : Nat} {b : List Int} {r : (List Int) × (List Int) × Int} (hr : oK N b = some r) :
    Vm.Fn Tryz.prog 132 [] [(.row none 1 (b.map (eI .u8)))] (.tup [(.agg (dG (eI .u64) r.1 (dG (eI .u64) r.2.1 []))), (eI .i64 r.2.2)]) [] := by
  refine zf Tryz.func132 Tryz.ntmps132 ?_
  unfold oK at hr
  refine zz ?_
  refine xw (v := (.ptr 0 0)) (h' := [some ⟨37, (dG (eI .u64) (List.replicate 4 0) (dG (eI .u64) (List.replicate 4 0) []))⟩]) (eK uD rfl rfl rfl) ?_
  refine zz ?_
  refine AB.seq ?_
  refine zz ?_
  refine zk hr rfl (fun h1 hr => ?_) (fun h1 hr => ?_)
  · refine zz ?_
    refine xw (v := (.agg (dG (eI .u64) (List.replicate 4 0) (dG (eI .u64) (List.replicate 4 0) [])))) (cB rfl (aAh uD aED rfl)) ?_
    refine zz ?_
    obtain rfl := sj hr
    exact vV Tryz.results132 bC bC (zG [])
  · refine zz ?_
    refine AB.seq ?_
    obtain ⟨bS, h_2, hr⟩ := aA hr
    obtain ⟨bW, h_3, hr⟩ := aA hr
    obtain ⟨d7, h_4, hr⟩ := aA hr
    obtain ⟨x15, h_6, hr⟩ := aA hr
    obtain ⟨x16, h_7, hr⟩ := aA hr
    obtain ⟨x18, h_8, hr⟩ := aA hr
    obtain ⟨q, h_10, hr⟩ := aA hr
    obtain ⟨q_1, h_11, hr⟩ := aA hr
    refine AB.rs mixed [130] [] [[0, 1, 2, 3, 4, 5, 6, 7, 8, 9, 10, 11, 12]] ?_
    refine zz ?_
    refine xw (v := (.eptr [.agg (bW.map (eI .u8))] 0 0)) (aAU rfl (apR (E := (eI .u8)) s8 (fun _ => rfl) zl h_3)) <| xw (v := (.agg (bW.map (eI .u8)))) (bA rfl (aGs (E := (eI .u8)) (l := bW) s8 rfl (bP h_3))) <| xu (oY h_4) ?_
    refine zz ?_
    refine xw (v := (.eptr [.agg (x16.map (eI .u8))] 0 0)) (aAU rfl (apR (E := (eI .u8)) s8 (fun _ => rfl) zl h_7)) <| xw (v := (.agg (x16.map (eI .u8)))) (bA rfl (aGs (E := (eI .u8)) (l := x16) s8 rfl (bP h_7))) <| xu (oY h_8) <| xw (v := (.agg (dG (eI .u64) d7 (dG (eI .u64) x18 [])))) (cB rfl (aJU (ps' := [(0, (.agg (dG (eI .u64) d7 []))), (1, (.agg (dG (eI .u64) x18 [])))]) (by simp only [uS (l := d7) (aQ h_10), uS (l := x18) (aQ h_11)]) (aAh uD aED rfl))) <| xw (v := (.ptr 1 0)) (h' := [some ⟨37, (dG (eI .u64) (List.replicate 4 0) (dG (eI .u64) (List.replicate 4 0) []))⟩, some ⟨37, (dG (eI .u64) (List.replicate 4 0) (dG (eI .u64) (List.replicate 4 0) []))⟩]) (eK uD rfl rfl rfl) ?_
    refine zz ?_
    refine AB.seq ?_
    refine AB.seq_g fun K1 hK1 hG1 => ?_
    have J1 : ∀ (x29 : Bool), l9 N d7 x18 x29 = some r → K1 (aG 32 [(2, (.ptr 0 0)), (4, (.ptr 1 0)), (29, (eB x29))]) [some ⟨37, (dG (eI .u64) (List.replicate 4 0) (dG (eI .u64) (List.replicate 4 0) []))⟩, some ⟨37, (dG (eI .u64) d7 (dG (eI .u64) x18 []))⟩] := by
      intro x29 hr
      unfold l9 at hr
      refine hK1 _ _ ?_
      refine zk hr rfl (fun h12 hr => ?_) (fun h12 hr => ?_)
      · refine zz ?_
        refine xw (v := (.agg (dG (eI .u64) (List.replicate 4 0) (dG (eI .u64) (List.replicate 4 0) [])))) (cB rfl (aAh uD aED rfl)) ?_
        refine zz ?_
        obtain rfl := sj hr
        exact vV Tryz.results132 bC bC (zG [])
      · refine zz ?_
        obtain rfl := sj hr
        exact vV Tryz.results132 bC bC (zG [])
    obtain ⟨dW, h_13, hr⟩ := aA hr
    rcases Bool.eq_false_or_eq_true (!dW) with h14 | h14
    · replace hr := fM hr h14
      refine xr ?_
      refine zz ?_
      refine xp (iY h_13) ?_
      refine zz ?_
      exact hG1 _ _ _ _ (zG [0, 1]) (J1 true hr)
    · replace hr := fQ hr h14
      obtain ⟨x27, h_15, hr⟩ := aA hr
      refine xr ?_
      refine zz ?_
      refine xp (iY h_13) ?_
      refine zz ?_
      refine xCg (v := (eB x27)) (h' := [some ⟨37, (dG (eI .u64) (List.replicate 4 0) (dG (eI .u64) (List.replicate 4 0) []))⟩, some ⟨37, (dG (eI .u64) d7 (dG (eI .u64) x18 []))⟩]) rfl rfl h14 rfl (Vm.Fn.pure (iY h_15) zR rfl) ?_
      refine zz ?_
      exact hG1 _ _ _ _ (zG [0, 1]) (J1 (!x27) hr)
theorem aEz {N : Nat} {ve : List Int} {r : (List Int)} (hr : qP N ve = some r) :
    Vm.Fn Tryz.prog 140 [] [(.agg (ve.map (eI .u64)))] (.agg (r.map (eI .u64))) [] := by
  refine zf Tryz.func140 Tryz.ntmps140 ?_
  unfold qP at hr
  refine zz ?_
  refine AB.seq ?_
  obtain ⟨x3, h_1, hr⟩ := aA hr
  obtain ⟨q, h_3, hr⟩ := aA hr
  obtain ⟨x5, h_4, hr⟩ := aA hr
  obtain ⟨q_1, h_6, hr⟩ := aA hr
  refine AB.rs mixed [134, 141] [] [[0, 1, 2, 3]] <| xu (mN h_1) ?_
  refine zz ?_
  refine xu (zJ h_4) ?_
  refine zz ?_
  obtain rfl := sj hr
  exact eR Tryz.results140 bC (zG [])
theorem t6 {N : Nat} {va : List Int} {r : (List Int)} (hr : lS N va = some r) :
    Vm.Fn Tryz.prog 34 [] [(.agg (va.map (eI .u64)))] (.agg (r.map (eI .u8))) [] := by
  refine zf Tryz.func34 Tryz.ntmps34 ?_
  unfold lS at hr
  refine zz ?_
  refine AB.seq_g fun K1 hK1 hG1 => ?_
  have J1 : ∀ (l1 : List Int), t4 N l1 = some r → K1 (aG 23 [(2, (.ptr 0 0)), (3, (.ptr 1 0))]) [some ⟨24, (List.replicate 32 0).map (eI .u8)⟩, some ⟨24, l1.map (eI .u8)⟩] := by
    intro l1 hr
    unfold t4 at hr
    refine hK1 _ _ ?_
    obtain ⟨q, h_1, hr⟩ := aA hr
    refine zz ?_
    obtain rfl := sj hr
    exact eR Tryz.results34 bC (zG [])
  obtain ⟨bD, hL2, hr⟩ := aA hr
  refine zz ?_
  refine AB.block <| AB.loopN (fun m s h => ∃ (x5 : Int) (l2 : List Int), iM N va m x5 l2 = some bD ∧ Ghost 0 s h (aG 23 [(1, (.ptr 0 0)), (2, (.ptr 1 0)), (3, (.ptr 2 0)), (5, (eI .i64 x5))]) [some ⟨31, va.map (eI .u64)⟩, some ⟨24, (List.replicate 32 0).map (eI .u8)⟩, some ⟨24, l2.map (eI .u8)⟩]) (n := N) ⟨0, List.replicate 32 0, hL2, (zG [0, 1, 2])⟩ (by rintro s h ⟨_, _, h0, _⟩; simp [iM] at h0) ?_
  rintro m2 s h ⟨x5, l2, hr2, hg⟩
  refine AB.ghost hg ?_
  clear hg hL2
  rw [iM] at hr2
  refine zz ?_
  refine AB.seq ?_
  refine zk hr2 rfl (fun h2 hr2 => ?_) (fun h2 hr2 => ?_)
  · refine zz ?_
    refine AB.seq <| AB.block ?_
    obtain ⟨cL, h_3, hr2⟩ := aA hr2
    obtain ⟨x18, h_4, hr2⟩ := aA hr2
    obtain ⟨eX, h_5, hr2⟩ := aA hr2
    refine zz ?_
    exact ⟨IntKind.i64.wrap (x5 + 1), l2.set (Int.toNat x5) (IntKind.u8.wrap x18), hr2, (zG [0, 1, 2])⟩
  · refine zz ?_
    obtain rfl := sj hr2
    refine zz ?_
    exact hG1 _ _ _ _ (zG [1, 2]) (J1 l2 hr)
theorem aHu {N : Nat} {parts : List (List Int)} {r : (List Int)} (hr : uF N parts = some r) :
    Vm.Fn Tryz.prog 148 [] [(.row none 32 (parts.map (eA (eI .u8))))] (.sl 0 0 r.length 1 false) [some ⟨5, r.map (eI .u8)⟩] := by
  refine zf Tryz.func148 Tryz.ntmps148 ?_
  unfold uF at hr
  refine zz ?_
  refine AB.seq_g fun K1 hK1 hG1 => ?_
  have J1 : ∀ (l0 : List Int), aAq N l0 = some r → K1 (aG 17 [(3, (.sl 0 0 l0.length 1 false))]) [some ⟨5, l0.map (eI .u8)⟩] := by
    intro l0 hr
    unfold aAq at hr
    refine hK1 _ _ ?_
    refine zz ?_
    obtain rfl := sj hr
    exact bO Tryz.results148 [0]
  obtain ⟨bD, hL2, hr⟩ := aA hr
  refine zz ?_
  refine AB.block <| AB.loopN (fun m s h => ∃ (x8 : Int) (aS : List Int), lX N parts m x8 aS = some bD ∧ Ghost 0 s h (aG 17 [(3, (.sl 0 0 aS.length 1 false)), (6, (.row none 32 (parts.map (eA (eI .u8))))), (7, (eI .i64 (parts.length : Int))), (8, (eI .i64 x8))]) [some ⟨5, aS.map (eI .u8)⟩]) (n := N) ⟨0, [], hL2, (zW 5 [0])⟩ (by rintro s h ⟨_, _, h0, _⟩; simp [lX] at h0) ?_
  rintro m2 s h ⟨x8, aS, hr2, hg⟩
  refine AB.ghost hg ?_
  clear hg hL2
  rw [lX] at hr2
  refine zz ?_
  refine AB.seq ?_
  refine zk hr2 rfl (fun h1 hr2 => ?_) (fun h1 hr2 => ?_)
  · refine zz ?_
    refine AB.seq <| AB.block ?_
    obtain ⟨bS, h_2, hr2⟩ := aA hr2
    obtain ⟨q, h_3, hr2⟩ := aA hr2
    refine zz ?_
    refine xw (v := (.agg (bS.map (eI .u8)))) (bA rfl (aJ0 (E := (eI .u8)) s8 rfl h_2 (aQ h_3))) ?_
    obtain ⟨aZ, h_4, hr2⟩ := aA hr2
    refine zz ?_
    exact ⟨IntKind.i64.wrap (x8 + 1), aZ, hr2, (zG [2])⟩
  · refine zz ?_
    obtain rfl := sj hr2
    refine zz ?_
    exact hG1 _ _ _ _ (zG [0]) (J1 aS hr)
theorem aFy {N : Nat} {tag : ByteArray} {b : List Int} {r : (List Int)} (hr : uY N tag b = some r) :
    Vm.Fn Tryz.prog 49 [] [(eS tag), (.row none 1 (b.map (eI .u8)))] (.agg (r.map (eI .u8))) [] := by
  refine zf Tryz.func49 Tryz.ntmps49 ?_
  unfold uY at hr
  obtain ⟨x7, h_1, hr⟩ := aA hr
  obtain ⟨x8, h_2, hr⟩ := aA hr
  obtain ⟨q, h_3, hr⟩ := aA hr
  refine zz ?_
  refine aNr (h' := [some ⟨24, (List.replicate 32 0).map (eI .u8)⟩, some ⟨5, x7.map (eI .u8)⟩]) rfl ti9 bH jC h_1 rfl rfl <| vG (aA2 h_2) [] [1] ?_
  refine zz ?_
  refine AB.seq ?_
  obtain ⟨d7, h_4, hr⟩ := aA hr
  obtain ⟨aZ, h_6, hr⟩ := aA hr
  obtain ⟨q_1, h_8, hr⟩ := aA hr
  refine AB.rs mixed [] [79, 80] [[0, 1, 2], [3, 4, 5, 6]] ?_
  refine zz ?_
  refine ⟨_, _, (zv 2), ?_⟩
  refine zz ?_
  refine zgL (aDU h_4) [] [3] ?_
  refine zgL (aA2 h_6) [] [4] ?_
  refine zz ?_
  obtain rfl := sj hr
  exact eR Tryz.results49 bC (zG [])
theorem aHr {N : Nat} {va : List Int} {b : List Int} {r : (List Int) × Bool} (hr : rS N va b = some r) :
    Vm.Fn Tryz.prog 156 [] [(.agg (va.map (eI .u64))), (.agg (b.map (eI .u64)))] (.tup [(.agg (r.1.map (eI .u64))), (eB r.2)]) [] := by
  refine zf Tryz.func156 Tryz.ntmps156 ?_
  unfold rS at hr
  refine zz ?_
  refine AB.seq_g fun K1 hK1 hG1 => ?_
  have J1 : ∀ (iL : Int) (l1 : List Int), tK N iL l1 = some r → K1 (aG 29 [(4, (.ptr 0 0)), (6, (.ptr 1 0)), (7, (eI .u64 iL))]) [some ⟨31, (List.replicate 4 0).map (eI .u64)⟩, some ⟨31, l1.map (eI .u64)⟩] := by
    intro iL l1 hr
    unfold tK at hr
    refine hK1 _ _ ?_
    obtain ⟨q, h_1, hr⟩ := aA hr
    refine zz ?_
    obtain rfl := sj hr
    exact vV Tryz.results156 bC bC (rU [])
  obtain ⟨bD, hL2, hr⟩ := aA hr
  refine zz ?_
  refine AB.block <| AB.loopN (fun m s h => ∃ (carry_1 : Int) (x9 : Int) (l3 : List Int), iA N va b m carry_1 x9 l3 = some bD ∧ Ghost 0 s h (aG 29 [(2, (.ptr 0 0)), (3, (.ptr 1 0)), (4, (.ptr 2 0)), (6, (.ptr 3 0)), (7, (eI .u64 carry_1)), (9, (eI .i64 x9))]) [some ⟨31, va.map (eI .u64)⟩, some ⟨31, b.map (eI .u64)⟩, some ⟨31, (List.replicate 4 0).map (eI .u64)⟩, some ⟨31, l3.map (eI .u64)⟩]) (n := N) ⟨0, 0, List.replicate 4 0, hL2, (zG [0, 1, 2, 3])⟩ (by rintro s h ⟨_, _, _, h0, _⟩; simp [iA] at h0) ?_
  rintro m2 s h ⟨carry_1, x9, l3, hr2, hg⟩
  refine AB.ghost hg ?_
  clear hg hL2
  rw [iA] at hr2
  refine zz ?_
  refine AB.seq ?_
  refine zk hr2 rfl (fun h2 hr2 => ?_) (fun h2 hr2 => ?_)
  · refine zz ?_
    refine AB.seq <| AB.block ?_
    obtain ⟨x15, h_3, hr2⟩ := aA hr2
    obtain ⟨x18, h_4, hr2⟩ := aA hr2
    obtain ⟨dE, h_5, hr2⟩ := aA hr2
    obtain ⟨jD, h_7, hr2⟩ := aA hr2
    refine zz ?_
    refine AB.rs mixed [114] [] [[0, 1, 2, 3, 4, 5, 6, 7, 8, 9, 10, 11, 12, 13, 14]] ?_
    refine zz ?_
    refine xu (iX h_5) ?_
    refine zz ?_
    exact ⟨dE.2, IntKind.i64.wrap (x9 + 1), l3.set (Int.toNat x9) dE.1, hr2, (zG [0, 1, 2, 3])⟩
  · refine zz ?_
    obtain rfl := sj hr2
    refine zz ?_
    exact hG1 _ _ _ _ (zG [2, 3]) (J1 carry_1 l3 hr)
theorem aEH {N : Nat} {va : List Int} {b : List Int} {vm : List Int} {r : (List Int)} (hr : tF N va b vm = some r) :
    Vm.Fn Tryz.prog 155 [] [(.agg (va.map (eI .u64))), (.agg (b.map (eI .u64))), (.agg (vm.map (eI .u64)))] (.agg (r.map (eI .u64))) [] := by
  refine zf Tryz.func155 Tryz.ntmps155 ?_
  unfold tF at hr
  refine zz ?_
  refine AB.seq ?_
  obtain ⟨q, h_1, hr⟩ := aA hr
  refine zz ?_
  refine xw (v := (.agg ([0, 0, 0, 0].map (eI .u64)))) (cB rfl (k4 bE jL rfl)) ?_
  refine zz ?_
  refine zk hr rfl (fun h2 hr => ?_) (fun h2 hr => ?_)
  · refine zz ?_
    refine xw (v := (.agg ([0, 0, 0, 0].map (eI .u64)))) (cB rfl (k4 bE jL rfl)) ?_
    refine zz ?_
    obtain rfl := sj hr
    exact eR Tryz.results155 bC (zG [])
  · refine zz ?_
    refine AB.seq ?_
    obtain ⟨q_1, h_3, hr⟩ := aA hr
    obtain ⟨x16, h_4, hr⟩ := aA hr
    obtain ⟨q_2, h_6, hr⟩ := aA hr
    obtain ⟨x19, h_7, hr⟩ := aA hr
    obtain ⟨eX, h_9, hr⟩ := aA hr
    obtain ⟨q_3, h_11, hr⟩ := aA hr
    refine AB.rs mixed [151, 156] [] [[0, 1, 2, 3, 4, 5, 6, 7, 8, 9, 10, 11, 12]] ?_
    refine zz ?_
    refine xu (wE h_4) ?_
    refine zz ?_
    refine xu (wE h_7) <| xu (aHr h_9) ?_
    refine zz ?_
    refine AB.seq_g fun K1 hK1 hG1 => ?_
    have J1 : ∀ (l1 : List Int), kK N l1 = some r → K1 (aG 37 [(6, (.ptr 0 0)), (7, (.ptr 1 0))]) [some ⟨31, (List.replicate 4 0).map (eI .u64)⟩, some ⟨31, l1.map (eI .u64)⟩] := by
      intro l1 hr
      unfold kK at hr
      refine hK1 _ _ ?_
      obtain ⟨q_4, h_12, hr⟩ := aA hr
      refine zz ?_
      obtain rfl := sj hr
      exact eR Tryz.results155 bC (zG [])
    refine AB.seq_g fun K2 hK2 hG2 => ?_
    have J2 : ∀ (x29 : Bool), kH N vm eX x29 = some r → K2 (aG 37 [(5, (.ptr 0 0)), (6, (.ptr 1 0)), (7, (.ptr 2 0)), (29, (eB x29))]) [some ⟨31, vm.map (eI .u64)⟩, some ⟨31, (List.replicate 4 0).map (eI .u64)⟩, some ⟨31, eX.1.map (eI .u64)⟩] := by
      intro x29 hr
      unfold kH at hr
      refine hK2 _ _ ?_
      refine zk hr rfl (fun h13 hr => ?_) (fun h13 hr => ?_)
      · obtain ⟨oG, h_14, hr⟩ := aA hr
        obtain ⟨q_5, h_15, hr⟩ := aA hr
        refine zz ?_
        refine xp (aAr h_14) ?_
        refine zz ?_
        exact hG1 _ _ _ _ (zG [1, 2]) (J1 oG.1 hr)
      · refine zz ?_
        exact hG1 _ _ _ _ (zG [1, 2]) (J1 eX.1 hr)
    rcases Bool.eq_false_or_eq_true eX.2 with h16 | h16
    · replace hr := fM hr h16
      refine xr ?_
      refine zz ?_
      exact hG2 _ _ _ _ (zG [2, 3, 4]) (J2 true hr)
    · replace hr := fQ hr h16
      obtain ⟨x27, h_17, hr⟩ := aA hr
      refine xr ?_
      refine zz ?_
      refine xCg (v := (eI .i64 x27)) (h' := [some ⟨31, va.map (eI .u64)⟩, some ⟨31, b.map (eI .u64)⟩, some ⟨31, vm.map (eI .u64)⟩, some ⟨31, (List.replicate 4 0).map (eI .u64)⟩, some ⟨31, eX.1.map (eI .u64)⟩]) rfl rfl h16 rfl (Vm.Fn.pure (qR h_17) zR rfl) ?_
      refine zz ?_
      exact hG2 _ _ _ _ (zG [2, 3, 4]) (J2 (decide (0 ≤ x27)) hr)
theorem aCh {N : Nat} {va : List Int} {b : List Int} {r : (List Int)} (hr : lB N va b = some r) :
    Vm.Fn Tryz.prog 153 [] [(.agg (va.map (eI .u64))), (.agg (b.map (eI .u64)))] (.agg (r.map (eI .u64))) [] := by
  refine zf Tryz.func153 Tryz.ntmps153 ?_
  unfold lB at hr
  refine zz ?_
  refine AB.seq ?_
  obtain ⟨q, h_1, hr⟩ := aA hr
  obtain ⟨q_1, h_2, hr⟩ := aA hr
  obtain ⟨x7, h_3, hr⟩ := aA hr
  obtain ⟨x8, h_5, hr⟩ := aA hr
  obtain ⟨q_2, h_7, hr⟩ := aA hr
  refine AB.rs mixed [138, 155] [] [[0, 1, 2, 3, 4]] ?_
  refine zz ?_
  refine xu (sQ h_3) <| xu (aEH h_5) ?_
  refine zz ?_
  obtain rfl := sj hr
  exact eR Tryz.results153 bC (zG [])
theorem aD9 {N : Nat} {vh : List Int} {r : (List Int)} (hr : mM N vh = some r) :
    Vm.Fn Tryz.prog 147 [] [(.agg (vh.map (eI .u8)))] (.agg (r.map (eI .u64))) [] := by
  refine zf Tryz.func147 Tryz.ntmps147 ?_
  unfold mM at hr
  obtain ⟨q, h_1, hr⟩ := aA hr
  obtain ⟨x4, h_2, hr⟩ := aA hr
  obtain ⟨x6, h_3, hr⟩ := aA hr
  obtain ⟨q_1, h_4, hr⟩ := aA hr
  refine zz ?_
  refine xp (oY h_2) <| xw (v := (.agg ([0, 0, 0, 0].map (eI .u64)))) (cB rfl (k4 bE jL rfl)) <| xp (aCh h_3) ?_
  refine zz ?_
  obtain rfl := sj hr
  exact eR Tryz.results147 bC (zG [])
theorem aCD {N : Nat} {vr : List Int} {p : List Int} {vm : List Int} {r : (List Int)} (hr : kI N vr p vm = some r) :
    Vm.Fn Tryz.prog 142 [] [(.agg (vr.map (eI .u64))), (.agg (p.map (eI .u64))), (.agg (vm.map (eI .u8)))] (.agg (r.map (eI .u64))) [] := by
  refine zf Tryz.func142 Tryz.ntmps142 ?_
  unfold kI at hr
  refine zz ?_
  refine AB.seq ?_
  obtain ⟨q, h_1, hr⟩ := aA hr
  obtain ⟨x8, h_2, hr⟩ := aA hr
  obtain ⟨q_1, h_4, hr⟩ := aA hr
  obtain ⟨bS, h_5, hr⟩ := aA hr
  obtain ⟨q_2, h_7, hr⟩ := aA hr
  obtain ⟨q_3, h_8, hr⟩ := aA hr
  obtain ⟨q_4, h_9, hr⟩ := aA hr
  obtain ⟨d7, h_10, hr⟩ := aA hr
  obtain ⟨aZ, h_12, hr⟩ := aA hr
  obtain ⟨x15, h_14, hr⟩ := aA hr
  obtain ⟨q_5, h_16, hr⟩ := aA hr
  refine AB.rs mixed [34, 147] [49, 148] [[0, 1, 2, 3, 4, 5], [6, 7, 8, 9]] ?_
  refine zz ?_
  refine xu (t6 h_2) ?_
  refine zz ?_
  refine xu (t6 h_5) ?_
  refine zz ?_
  refine xw (v := (.sl 4 0 3 32 true)) (h' := [some ⟨31, vr.map (eI .u64)⟩, some ⟨31, p.map (eI .u64)⟩, some ⟨24, vm.map (eI .u8)⟩, some ⟨31, (List.replicate 4 0).map (eI .u64)⟩, some ⟨24, [x8, bS, vm].flatMap (aBq (eI .u8))⟩]) (dH rfl (aLc (ps' := [(0, .agg (aBq (eI .u8) x8)), (1, .agg (aBq (eI .u8) bS)), (2, .agg (aBq (eI .u8) vm))]) (by simp only [aGA, aBq, sD (l := x8) (aQ h_8), sD (l := bS) (aQ h_9), sD (l := vm) (aQ h_7)]) (aBh (len := 3) (C := (aBq (eI .u8))) (xs := [x8, bS, vm]) (K := 32) (fun _ => rfl) (fun _ => rfl) aLm s8 ⟨zl, zl, zl⟩ rfl rfl rfl rfl rfl rfl))) ?_
  refine zz ?_
  refine ⟨_, _, (Ghost.conv (fr' := [(0, (.agg (vr.map (eI .u64)))), (1, (.agg (p.map (eI .u64)))), (2, (.agg (vm.map (eI .u8)))), (3, (.ptr 0 0)), (4, (.ptr 1 0)), (5, (.ptr 2 0)), (6, (.ptr 3 0)), (7, (.agg (vr.map (eI .u64)))), (8, (.agg (x8.map (eI .u8)))), (9, (.agg (p.map (eI .u64)))), (10, (.agg (bS.map (eI .u8)))), (11, (.agg (vm.map (eI .u8)))), (12, (.row none 32 ([x8, bS, vm].map (eA (eI .u8)))))]) (h' := [some ⟨31, vr.map (eI .u64)⟩, some ⟨31, p.map (eI .u64)⟩, some ⟨24, vm.map (eI .u8)⟩, some ⟨31, (List.replicate 4 0).map (eI .u64)⟩, none]) (FCv.cons rfl (Conv.same (aL rfl)) (FCv.cons rfl (Conv.same (aL rfl)) (FCv.cons rfl (Conv.same (aL rfl)) (FCv.cons rfl (Conv.same (aL rfl)) (FCv.cons rfl (Conv.same (aL rfl)) (FCv.cons rfl (Conv.same (aL rfl)) (FCv.cons rfl (Conv.same (aL rfl)) (FCv.cons rfl (Conv.same (aL rfl)) (FCv.cons rfl (Conv.same (aL rfl)) (FCv.cons rfl (Conv.same (aL rfl)) (FCv.cons rfl (Conv.same (aL rfl)) (FCv.cons rfl (Conv.same (aL rfl)) (FCv.cons rfl (Conv.rowKA (C := (aBq (eI .u8))) (E := (eI .u8)) (fun _ => rfl) (fun _ => rfl) (fun _ => rfl) (List.forall_mem_cons.2 ⟨sD (aQ h_8), List.forall_mem_cons.2 ⟨sD (aQ h_9), List.forall_mem_cons.2 ⟨sD (aQ h_7), List.forall_mem_nil _⟩⟩⟩) (aL rfl) rfl rfl rfl) FCv.nil))))))))))))) (HCv.live (Convs.same (aL rfl)) (all_map (fun _ => rfl) _) (HCv.live (Convs.same (aL rfl)) (all_map (fun _ => rfl) _) (HCv.live (Convs.same (aL rfl)) (all_map (fun _ => rfl) _) (HCv.live (Convs.same (aL rfl)) (all_map (fun _ => rfl) _) (HCv.dead HCv.nil)))))), ?_⟩
  refine zg (aHu h_10) [] ?_
  refine zgL (aFy h_12) [] [5] ?_
  refine xu (aD9 h_14) ?_
  refine zz ?_
  obtain rfl := sj hr
  exact eR Tryz.results142 bC (zG [])
theorem aEM {N : Nat} {p : List Int} {vm : List Int} {s_E : List Int} {s_S : List Int} {r : Bool} (hr : oP N p vm s_E s_S = some r) :
    Vm.Fn Tryz.prog 133 [] [(.agg (p.map (eI .u64))), (.agg (vm.map (eI .u8))), (.agg (dG (eI .u64) s_E (dG (eI .u64) s_S [])))] (eB r) [] := by
  refine zf Tryz.func133 Tryz.ntmps133 ?_
  unfold oP at hr
  refine zz ?_
  refine AB.seq ?_
  refine AB.seq_g fun K1 hK1 hG1 => ?_
  have J1 : ∀ (jD : Bool), i6 N p vm s_E s_S jD = some r → K1 (aG 46 [(3, (.ptr 0 0)), (4, (.ptr 1 0)), (5, (.ptr 2 0)), (24, (eB jD))]) [some ⟨31, p.map (eI .u64)⟩, some ⟨24, vm.map (eI .u8)⟩, some ⟨37, (dG (eI .u64) s_E (dG (eI .u64) s_S []))⟩] := by
    intro jD hr
    unfold i6 at hr
    refine hK1 _ _ ?_
    refine zk hr rfl (fun h1 hr => ?_) (fun h1 hr => ?_)
    · refine zz ?_
      obtain rfl := sj hr
      exact bO Tryz.results133 []
    · refine zz ?_
      refine AB.seq ?_
      obtain ⟨x26, h_2, hr⟩ := aA hr
      obtain ⟨q, h_4, hr⟩ := aA hr
      obtain ⟨x29, h_5, hr⟩ := aA hr
      obtain ⟨q_1, h_7, hr⟩ := aA hr
      refine AB.rs mixed [137, 138] [] [[0, 1, 2, 3, 4, 5, 6, 7, 8, 9]] <| xu (sQ h_2) ?_
      refine zz ?_
      refine xu (aAr h_5) ?_
      refine zz ?_
      refine AB.seq ?_
      obtain ⟨q_2, h_8, hr⟩ := aA hr
      obtain ⟨fY, h_9, hr⟩ := aA hr
      obtain ⟨q_3, h_11, hr⟩ := aA hr
      obtain ⟨x37, h_12, hr⟩ := aA hr
      obtain ⟨x38, h_14, hr⟩ := aA hr
      obtain ⟨q_4, h_16, hr⟩ := aA hr
      refine AB.rs mixed [139, 140, 141] [] [[0, 1, 2, 3, 4, 5, 6, 7, 8]] ?_
      refine zz ?_
      refine xu (aEz h_9) ?_
      refine zz ?_
      refine xu (zJ h_12) <| xu (zT h_14) ?_
      refine zz ?_
      refine AB.seq ?_
      obtain ⟨q_5, h_17, hr⟩ := aA hr
      obtain ⟨x44, h_18, hr⟩ := aA hr
      obtain ⟨q_6, h_20, hr⟩ := aA hr
      refine AB.rs mixed [142] [] [[0, 1, 2, 3, 4, 5, 6, 7]] ?_
      refine zz ?_
      refine xu (aCD h_18) ?_
      refine zz ?_
      obtain rfl := sj hr
      exact bO Tryz.results133 []
  obtain ⟨q_7, h_21, hr⟩ := aA hr
  obtain ⟨cL, h_22, hr⟩ := aA hr
  rcases Bool.eq_false_or_eq_true (!cL) with h23 | h23
  · replace hr := fM hr h23
    refine xr ?_
    refine zz ?_
    refine xp (iY h_22) ?_
    refine zz ?_
    refine xX rfl <| xX rfl <| xX rfl ?_
    refine zz ?_
    exact hG1 _ _ _ _ (zG [0, 1, 2]) (J1 true hr)
  · replace hr := fQ hr h23
    obtain ⟨q_8, h_24, hr⟩ := aA hr
    obtain ⟨x17, h_25, hr⟩ := aA hr
    rcases Bool.eq_false_or_eq_true (!x17) with h26 | h26
    · replace hr := fM hr h26
      refine xr ?_
      refine zz ?_
      refine xp (iY h_22) ?_
      refine zz ?_
      refine xCg (v := (eB x17)) (h' := [some ⟨31, p.map (eI .u64)⟩, some ⟨24, vm.map (eI .u8)⟩, some ⟨37, (dG (eI .u64) s_E (dG (eI .u64) s_S []))⟩]) rfl rfl h23 rfl (Vm.Fn.pure (iY h_25) zR rfl) ?_
      refine zz ?_
      exact hG1 _ _ _ _ (zG [0, 1, 2]) (J1 true hr)
    · replace hr := fQ hr h26
      obtain ⟨q_9, h_27, hr⟩ := aA hr
      obtain ⟨dW, h_28, hr⟩ := aA hr
      refine xr ?_
      refine zz ?_
      refine xp (iY h_22) ?_
      refine zz ?_
      refine xCg (v := (eB x17)) (h' := [some ⟨31, p.map (eI .u64)⟩, some ⟨24, vm.map (eI .u8)⟩, some ⟨37, (dG (eI .u64) s_E (dG (eI .u64) s_S []))⟩]) rfl rfl h23 rfl (Vm.Fn.pure (iY h_25) zR rfl) ?_
      refine zz ?_
      refine xCg (v := (eB dW)) (h' := [some ⟨31, p.map (eI .u64)⟩, some ⟨24, vm.map (eI .u8)⟩, some ⟨37, (dG (eI .u64) s_E (dG (eI .u64) s_S []))⟩]) rfl rfl h26 rfl (Vm.Fn.pure (aBu h_28) zR rfl) ?_
      refine zz ?_
      exact hG1 _ _ _ _ (zG [0, 1, 2]) (J1 (!dW) hr)
theorem zZ {N : Nat} {aB : List Int} {aD : Int} {aH : Int} {aF : List (List Int)} {aC : List aE} {aP : Int} {key : List Int} {xF : List Int} {r : Int} (hr : cF N aB aD aH aF aC aP key xF = some r) :
    Vm.Fn Tryz.prog 125 [some ⟨105, (aO (eI .u8) aB [(eI .i64 aD), (eI .i64 aH), (.sl 1 0 aF.length 1 false), (.sl 2 0 aC.length 2 true), (eI .i64 aP)])⟩, some ⟨22, aF.map (eL 1 (eI .u8))⟩, some ⟨127, aC.flatMap aN⟩] [(.ptr 0 0), (.row none 1 (key.map (eI .u8))), (.row none 1 (xF.map (eI .u8)))] (eI .i64 r) [some ⟨105, (aO (eI .u8) aB [(eI .i64 aD), (eI .i64 aH), (.sl 1 0 aF.length 1 false), (.sl 2 0 aC.length 2 true), (eI .i64 aP)])⟩, some ⟨22, aF.map (eL 1 (eI .u8))⟩, some ⟨127, aC.flatMap aN⟩] := by
  refine zf Tryz.func125 Tryz.ntmps125 ?_
  unfold cF at hr
  refine zz ?_
  refine AB.seq ?_
  refine zz ?_
  refine zk hr rfl (fun h1 hr => ?_) (fun h1 hr => ?_)
  · refine zz ?_
    obtain rfl := sj hr
    exact bO Tryz.results125 [0, 1, 2]
  · obtain ⟨aZ, h_2, hr⟩ := aA hr
    obtain ⟨x16, h_3, hr⟩ := aA hr
    obtain ⟨q, h_4, hr⟩ := aA hr
    refine zz ?_
    refine xw (v := (.eptr [.agg (aZ.map (eI .u8))] 0 0)) (aAU rfl (apR (E := (eI .u8)) s8 (fun _ => rfl) zl h_2)) <| xw (v := (.agg (aZ.map (eI .u8)))) (bA rfl (aGs (E := (eI .u8)) (l := aZ) s8 rfl (bP h_2))) <| xp (oY h_3) ?_
    refine zz ?_
    refine AB.seq ?_
    obtain ⟨x18, h_5, hr⟩ := aA hr
    refine zz ?_
    refine xp (aBu h_5) ?_
    refine zz ?_
    refine zk hr rfl (fun h6 hr => ?_) (fun h6 hr => ?_)
    · refine zz ?_
      obtain rfl := sj hr
      exact bO Tryz.results125 [0, 1, 2]
    · refine zz ?_
      refine AB.seq ?_
      refine zz ?_
      refine zk hr rfl (fun h7 hr => ?_) (fun h7 hr => ?_)
      · refine zz ?_
        obtain rfl := sj hr
        exact bO Tryz.results125 [0, 1, 2]
      · obtain ⟨x25, h_8, hr⟩ := aA hr
        refine zz ?_
        refine xp (aEE h_8) ?_
        refine zz ?_
        refine xw (v := (.ptr 4 0)) (h' := [some ⟨105, (aO (eI .u8) aB [(eI .i64 aD), (eI .i64 aH), (.sl 1 0 aF.length 1 false), (.sl 2 0 aC.length 2 true), (eI .i64 aP)])⟩, some ⟨22, aF.map (eL 1 (eI .u8))⟩, some ⟨127, aC.flatMap aN⟩, some ⟨31, x16.map (eI .u64)⟩, some ⟨37, (dG (eI .u64) (List.replicate 4 0) (dG (eI .u64) (List.replicate 4 0) []))⟩]) (eK uD rfl rfl rfl) ?_
        refine zz ?_
        refine AB.seq ?_
        refine AB.seq_g fun K1 hK1 hG1 => ?_
        have J1 : ∀ (x40 : Bool), eJ N aB aD aH aF aC aP x40 = some r → K1 (aG 41 [(40, (eB x40))]) [some ⟨105, (aO (eI .u8) aB [(eI .i64 aD), (eI .i64 aH), (.sl 1 0 aF.length 1 false), (.sl 2 0 aC.length 2 true), (eI .i64 aP)])⟩, some ⟨22, aF.map (eL 1 (eI .u8))⟩, some ⟨127, aC.flatMap aN⟩] := by
          intro x40 hr
          unfold eJ at hr
          refine hK1 _ _ ?_
          refine zk hr rfl (fun h9 hr => ?_) (fun h9 hr => ?_)
          · refine zz ?_
            obtain rfl := sj hr
            exact bO Tryz.results125 [0, 1, 2]
          · refine zz ?_
            obtain rfl := sj hr
            exact bO Tryz.results125 [0, 1, 2]
        rcases Bool.eq_false_or_eq_true (x25.2.2 != 0) with h10 | h10
        · replace hr := fM hr h10
          refine AB.rs mixed [133] [] [[0, 1, 2, 3, 4, 5, 6, 7, 8, 9, 10, 11, 12]] ?_
          refine zz ?_
          exact hG1 _ _ _ _ (zG [0, 1, 2]) (J1 true hr)
        · replace hr := fQ hr h10
          obtain ⟨q_1, h_11, hr⟩ := aA hr
          obtain ⟨x38, h_12, hr⟩ := aA hr
          refine AB.rs mixed [133] [] [[0, 1, 2, 3, 4, 5, 6, 7, 8, 9, 10, 11, 12]] ?_
          refine zz ?_
          refine xu (aEM h_12) ?_
          refine zz ?_
          exact hG1 _ _ _ _ (zG [0, 1, 2]) (J1 (!x38) hr)
theorem sF {N : Nat} {aB : List Int} {aD : Int} {aH : Int} {aF : List (List Int)} {aC : List aE} {aP : Int} {c8 : Int} {vn : Int} {r : Int × (List Int) × Int × Int × (List (List Int)) × (List aE) × Int} (hr : fX N aB aD aH aF aC aP c8 vn = some r) :
    Vm.Fn Tryz.prog 112 [some ⟨105, (aO (eI .u8) aB [(eI .i64 aD), (eI .i64 aH), (.sl 1 0 aF.length 1 false), (.sl 2 0 aC.length 2 true), (eI .i64 aP)])⟩, some ⟨22, aF.map (eL 1 (eI .u8))⟩, some ⟨127, aC.flatMap aN⟩] [(.ptr 0 0), (eI .i64 c8), (eI .i64 vn)] (eI .i64 r.1) [some ⟨105, (aO (eI .u8) r.2.1 [(eI .i64 r.2.2.1), (eI .i64 r.2.2.2.1), (.sl 3 0 r.2.2.2.2.1.length 1 false), (.sl 4 0 r.2.2.2.2.2.1.length 2 true), (eI .i64 r.2.2.2.2.2.2)])⟩, none, none, some ⟨22, r.2.2.2.2.1.map (eL 1 (eI .u8))⟩, some ⟨127, r.2.2.2.2.2.1.flatMap aN⟩] := by
  refine zf Tryz.func112 Tryz.ntmps112 ?_
  unfold fX at hr
  refine zz ?_
  refine AB.seq ?_
  obtain ⟨e9, h_1, hr⟩ := aA hr
  refine AB.rs mixed [] [] [[0, 1, 2, 3, 4, 5, 6, 7, 8, 9, 10, 11, 12]] ?_
  refine zz ?_
  refine xw (v := (.sl 1 (Int.toNat (IntKind.i64.wrap ((aF.length : Int) - vn)) * 1) e9.length 1 false)) (dU rfl rfl rfl (aNm (l := aF) rfl cP bH rfl rfl rfl h_1)) ?_
  refine zz ?_
  refine AB.seq ?_
  obtain ⟨x43, h_2, hr⟩ := aA hr
  refine AB.rs mixed [] [] [[0, 1, 2, 3, 4, 5, 6, 7, 8, 9, 10, 11, 12, 13, 14, 15, 16, 17, 18, 19, 20]] ?_
  refine zz ?_
  refine xw (v := (.sl 1 (Int.toNat (IntKind.i64.wrap ((aF.length : Int) - (IntKind.i64.wrap (2 * vn)))) * 1) x43.length 1 false)) (dU rfl rfl rfl (aNm (l := aF) rfl cP bH rfl rfl rfl h_2)) ?_
  refine zz ?_
  refine AB.seq_g fun K1 hK1 hG1 => ?_
  have J1 : ∀ (count : Int), jJ N aB aD aH aF aC aP c8 vn count = some r → K1 (aG 78 [(0, (.ptr 0 0)), (1, (eI .i64 c8)), (2, (eI .i64 vn)), (9, (eI .i64 count))]) [some ⟨105, (aO (eI .u8) aB [(eI .i64 aD), (eI .i64 aH), (.sl 1 0 aF.length 1 false), (.sl 2 0 aC.length 2 true), (eI .i64 aP)])⟩, some ⟨22, aF.map (eL 1 (eI .u8))⟩, some ⟨127, aC.flatMap aN⟩] := by
    intro count hr
    unfold jJ at hr
    refine hK1 _ _ ?_
    obtain ⟨x76, h_3, hr⟩ := aA hr
    obtain ⟨x77, h_4, hr⟩ := aA hr
    refine zz ?_
    refine zc (vZ h_3) [] ?_
    refine OpsX.ghost (zv 3) ?_
    refine zc (jB h_4) [0, 1, 2] ?_
    refine zz ?_
    obtain rfl := sj hr
    exact bO Tryz.results112 [0, 1, 2, 4, 5]
  obtain ⟨bD, hL2, hr⟩ := aA hr
  refine zz ?_
  refine AB.block <| AB.loopN (fun m s h => ∃ (count_1 : Int) (x45 : Int), cM N aB aD aH aF aC aP c8 vn e9 x43 m count_1 x45 = some bD ∧ Ghost 3 s h (aG 78 [(0, (.ptr 0 0)), (1, (eI .i64 c8)), (2, (eI .i64 vn)), (7, (.sl 1 (Int.toNat (IntKind.i64.wrap ((aF.length : Int) - vn)) * 1) e9.length 1 false)), (8, (.sl 1 (Int.toNat (IntKind.i64.wrap ((aF.length : Int) - (IntKind.i64.wrap (2 * vn)))) * 1) x43.length 1 false)), (9, (eI .i64 count_1)), (44, (eI .i64 vn)), (45, (eI .i64 x45))]) [some ⟨105, (aO (eI .u8) aB [(eI .i64 aD), (eI .i64 aH), (.sl 1 0 aF.length 1 false), (.sl 2 0 aC.length 2 true), (eI .i64 aP)])⟩, some ⟨22, aF.map (eL 1 (eI .u8))⟩, some ⟨127, aC.flatMap aN⟩]) (n := N) ⟨0, 0, hL2, (zG [0, 1, 2])⟩ (by rintro s h ⟨_, _, h0, _⟩; simp [cM] at h0) ?_
  rintro m2 s h ⟨count_1, x45, hr2, hg⟩
  refine AB.ghost hg ?_
  clear hg hL2
  rw [cM] at hr2
  refine zz ?_
  refine AB.seq ?_
  refine zk hr2 rfl (fun h5 hr2 => ?_) (fun h5 hr2 => ?_)
  · refine zz ?_
    refine AB.seq_g fun K3 hK3 hG3 => ?_
    have J3 : ∀ (yZ : Int), f8 N aB aD aH aF aC aP c8 vn e9 x43 x45 (cM N aB aD aH aF aC aP c8 vn e9 x43 m2) yZ = some bD → K3 (aG 78 [(0, (.ptr 0 0)), (1, (eI .i64 c8)), (2, (eI .i64 vn)), (7, (.sl 1 (Int.toNat (IntKind.i64.wrap ((aF.length : Int) - vn)) * 1) e9.length 1 false)), (8, (.sl 1 (Int.toNat (IntKind.i64.wrap ((aF.length : Int) - (IntKind.i64.wrap (2 * vn)))) * 1) x43.length 1 false)), (9, (eI .i64 yZ)), (44, (eI .i64 vn)), (45, (eI .i64 x45))]) [some ⟨105, (aO (eI .u8) aB [(eI .i64 aD), (eI .i64 aH), (.sl 1 0 aF.length 1 false), (.sl 2 0 aC.length 2 true), (eI .i64 aP)])⟩, some ⟨22, aF.map (eL 1 (eI .u8))⟩, some ⟨127, aC.flatMap aN⟩] := by
      intro yZ hr2
      unfold f8 at hr2
      refine hK3 _ _ ?_
      refine zz ?_
      exact ⟨yZ, IntKind.i64.wrap (x45 + 1), hr2, (zG [0, 1, 2])⟩
    refine AB.block ?_
    refine zz ?_
    refine AB.seq <| AB.seq ?_
    obtain ⟨x51, h_6, hr2⟩ := aA hr2
    obtain ⟨x55, h_7, hr2⟩ := aA hr2
    obtain ⟨x57, h_8, hr2⟩ := aA hr2
    refine AB.rs mixed [] [125] [[0, 1, 2, 3, 4, 5, 6, 7, 8, 9, 10]] ?_
    refine zz ?_
    refine xw (v := (.ptr 1 (Int.toNat (IntKind.i64.wrap ((aF.length : Int) - vn)) + Int.toNat x45))) (aAn rfl rfl (iaY rfl cP bH rfl h_6)) <| xw (v := (.row none 1 (x51.map (eI .u8)))) (bA rfl (ldY (E := (eL 1 (eI .u8))) (l := aF) (y := x51) bH rfl rfl h_1 h_6)) ?_
    refine zz ?_
    refine xw (v := (.ptr 1 (Int.toNat (IntKind.i64.wrap ((aF.length : Int) - (IntKind.i64.wrap (2 * vn)))) + Int.toNat x45))) (aAn rfl rfl (iaY rfl cP bH rfl h_7)) <| xw (v := (.row none 1 (x55.map (eI .u8)))) (bA rfl (ldY (E := (eL 1 (eI .u8))) (l := aF) (y := x55) bH rfl rfl h_2 h_7)) <| zg (zZ h_8) [0, 1, 2] ?_
    refine zz ?_
    refine zk hr2 rfl (fun h10 hr2 => ?_) (fun h10 hr2 => ?_)
    · refine zz ?_
      obtain rfl := sj hr2
      obtain rfl := sj hr
      exact bO Tryz.results112 [0, 1, 2, 1, 2]
    · refine zz ?_
      refine xw (v := (.ptr 1 (Int.toNat (IntKind.i64.wrap ((aF.length : Int) - (IntKind.i64.wrap (2 * vn)))) + Int.toNat x45))) (aAn rfl rfl (iaY rfl cP bH rfl h_7)) <| xw (v := (.row none 1 (x55.map (eI .u8)))) (bA rfl (ldY (E := (eL 1 (eI .u8))) (l := aF) (y := x55) bH rfl rfl h_2 h_7)) ?_
      refine zz ?_
      refine zk hr2 rfl (fun h11 hr2 => ?_) (fun h11 hr2 => ?_)
      · refine zz ?_
        exact hG3 _ _ _ _ (zG [0, 1, 2]) (J3 (IntKind.i64.wrap (count_1 + 1)) hr2)
      · refine zz ?_
        exact hG3 _ _ _ _ (zG [0, 1, 2]) (J3 count_1 hr2)
  · refine zz ?_
    obtain rfl := sj hr2
    refine zz ?_
    exact hG1 _ _ _ _ (zG [0, 1, 2]) (J1 count_1 hr)
theorem zQ {N : Nat} {b : List Int} {r : Int × Int} (hr : fA N b = some r) :
    Vm.Fn Tryz.prog 23 [] [(.row none 1 (b.map (eI .u8)))] (.tup [(eI .u32 r.1), (eI .i64 r.2)]) [] := by
  refine zf Tryz.func23 Tryz.ntmps23 ?_
  unfold fA at hr
  refine zz ?_
  refine AB.seq ?_
  refine AB.seq_g fun K1 hK1 hG1 => ?_
  have J1 : ∀ (e9 : Bool), dP N b e9 = some r → K1 (aG 40 [(0, (.row none 1 (b.map (eI .u8)))), (23, (eB e9))]) [] := by
    intro e9 hr
    unfold dP at hr
    refine hK1 _ _ ?_
    refine zk hr rfl (fun h1 hr => ?_) (fun h1 hr => ?_)
    · refine zz ?_
      obtain rfl := sj hr
      exact zd2 Tryz.results23 []
    · refine zz ?_
      refine AB.seq_g fun K2 hK2 hG2 => ?_
      have J2 : ∀ (vn : Int), kM N vn = some r → K2 (aG 40 [(4, (eI .u32 vn))]) [] := by
        intro vn hr
        unfold kM at hr
        refine hK2 _ _ ?_
        refine zz ?_
        obtain rfl := sj hr
        exact zd2 Tryz.results23 []
      obtain ⟨u4, hL3, hr⟩ := aA hr
      refine zz ?_
      refine AB.block <| AB.loopN (fun m s h => ∃ (fW : Int) (x26 : Int), bJ N b m fW x26 = some u4 ∧ Ghost 0 s h (aG 40 [(4, (eI .u32 fW)), (24, (.row none 1 (b.map (eI .u8)))), (25, (eI .i64 (b.length : Int))), (26, (eI .i64 x26))]) []) (n := N) ⟨0, 0, hL3, (zG [])⟩ (by rintro s h ⟨_, _, h0, _⟩; simp [bJ] at h0) ?_
      rintro m3 s h ⟨fW, x26, hr3, hg⟩
      refine AB.ghost hg ?_
      clear hg hL3
      rw [bJ] at hr3
      refine zz ?_
      refine AB.seq ?_
      refine zk hr3 rfl (fun h2 hr3 => ?_) (fun h2 hr3 => ?_)
      · refine zz ?_
        refine AB.seq <| AB.block ?_
        obtain ⟨x29, h_3, hr3⟩ := aA hr3
        obtain ⟨x36, h_4, hr3⟩ := aA hr3
        refine zz ?_
        exact ⟨bits .or .u32 fW x36, IntKind.i64.wrap (x26 + 1), hr3, (zG [])⟩
      · refine zz ?_
        obtain rfl := sj hr3
        refine zz ?_
        exact hG2 _ _ _ _ (zG []) (J2 fW hr)
  rcases Bool.eq_false_or_eq_true (decide (4 < (b.length : Int))) with h5 | h5
  · replace hr := fM hr h5
    refine xr ?_
    refine zz ?_
    exact hG1 _ _ _ _ (zG []) (J1 true hr)
  · replace hr := fQ hr h5
    rcases Bool.eq_false_or_eq_true (decide (0 < (b.length : Int))) with h6 | h6
    · replace hr := fM hr h6
      obtain ⟨x19, h_7, hr⟩ := aA hr
      refine xr ?_
      refine zz ?_
      exact hG1 _ _ _ _ (zG []) (J1 (x19 == 0) hr)
    · replace hr := fQ hr h6
      refine xr ?_
      refine zz ?_
      exact hG1 _ _ _ _ (zG []) (J1 false hr)
theorem zU {N : Nat} {g9 : List Int} {now : Int} {r : Int} (hr : nK N g9 now = some r) :
    Vm.Fn Tryz.prog 113 [] [(.row none 1 (g9.map (eI .u8))), (eI .i64 now)] (eI .i64 r) [] := by
  refine zf Tryz.func113 Tryz.ntmps113 ?_
  unfold nK at hr
  obtain ⟨x9, h_1, hr⟩ := aA hr
  refine zz ?_
  refine xp (zQ h_1) ?_
  refine zz ?_
  refine AB.seq ?_
  refine zz ?_
  refine zk hr rfl (fun h2 hr => ?_) (fun h2 hr => ?_)
  · refine zz ?_
    obtain rfl := sj hr
    exact bO Tryz.results113 []
  · refine zz ?_
    refine AB.seq ?_
    refine zz ?_
    refine zk hr rfl (fun h3 hr => ?_) (fun h3 hr => ?_)
    · refine zz ?_
      obtain rfl := sj hr
      exact bO Tryz.results113 []
    · refine zz ?_
      obtain rfl := sj hr
      exact bO Tryz.results113 []
theorem z4 {N : Nat} {aB : List Int} {aD : Int} {aH : Int} {aF : List (List Int)} {aC : List aE} {aP : Int} {aJ : Int} {aU : List Int} {bU : Int} {bN : Int} {r : Int × (List Int) × Int × Int × (List (List Int)) × (List aE) × Int} (hr : jW N aB aD aH aF aC aP aJ aU bU bN = some r) :
    Vm.Fn Tryz.prog 87 [some ⟨105, (aO (eI .u8) aB [(eI .i64 aD), (eI .i64 aH), (.sl 1 0 aF.length 1 false), (.sl 2 0 aC.length 2 true), (eI .i64 aP)])⟩, some ⟨22, aF.map (eL 1 (eI .u8))⟩, some ⟨127, aC.flatMap aN⟩] [(.ptr 0 0), (.agg [(eI .i64 aJ), (.row none 1 (aU.map (eI .u8))), (eI .i64 bU), (eI .i64 bN)])] (eI .i64 r.1) [some ⟨105, (aO (eI .u8) r.2.1 [(eI .i64 r.2.2.1), (eI .i64 r.2.2.2.1), (.sl 3 0 r.2.2.2.2.1.length 1 false), (.sl 4 0 r.2.2.2.2.2.1.length 2 true), (eI .i64 r.2.2.2.2.2.2)])⟩, none, none, some ⟨22, r.2.2.2.2.1.map (eL 1 (eI .u8))⟩, some ⟨127, r.2.2.2.2.2.1.flatMap aN⟩] := by
  refine zf Tryz.func87 Tryz.ntmps87 ?_
  unfold jW at hr
  refine zz ?_
  refine AB.seq_g fun K1 hK1 hG1 => ?_
  have J1 : ∀ (c0 : List Int) (rI : Int) (rN : Int) (qX : Int) (l3 : List (List Int)) (l4 : List aE), cT N c0 rI rN qX l3 l4 = some r → K1 (aG 150 []) [some ⟨105, (aO (eI .u8) c0 [(eI .i64 rI), (eI .i64 rN), (.sl 3 0 l3.length 1 false), (.sl 4 0 l4.length 2 true), (eI .i64 qX)])⟩, none, none, some ⟨22, l3.map (eL 1 (eI .u8))⟩, some ⟨127, l4.flatMap aN⟩] := by
    intro c0 rI rN qX l3 l4 hr
    unfold cT at hr
    refine hK1 _ _ ?_
    refine zz ?_
    obtain rfl := sj hr
    exact bO Tryz.results87 [0, 1, 2, 3, 4]
  refine zz ?_
  refine AB.block ?_
  refine zz ?_
  refine zk hr rfl (fun h1 hr => ?_) (fun h1 hr => ?_)
  · obtain ⟨aZ, h_2, hr⟩ := aA hr
    refine zz ?_
    refine zc (oH h_2) [0, 1, 2] ?_
    refine zz ?_
    obtain rfl := sj hr
    exact bO Tryz.results87 [0, 1, 2, 4, 5]
  · refine zz ?_
    refine zk hr rfl (fun h3 hr => ?_) (fun h3 hr => ?_)
    · obtain ⟨x19, h_4, hr⟩ := aA hr
      obtain ⟨eX, h_5, hr⟩ := aA hr
      refine zz ?_
      refine zc (c7 h_4) [0, 1, 2] ?_
      refine zc (oH h_5) [0, 1, 2] ?_
      refine zz ?_
      obtain rfl := sj hr
      exact bO Tryz.results87 [0, 1, 2, 4, 5]
    · refine zz ?_
      refine zk hr rfl (fun h6 hr => ?_) (fun h6 hr => ?_)
      · obtain ⟨jD, h_7, hr⟩ := aA hr
        refine zz ?_
        refine zc (kS h_7) [0, 1, 2] ?_
        refine zz ?_
        exact hG1 _ _ _ _ (zG [0, 1, 2, 4, 5]) (J1 jD.1 jD.2.1 jD.2.2.1 jD.2.2.2.2.2 jD.2.2.2.1 jD.2.2.2.2.1 hr)
      · refine zz ?_
        refine zk hr rfl (fun h8 hr => ?_) (fun h8 hr => ?_)
        · obtain ⟨x50, h_9, hr⟩ := aA hr
          obtain ⟨x58, h_10, hr⟩ := aA hr
          obtain ⟨x61, h_11, hr⟩ := aA hr
          refine zz ?_
          refine AB.rs mixed [] [] [[0, 1, 2, 3, 4, 5, 6, 7, 8, 9, 10, 11, 12, 13, 14, 15, 16, 17, 18, 19, 20, 21, 22, 23, 24, 25, 26, 27, 28, 29, 30, 31]] ?_
          refine zz ?_
          exact hG1 _ _ _ _ (rU [0, 1, 2, 1, 2]) (J1 aB aD aH aP ((aF.set (Int.toNat (IntKind.i64.wrap ((aF.length : Int) - 1))) x50).set (Int.toNat (IntKind.i64.wrap ((aF.length : Int) - 2))) x58) aC hr)
        · refine zz ?_
          refine zk hr rfl (fun h12 hr => ?_) (fun h12 hr => ?_)
          · obtain ⟨x66, h_13, hr⟩ := aA hr
            obtain ⟨x77, h_15, hr⟩ := aA hr
            obtain ⟨x79, h_16, hr⟩ := aA hr
            obtain ⟨x80, h_18, hr⟩ := aA hr
            obtain ⟨x81, h_20, hr⟩ := aA hr
            refine AB.rs mixed [111] [85, 110] [[0, 1, 2, 3, 4, 5, 6, 7, 8, 9, 10, 11, 12, 13, 14, 15, 16], [17]] ?_
            refine zz ?_
            refine zg (c7 h_13) [0, 1, 2] ?_
            refine zz ?_
            refine xu (aEw h_16) <| zg (vZ h_18) [] ?_
            refine zz ?_
            refine ⟨_, _, (zv 4), ?_⟩
            refine zg (jB h_20) [0, 1, 2] ?_
            refine zz ?_
            exact hG1 _ _ _ _ (zG [0, 1, 2, 5, 6]) (J1 x81.1 x81.2.1 x81.2.2.1 x81.2.2.2.2.2 x81.2.2.2.1 x81.2.2.2.2.1 hr)
          · refine zz ?_
            refine zk hr rfl (fun h22 hr => ?_) (fun h22 hr => ?_)
            · obtain ⟨x86, h_23, hr⟩ := aA hr
              obtain ⟨x87, h_24, hr⟩ := aA hr
              obtain ⟨x89, h_25, hr⟩ := aA hr
              obtain ⟨x90, h_26, hr⟩ := aA hr
              refine zz ?_
              refine zc (c7 h_23) [0, 1, 2] ?_
              refine xp (rB h_24) ?_
              refine zz ?_
              refine zc (vZ h_25) [] ?_
              refine OpsX.ghost (zv 4) ?_
              refine zc (jB h_26) [0, 1, 2] ?_
              refine zz ?_
              exact hG1 _ _ _ _ (zG [0, 1, 2, 5, 6]) (J1 x90.1 x90.2.1 x90.2.2.1 x90.2.2.2.2.2 x90.2.2.2.1 x90.2.2.2.2.1 hr)
            · refine zz ?_
              refine zk hr rfl (fun h27 hr => ?_) (fun h27 hr => ?_)
              · refine AB.seq ?_
                obtain ⟨x94, h_28, hr⟩ := aA hr
                obtain ⟨x95, h_29, hr⟩ := aA hr
                refine zz ?_
                refine zc (c7 h_28) [0, 1, 2] ?_
                refine xp (rB h_29) ?_
                refine zz ?_
                refine zk hr rfl (fun h30 hr => ?_) (fun h30 hr => ?_)
                · refine zz ?_
                  obtain rfl := sj hr
                  exact bO Tryz.results87 [0, 1, 2, 1, 2]
                · obtain ⟨x98, h_31, hr⟩ := aA hr
                  refine zz ?_
                  refine zc (kS h_31) [0, 1, 2] ?_
                  refine zz ?_
                  exact hG1 _ _ _ _ (zG [0, 1, 2, 4, 5]) (J1 x98.1 x98.2.1 x98.2.2.1 x98.2.2.2.2.2 x98.2.2.2.1 x98.2.2.2.2.1 hr)
              · refine zz ?_
                refine zk hr rfl (fun h32 hr => ?_) (fun h32 hr => ?_)
                · obtain ⟨aEj, h_33, hr⟩ := aA hr
                  obtain ⟨aKb, h_34, hr⟩ := aA hr
                  obtain ⟨q, h_35, hr⟩ := aA hr
                  refine zz ?_
                  refine zc (c7 h_33) [0, 1, 2] ?_
                  refine xp (aA2 h_34) ?_
                  obtain ⟨rZ, h_36, hr⟩ := aA hr
                  refine zz ?_
                  refine OpsX.ghost (zv 4) ?_
                  refine zc (jB h_36) [0, 1, 2] ?_
                  refine zz ?_
                  exact hG1 _ _ _ _ (zG [0, 1, 2, 5, 6]) (J1 rZ.1 rZ.2.1 rZ.2.2.1 rZ.2.2.2.2.2 rZ.2.2.2.1 rZ.2.2.2.2.1 hr)
                · refine zz ?_
                  refine zk hr rfl (fun h37 hr => ?_) (fun h37 hr => ?_)
                  · obtain ⟨aNx, h_38, hr⟩ := aA hr
                    obtain ⟨aEC, h_39, hr⟩ := aA hr
                    obtain ⟨aCb, h_40, hr⟩ := aA hr
                    refine zz ?_
                    refine zc (c7 h_38) [0, 1, 2] ?_
                    refine zz ?_
                    refine zc (l7 h_39) [] ?_
                    refine OpsX.ghost (zv 4) ?_
                    refine zc (oH h_40) [0, 1, 2] ?_
                    refine zz ?_
                    obtain rfl := sj hr
                    exact bO Tryz.results87 [0, 1, 2, 5, 6]
                  · refine zz ?_
                    refine zk hr rfl (fun h41 hr => ?_) (fun h41 hr => ?_)
                    · obtain ⟨eU, h_42, hr⟩ := aA hr
                      refine zz ?_
                      refine zc (sF h_42) [0, 1, 2] ?_
                      refine zz ?_
                      obtain rfl := sj hr
                      exact bO Tryz.results87 [0, 1, 2, 4, 5]
                    · refine zz ?_
                      refine zk hr rfl (fun h43 hr => ?_) (fun h43 hr => ?_)
                      · obtain ⟨aB1, h_44, hr⟩ := aA hr
                        refine zz ?_
                        refine zc (sF h_44) [0, 1, 2] ?_
                        refine zz ?_
                        obtain rfl := sj hr
                        exact bO Tryz.results87 [0, 1, 2, 4, 5]
                      · refine zz ?_
                        refine zk hr rfl (fun h45 hr => ?_) (fun h45 hr => ?_)
                        · refine AB.seq ?_
                          obtain ⟨aNn, h_46, hr⟩ := aA hr
                          obtain ⟨gJ, h_48, hr⟩ := aA hr
                          refine AB.rs mixed [113] [85] [[0, 1, 2, 3, 4, 5, 6, 7, 8]] ?_
                          refine zz ?_
                          refine zg (c7 h_46) [0, 1, 2] ?_
                          refine zz ?_
                          refine xu (zU h_48) ?_
                          refine zz ?_
                          obtain rfl := sj hr
                          exact bO Tryz.results87 [0, 1, 2, 1, 2]
                        · refine zz ?_
                          refine zk hr rfl (fun h50 hr => ?_) (fun h50 hr => ?_)
                          · refine AB.seq ?_
                            obtain ⟨wO, h_51, hr⟩ := aA hr
                            obtain ⟨aNJ, h_53, hr⟩ := aA hr
                            refine AB.rs mixed [113] [85] [[0, 1, 2, 3, 4, 5, 6, 7, 8]] ?_
                            refine zz ?_
                            refine zg (c7 h_51) [0, 1, 2] ?_
                            refine zz ?_
                            refine xu (zU h_53) ?_
                            refine zz ?_
                            obtain rfl := sj hr
                            exact bO Tryz.results87 [0, 1, 2, 1, 2]
                          · refine zz ?_
                            refine zk hr rfl (fun h55 hr => ?_) (fun h55 hr => ?_)
                            · refine zz ?_
                              obtain rfl := sj hr
                              exact bO Tryz.results87 [0, 1, 2, 1, 2]
                            · refine zz ?_
                              exact hG1 _ _ _ _ (zG [0, 1, 2, 1, 2]) (J1 aB aD aH aP aF aC hr)
theorem aAi {N : Nat} {aB : List Int} {aD : Int} {aH : Int} {aF : List (List Int)} {aC : List aE} {aP : Int} {aJ : Int} {aU : List Int} {bU : Int} {bN : Int} {r : Int × (List Int) × Int × Int × (List (List Int)) × (List aE) × Int} (hr : fR N aB aD aH aF aC aP aJ aU bU bN = some r) :
    Vm.Fn Tryz.prog 56 [some ⟨105, (aO (eI .u8) aB [(eI .i64 aD), (eI .i64 aH), (.sl 1 0 aF.length 1 false), (.sl 2 0 aC.length 2 true), (eI .i64 aP)])⟩, some ⟨22, aF.map (eL 1 (eI .u8))⟩, some ⟨127, aC.flatMap aN⟩] [(.ptr 0 0), (.agg [(eI .i64 aJ), (.row none 1 (aU.map (eI .u8))), (eI .i64 bU), (eI .i64 bN)])] (eI .i64 r.1) [some ⟨105, (aO (eI .u8) r.2.1 [(eI .i64 r.2.2.1), (eI .i64 r.2.2.2.1), (.sl 3 0 r.2.2.2.2.1.length 1 false), (.sl 4 0 r.2.2.2.2.2.1.length 2 true), (eI .i64 r.2.2.2.2.2.2)])⟩, none, none, some ⟨22, r.2.2.2.2.1.map (eL 1 (eI .u8))⟩, some ⟨127, r.2.2.2.2.2.1.flatMap aN⟩] := by
  refine zf Tryz.func56 Tryz.ntmps56 ?_
  unfold fR at hr
  obtain ⟨x8, h_1, hr⟩ := aA hr
  refine zz ?_
  refine zc (zM h_1) [0, 1, 2] ?_
  refine zz ?_
  refine AB.seq_g fun K1 hK1 hG1 => ?_
  have J1 : ∀ (counted : Bool), fH N aB aD aH aF aC aP aJ aU bU bN counted = some r → K1 (aG 116 [(0, (.ptr 0 0)), (3, (.ptr 3 0)), (5, (eB counted))]) [some ⟨105, (aO (eI .u8) aB [(eI .i64 aD), (eI .i64 aH), (.sl 1 0 aF.length 1 false), (.sl 2 0 aC.length 2 true), (eI .i64 aP)])⟩, some ⟨22, aF.map (eL 1 (eI .u8))⟩, some ⟨127, aC.flatMap aN⟩, some ⟨85, [(eI .i64 aJ), (.row none 1 (aU.map (eI .u8))), (eI .i64 bU), (eI .i64 bN)]⟩] := by
    intro counted hr
    unfold fH at hr
    refine hK1 _ _ ?_
    refine AB.seq_g fun K2 hK2 hG2 => ?_
    have J2 : ∀ (c0 : Int), fG N aB aD aH aF aC aJ aU bU bN counted c0 = some r → K2 (aG 116 [(0, (.ptr 0 0)), (3, (.ptr 3 0)), (5, (eB counted))]) [some ⟨105, (aO (eI .u8) aB [(eI .i64 aD), (eI .i64 aH), (.sl 1 0 aF.length 1 false), (.sl 2 0 aC.length 2 true), (eI .i64 c0)])⟩, some ⟨22, aF.map (eL 1 (eI .u8))⟩, some ⟨127, aC.flatMap aN⟩, some ⟨85, [(eI .i64 aJ), (.row none 1 (aU.map (eI .u8))), (eI .i64 bU), (eI .i64 bN)]⟩] := by
      intro c0 hr
      unfold fG at hr
      refine hK2 _ _ ?_
      refine zz ?_
      refine AB.seq_g fun K3 hK3 hG3 => ?_
      have J3 : ∀ (rI : List Int) (rN : Int) (qX : Int) (v8 : Int) (l3 : List (List Int)) (l4 : List aE), eC N rI rN qX v8 l3 l4 = some r → K3 (aG 116 []) [some ⟨105, (aO (eI .u8) rI [(eI .i64 rN), (eI .i64 qX), (.sl 3 0 l3.length 1 false), (.sl 4 0 l4.length 2 true), (eI .i64 v8)])⟩, none, none, some ⟨22, l3.map (eL 1 (eI .u8))⟩, some ⟨127, l4.flatMap aN⟩] := by
        intro rI rN qX v8 l3 l4 hr
        unfold eC at hr
        refine hK3 _ _ ?_
        refine zz ?_
        obtain rfl := sj hr
        exact bO Tryz.results56 [0, 1, 2, 3, 4]
      refine zz ?_
      refine AB.block ?_
      refine zz ?_
      refine zk hr rfl (fun h2 hr => ?_) (fun h2 hr => ?_)
      · refine AB.seq_g fun K4 hK4 hG4 => ?_
        have J4 : ∀ (jF : List aE), iG N aB aD aH aF counted c0 jF = some r → K4 (aG 116 [(0, (.ptr 0 0)), (5, (eB counted))]) [some ⟨105, (aO (eI .u8) aB [(eI .i64 aD), (eI .i64 aH), (.sl 1 0 aF.length 1 false), (.sl 3 0 jF.length 2 true), (eI .i64 c0)])⟩, some ⟨22, aF.map (eL 1 (eI .u8))⟩, none, some ⟨127, jF.flatMap aN⟩] := by
          intro jF hr
          unfold iG at hr
          refine hK4 _ _ ?_
          refine zz ?_
          refine zk hr rfl (fun h3 hr => ?_) (fun h3 hr => ?_)
          · obtain ⟨x86, h_4, hr⟩ := aA hr
            refine zz ?_
            refine zc (kS h_4) [0, 1, 3] ?_
            refine zz ?_
            exact hG3 _ _ _ _ (zG [0, 1, 2, 4, 5]) (J3 x86.1 x86.2.1 x86.2.2.1 x86.2.2.2.2.2 x86.2.2.2.1 x86.2.2.2.2.1 hr)
          · refine zz ?_
            exact hG3 _ _ _ _ (zG [0, 1, 2, 1, 3]) (J3 aB aD aH c0 aF jF hr)
        rcases Bool.eq_false_or_eq_true counted with h5 | h5
        · replace hr := fM hr h5
          obtain ⟨x76, h_6, hr⟩ := aA hr
          obtain ⟨x77, h_8, hr⟩ := aA hr
          obtain ⟨x81, h_10, hr⟩ := aA hr
          refine AB.rs mixed [36] [85] [[0, 1, 2, 3, 4, 5, 6, 7, 8, 9, 10, 11, 12, 13, 14, 15, 16, 17]] ?_
          refine zz ?_
          refine zg (c7 h_6) [0, 1, 2] ?_
          refine xu (rB h_8) ?_
          refine zz ?_
          refine xw (v := (.sl 4 0 1 2 true)) (h' := [some ⟨105, (aO (eI .u8) aB [(eI .i64 aD), (eI .i64 aH), (.sl 1 0 aF.length 1 false), (.sl 2 0 aC.length 2 true), (eI .i64 c0)])⟩, some ⟨22, aF.map (eL 1 (eI .u8))⟩, some ⟨127, aC.flatMap aN⟩, some ⟨85, [(eI .i64 aJ), (.row none 1 (aU.map (eI .u8))), (eI .i64 bU), (eI .i64 bN)]⟩, some ⟨127, [(aE.mk counted x77)].flatMap aN⟩]) (dH rfl (aBh (C := aN) (xs := [(aE.mk counted x77)]) (K := 2) (fun _ => rfl) (fun _ => rfl) aCz yG ⟨zl, zl, zl⟩ rfl rfl rfl rfl rfl rfl)) ?_
          refine zz ?_
          exact hG4 _ _ _ _ (zG [0, 1, 2, 5]) (J4 x81 hr)
        · replace hr := fQ hr h5
          obtain ⟨aHY, h_11, hr⟩ := aA hr
          refine AB.rs mixed [36] [85] [[0, 1, 2, 3, 4, 5, 6, 7, 8, 9, 10, 11, 12, 13, 14, 15, 16, 17]] ?_
          refine zz ?_
          refine xw (v := (.sl 4 0 1 2 true)) (h' := [some ⟨105, (aO (eI .u8) aB [(eI .i64 aD), (eI .i64 aH), (.sl 1 0 aF.length 1 false), (.sl 2 0 aC.length 2 true), (eI .i64 c0)])⟩, some ⟨22, aF.map (eL 1 (eI .u8))⟩, some ⟨127, aC.flatMap aN⟩, some ⟨85, [(eI .i64 aJ), (.row none 1 (aU.map (eI .u8))), (eI .i64 bU), (eI .i64 bN)]⟩, some ⟨127, [(aE.mk counted false)].flatMap aN⟩]) (dH rfl (aBh (C := aN) (xs := [(aE.mk counted false)]) (K := 2) (fun _ => rfl) (fun _ => rfl) aCz yG ⟨zl, zl, zl⟩ rfl rfl rfl rfl rfl rfl)) ?_
          refine zz ?_
          exact hG4 _ _ _ _ (zG [0, 1, 2, 5]) (J4 aHY hr)
      · refine zz ?_
        refine zk hr rfl (fun h12 hr => ?_) (fun h12 hr => ?_)
        · obtain ⟨x99, h_13, hr⟩ := aA hr
          refine AB.rs mixed [] [] [[0, 1, 2, 3, 4, 5, 6, 7, 8, 9, 10, 11, 12, 13, 14, 15, 16]] ?_
          refine zz ?_
          refine xw (v := (eB x99.taken)) (bA rfl (aKf (C := aN) (K := 2) (off := 1) (fun _ => rfl) rfl h_13 zl (vS ti4 rfl rfl))) ?_
          refine zz ?_
          refine xy (h' := [some ⟨105, (aO (eI .u8) aB [(eI .i64 aD), (eI .i64 aH), (.sl 1 0 aF.length 1 false), (.sl 2 0 aC.length 2 true), (eI .i64 c0)])⟩, some ⟨22, aF.map (eL 1 (eI .u8))⟩, some ⟨127, (aC.set (Int.toNat (IntKind.i64.wrap ((aC.length : Int) - 1))) (aE.mk x99.outer (!x99.taken))).flatMap aN⟩, some ⟨85, [(eI .i64 aJ), (.row none 1 (aU.map (eI .u8))), (eI .i64 bU), (eI .i64 bN)]⟩]) (bG rfl rfl (aPa (C := aN) (K := 2) (off := 1) (fun _ => rfl) ti4 rfl h_13 rfl rfl zl rfl rfl)) ?_
          refine zz ?_
          exact hG3 _ _ _ _ (rU [0, 1, 2, 1, 2]) (J3 aB aD aH c0 aF (aC.set (Int.toNat (IntKind.i64.wrap ((aC.length : Int) - 1))) (aE.mk x99.outer (!x99.taken))) hr)
        · refine zz ?_
          refine zk hr rfl (fun h14 hr => ?_) (fun h14 hr => ?_)
          · obtain ⟨y9, h_15, hr⟩ := aA hr
            refine zz ?_
            refine xw (v := (.sl 2 0 y9.length 2 true)) (dU rfl rfl rfl (aIa (l := aC) rfl aCz yG rfl rfl rfl h_15)) ?_
            refine OpsX.ghost (Ghost.cutF (t := 113) (C := aN) (l := aC) (K := 2) (h' := [some ⟨105, (aO (eI .u8) aB [(eI .i64 aD), (eI .i64 aH), (.sl 1 0 aF.length 1 false), (.sl 2 0 aC.length 2 true), (eI .i64 c0)])⟩, some ⟨22, aF.map (eL 1 (eI .u8))⟩, some ⟨127, y9.flatMap aN⟩, some ⟨85, [(eI .i64 aJ), (.row none 1 (aU.map (eI .u8))), (eI .i64 bU), (eI .i64 bN)]⟩]) (fun _ => rfl) rfl rfl h_15 rfl) ?_
            refine zz ?_
            exact hG3 _ _ _ _ (zG [0, 1, 2, 1, 2]) (J3 aB aD aH c0 aF y9 hr)
          · refine zz ?_
            refine zk hr rfl (fun h16 hr => ?_) (fun h16 hr => ?_)
            · obtain ⟨x64, h_17, hr⟩ := aA hr
              refine zz ?_
              refine zc (z4 h_17) [0, 1, 2] ?_
              refine zz ?_
              obtain rfl := sj hr
              exact bO Tryz.results56 [0, 1, 2, 4, 5]
            · refine zz ?_
              exact hG3 _ _ _ _ (zG [0, 1, 2, 1, 2]) (J3 aB aD aH c0 aF aC hr)
    refine zz ?_
    refine zk hr rfl (fun h18 hr => ?_) (fun h18 hr => ?_)
    · refine AB.seq ?_
      obtain ⟨x36, h_19, hr⟩ := aA hr
      refine AB.rs mixed [83] [] [[0, 1, 2, 3, 4, 5, 6, 7, 8, 9]] ?_
      refine zz ?_
      refine xu (aD4 h_19) ?_
      refine zz ?_
      refine AB.seq ?_
      refine zz ?_
      refine zk hr rfl (fun h21 hr => ?_) (fun h21 hr => ?_)
      · refine zz ?_
        obtain rfl := sj hr
        exact bO Tryz.results56 [0, 1, 2, 1, 2]
      · refine zz ?_
        refine AB.seq ?_
        obtain ⟨x51, h_22, hr⟩ := aA hr
        refine AB.rs mixed [84] [] [[0, 1, 2, 3, 4, 5, 6, 7]] ?_
        refine zz ?_
        refine xu (aD1 h_22) ?_
        refine zz ?_
        refine zk hr rfl (fun h24 hr => ?_) (fun h24 hr => ?_)
        · refine zz ?_
          obtain rfl := sj hr
          exact bO Tryz.results56 [0, 1, 2, 1, 2]
        · refine zz ?_
          exact hG2 _ _ _ _ (zG [0, 1, 2, 3]) (J2 (IntKind.i64.wrap (aP + x36)) hr)
    · refine zz ?_
      exact hG2 _ _ _ _ (zG [0, 1, 2, 3]) (J2 aP hr)
  refine AB.seq_g fun K5 hK5 hG5 => ?_
  have J5 : ∀ (x16 : Bool), fI N aB aD aH aF aC aP aJ aU bU bN x8 x16 = some r → K5 (aG 116 [(0, (.ptr 0 0)), (3, (.ptr 3 0)), (5, (eB x8)), (16, (eB x16))]) [some ⟨105, (aO (eI .u8) aB [(eI .i64 aD), (eI .i64 aH), (.sl 1 0 aF.length 1 false), (.sl 2 0 aC.length 2 true), (eI .i64 aP)])⟩, some ⟨22, aF.map (eL 1 (eI .u8))⟩, some ⟨127, aC.flatMap aN⟩, some ⟨85, [(eI .i64 aJ), (.row none 1 (aU.map (eI .u8))), (eI .i64 bU), (eI .i64 bN)]⟩] := by
    intro x16 hr
    unfold fI at hr
    refine hK5 _ _ ?_
    refine zk hr rfl (fun h25 hr => ?_) (fun h25 hr => ?_)
    · obtain ⟨x27, h_26, hr⟩ := aA hr
      refine AB.rs mixed [] [] [[0, 1, 2, 3, 4, 5, 6, 7, 8, 9, 10, 11, 12, 13]] ?_
      refine zz ?_
      refine xw (v := (eB x27.outer)) (bA rfl (aKf (C := aN) (K := 2) (off := 0) (fun _ => rfl) rfl h_26 zl (vS ti4 rfl rfl))) ?_
      refine zz ?_
      exact hG1 _ _ _ _ (zG [0, 1, 2, 3]) (J1 x27.outer hr)
    · refine zz ?_
      exact hG1 _ _ _ _ (zG [0, 1, 2, 3]) (J1 x8 hr)
  rcases Bool.eq_false_or_eq_true (aJ == 15) with h27 | h27
  · replace hr := fM hr h27
    refine xr ?_
    refine zz ?_
    exact hG5 _ _ _ _ (zG [0, 1, 2, 3]) (J5 true hr)
  · replace hr := fQ hr h27
    refine xr ?_
    refine zz ?_
    exact hG5 _ _ _ _ (zG [0, 1, 2, 3]) (J5 (aJ == 16) hr)
end Go.Proofs.YtnoklhehodlkaaaGreatDoor
