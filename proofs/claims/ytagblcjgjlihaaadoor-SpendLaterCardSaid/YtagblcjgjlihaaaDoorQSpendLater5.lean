/- Texts of ours, joined: Wk1. -/
import Derived.Test.YtagblcjgjlihaaaDoorQSpendLater4
set_option linter.unusedVariables false
set_option linter.unusedSimpArgs false
set_option maxRecDepth 20000
set_option maxHeartbeats 1000000
namespace Go.Proofs.YtagblcjgjlihaaaDoor
open Go Go.Vm
theorem uP (N : Nat) (vn : Int) (dX : Int) (r : (List Int)) (hr : nG N vn dX = some r) :
    Vm.Fn Tryd.prog 44 [] [(eI .u64 vn), (eI .i64 dX)] (.sl 0 0 r.length 1 false) [some ⟨5, r.map (eI .u8)⟩] := by
  refine zf Tryd.func44 Tryd.ntmps44 ?_
  unfold nG at hr
  refine zq <| zw (v := (.row (some true) 1 [])) (bE rfl) <| zn <| AB.seq ?_
  obtain ⟨x8, h_1, hr⟩ := aN hr
  refine AB.rw <| zm rfl <| zh (v := (.sl 0 0 x8.length 1 false)) (aJ3 rfl rfl (mkS (E := (eI .u8)) (y := 0) bG cC ⟨zl, rfl, rfl⟩ rfl rfl rfl h_1 rfl rfl)) ?_
  refine za rfl <| zn ?_
  refine AB.seq_g fun K1 hK1 hG1 => ?_
  have J1 : ∀ (l0 : List Int), qX N l0 = some r → K1 (aV 23 [(5, (.sl 0 0 l0.length 1 false))]) [some ⟨5, l0.map (eI .u8)⟩] := by
    intro l0 hr
    unfold qX at hr
    refine hK1 _ _ <| zq <| zm rfl <| za rfl <| zn <| AB.ret ?_
    obtain rfl := sj hr
    exact bW Tryd.results44 [0]
  refine zq <| zm rfl <| zI <| zn ?_
  obtain ⟨cL, hL2, hr⟩ := aN hr
  refine AB.block <| AB.loopN (fun m s h => ∃ (cG : Int) (bF : List Int), i5 N vn dX m cG bF = some cL ∧ Ghost 0 s h (aV 23 [(0, (eI .u64 vn)), (5, (.sl 0 0 bF.length 1 false)), (9, (eI .i64 dX)), (10, (eI .i64 cG))]) [some ⟨5, bF.map (eI .u8)⟩]) (n := N) ⟨0, x8, hL2, (zG [0])⟩ (by rintro s h ⟨_, _, h0, _⟩; simp [i5] at h0) ?_
  rintro m2 s h ⟨cG, bF, hr2, hg⟩
  refine AB.ghost hg ?_
  clear hg hL2
  rw [i5] at hr2
  refine zq <| eY rfl rfl <| zn <| AB.seq ?_
  refine zk hr2 rfl (fun h2 hr2 => ?_) (fun h2 hr2 => ?_)
  · refine AB.skip <| Ex.then_mk <| AB.seq <| AB.block <| zq <| zm rfl <| za rfl <| zn ?_
    obtain ⟨x18, h_3, hr2⟩ := aN hr2
    obtain ⟨dD, h_4, hr2⟩ := aN hr2
    refine AB.rw <| zm rfl <| zm rfl <| zm rfl <| zm rfl <| z4 rfl rfl <| zw (a9 rfl rfl (gZ _ _ _ _ h_3)) <| zw (dA rfl (cE _ ⟨_, bV⟩ cC rfl)) <| zw (v := (.ptr 0 (Int.toNat cG))) (bP rfl rfl (iaS rfl bG cC rfl h_4)) <| zt (aU rfl rfl (s6 (E := (eI .u8)) (y := IntKind.u8.wrap x18) cC rfl rfl h_4 rfl rfl rfl)) ?_
    refine OpsW.nil <| Ex.inBlock_mk <| Ex.then_mk <| AB.rw <| dG rfl rfl <| zm rfl <| zn ?_
    exact ⟨IntKind.i64.wrap (cG + 1), bF.set (Int.toNat cG) (IntKind.u8.wrap x18), hr2, (Ghost.rn [0] rfl rfl (FLe.same rfl (FLe.le rfl (by first | exact V.le_refl _ _ | (simp only [cN, cO]; exact V.le_refl _ _)) (FLe.same rfl (FLe.same rfl FLe.nil)))) (HLe.live rfl (mC (fun _ => rfl) _) (all_map (fun _ => rfl) _) HLe.nil) rfl)⟩
  · refine AB.exit <| Ex.then_exit_mk <| Ex.then_exit_mk <| Ex.inBlock_same_mk ?_
    obtain rfl := sj hr2
    refine Ex.then_mk ?_
    exact hG1 _ _ _ _ (zG [0]) (J1 bF hr)
theorem hY (N : Nat) (b : List Int) (vs : List Int) (r : (List Int)) (hr : fR N b vs = some r) :
    Vm.Fn Tryd.prog 43 [] [(.row none 1 (b.map (eI .u8))), (.row none 1 (vs.map (eI .u8)))] (.sl 0 0 r.length 1 false) [some ⟨5, r.map (eI .u8)⟩] := by
  refine zf Tryd.func43 Tryd.ntmps43 ?_
  unfold fR at hr
  refine zq <| zw (v := (.row (some true) 1 [])) (bE rfl) <| zn <| AB.seq ?_
  obtain ⟨b7, h_1, hr⟩ := aN hr
  refine AB.rw <| zm rfl <| eT rfl bG <| zm rfl <| eT rfl bG <| dG rfl rfl <| zh (v := (.sl 0 0 0 1 false)) (aJ3 rfl rfl (mkC (E := (eI .u8)) (y := 0) bG cC ⟨zl, rfl, rfl⟩ rfl rfl rfl h_1 rfl rfl)) ?_
  refine za rfl <| zn <| AB.seq ?_
  obtain ⟨bO, h_2, hr⟩ := aN hr
  refine AB.rw <| zm rfl <| zm rfl <| zh (v := (.sl 1 0 bO.length 1 false)) (dZ rfl rfl (aNg (E := (eI .u8)) (Nat.zero_le _) bG cC ⟨rfl, rfl, zl⟩ rfl (aDs (fun _ => rfl)) h_2 rfl rfl)) ?_
  refine za rfl <| zn <| AB.seq ?_
  obtain ⟨x17, h_3, hr⟩ := aN hr
  refine AB.rw <| zm rfl <| zm rfl <| zh (v := (.sl 2 0 x17.length 1 false)) (dZ rfl rfl (nD (E := (eI .u8)) rfl bG cC ⟨rfl, rfl, zl⟩ rfl (aDs (fun _ => rfl)) h_3 rfl rfl)) ?_
  refine za rfl <| zn <| AB.ret ?_
  obtain rfl := sj hr
  exact bW Tryd.results43 [2]
theorem jR (N : Nat) (b : List Int) (vn : Int) (r : (List Int)) (hr : fW N b vn = some r) :
    Vm.Fn Tryd.prog 31 [] [(.row none 1 (b.map (eI .u8))), (eI .u32 vn)] (.sl 0 0 r.length 1 false) [some ⟨5, r.map (eI .u8)⟩] := by
  refine zf Tryd.func31 Tryd.ntmps31 ?_
  unfold fW at hr
  refine zq <| zw (v := (.row (some true) 1 [])) (bE rfl) <| zn <| AB.seq ?_
  obtain ⟨x8, h_1, hr⟩ := aN hr
  obtain ⟨x9, h_2, hr⟩ := aN hr
  refine AB.rw <| zm rfl <| zm rfl <| zw (dA rfl (cE _ ⟨_, cA⟩ bV rfl)) <| wC (v := (.sl 0 0 x8.length 1 false)) rfl (zB (uP N (IntKind.u64.wrap vn) 4 x8 h_1) []) ?_
  refine wC (v := (.sl 1 0 x9.length 1 false)) (h' := [some ⟨5, x8.map (eI .u8)⟩, some ⟨5, x9.map (eI .u8)⟩]) rfl (zL (hY N b x8 x9 h_2) [] [0]) <| za rfl <| zn <| AB.ret ?_
  obtain rfl := sj hr
  exact bW Tryd.results31 [1]
theorem aB7 (N : Nat) (b : List Int) (vn : Int) (r : (List Int)) (hr : rB N b vn = some r) :
    Vm.Fn Tryd.prog 55 [] [(.row none 1 (b.map (eI .u8))), (eI .u16 vn)] (.sl 0 0 r.length 1 false) [some ⟨5, r.map (eI .u8)⟩] := by
  refine zf Tryd.func55 Tryd.ntmps55 ?_
  unfold rB at hr
  refine zq <| zw (v := (.row (some true) 1 [])) (bE rfl) <| zn <| AB.seq ?_
  obtain ⟨x8, h_1, hr⟩ := aN hr
  obtain ⟨x9, h_2, hr⟩ := aN hr
  refine AB.rw <| zm rfl <| zm rfl <| zw (dA rfl (cE _ ⟨_, aKS⟩ bV rfl)) <| wC (v := (.sl 0 0 x8.length 1 false)) rfl (zB (uP N (IntKind.u64.wrap vn) 2 x8 h_1) []) ?_
  refine wC (v := (.sl 1 0 x9.length 1 false)) (h' := [some ⟨5, x8.map (eI .u8)⟩, some ⟨5, x9.map (eI .u8)⟩]) rfl (zL (hY N b x8 x9 h_2) [] [0]) <| za rfl <| zn <| AB.ret ?_
  obtain rfl := sj hr
  exact bW Tryd.results55 [1]
theorem rJ (N : Nat) (b : List Int) (vn : Int) (r : (List Int)) (hr : j9 N b vn = some r) :
    Vm.Fn Tryd.prog 33 [] [(.row none 1 (b.map (eI .u8))), (eI .u64 vn)] (.sl 0 0 r.length 1 false) [some ⟨5, r.map (eI .u8)⟩] := by
  refine zf Tryd.func33 Tryd.ntmps33 ?_
  unfold j9 at hr
  refine zq <| zw (v := (.row (some true) 1 [])) (bE rfl) <| zn <| AB.seq ?_
  obtain ⟨x7, h_1, hr⟩ := aN hr
  obtain ⟨x8, h_2, hr⟩ := aN hr
  refine AB.rw <| zm rfl <| zm rfl <| wC (v := (.sl 0 0 x7.length 1 false)) rfl (zB (uP N vn 8 x7 h_1) []) ?_
  refine wC (v := (.sl 1 0 x8.length 1 false)) (h' := [some ⟨5, x7.map (eI .u8)⟩, some ⟨5, x8.map (eI .u8)⟩]) rfl (zL (hY N b x7 x8 h_2) [] [0]) <| za rfl <| zn <| AB.ret ?_
  obtain rfl := sj hr
  exact bW Tryd.results33 [1]
theorem nK (N : Nat) (b : List Int) (vn : Int) (r : (List Int)) (hr : iJ N b vn = some r) :
    Vm.Fn Tryd.prog 42 [] [(.row none 1 (b.map (eI .u8))), (eI .u64 vn)] (.sl 0 0 r.length 1 false) [some ⟨5, r.map (eI .u8)⟩] := by
  refine zf Tryd.func42 Tryd.ntmps42 ?_
  unfold iJ at hr
  refine zq <| zw (v := (.row (some true) 1 [])) (bE rfl) <| zn <| AB.seq <| AB.block <| zq <| zm rfl <| eY rfl rfl <| za rfl <| zn ?_
  refine zk hr rfl (fun h1 hr => ?_) (fun h1 hr => ?_)
  · refine AB.seq ?_
    obtain ⟨fF, h_2, hr⟩ := aN hr
    refine AB.rw <| zm rfl <| zm rfl <| zw (dA rfl (cE _ ⟨_, bV⟩ cC rfl)) <| zh (v := (.sl 0 0 1 1 false)) (e9 rfl (oQ (xs := [IntKind.u8.wrap vn].map (eI .u8)) bG cC zl zl rfl rfl rfl rfl rfl rfl rfl)) ?_
    refine wC (v := (.sl 1 0 fF.length 1 false)) (h' := [some ⟨5, [IntKind.u8.wrap vn].map (eI .u8)⟩, some ⟨5, fF.map (eI .u8)⟩]) rfl (zL (hY N b [IntKind.u8.wrap vn] fF h_2) [] [0]) <| za rfl <| zn <| AB.ret <| Ex.inBlock_ret_mk <| Ex.then_ret_mk ?_
    obtain rfl := sj hr
    exact bW Tryd.results42 [1]
  · refine zq <| zm rfl <| eY rfl rfl <| za rfl <| zn ?_
    refine zk hr rfl (fun h3 hr => ?_) (fun h3 hr => ?_)
    · refine AB.seq ?_
      obtain ⟨x18, h_4, hr⟩ := aN hr
      obtain ⟨iH, h_5, hr⟩ := aN hr
      refine AB.rw <| zm rfl <| zh (v := (.sl 0 0 1 1 false)) (e9 rfl (oQ (xs := [253].map (eI .u8)) bG cC zl zl rfl rfl rfl rfl rfl rfl rfl)) ?_
      refine wC (v := (.sl 1 0 x18.length 1 false)) (h' := [some ⟨5, [253].map (eI .u8)⟩, some ⟨5, x18.map (eI .u8)⟩]) rfl (zL (hY N b [253] x18 h_4) [] [0]) <| zm rfl <| zw (dA rfl (cE _ ⟨_, bV⟩ aKS rfl)) <| wC (v := (.sl 2 0 iH.length 1 false)) (h' := [some ⟨5, [253].map (eI .u8)⟩, some ⟨5, x18.map (eI .u8)⟩, some ⟨5, iH.map (eI .u8)⟩]) rfl (zL (aB7 N x18 (IntKind.u16.wrap vn) iH h_5) [] [1]) <| za rfl <| zn <| AB.ret <| Ex.inBlock_ret_mk <| Ex.then_ret_mk ?_
      obtain rfl := sj hr
      exact bW Tryd.results42 [2]
    · refine zq <| zm rfl <| eY rfl rfl <| za rfl <| zn ?_
      refine zk hr rfl (fun h6 hr => ?_) (fun h6 hr => ?_)
      · refine AB.seq ?_
        obtain ⟨x27, h_7, hr⟩ := aN hr
        obtain ⟨jG, h_8, hr⟩ := aN hr
        refine AB.rw <| zm rfl <| zh (v := (.sl 0 0 1 1 false)) (e9 rfl (oQ (xs := [254].map (eI .u8)) bG cC zl zl rfl rfl rfl rfl rfl rfl rfl)) ?_
        refine wC (v := (.sl 1 0 x27.length 1 false)) (h' := [some ⟨5, [254].map (eI .u8)⟩, some ⟨5, x27.map (eI .u8)⟩]) rfl (zL (hY N b [254] x27 h_7) [] [0]) <| zm rfl <| zw (dA rfl (cE _ ⟨_, bV⟩ cA rfl)) <| wC (v := (.sl 2 0 jG.length 1 false)) (h' := [some ⟨5, [254].map (eI .u8)⟩, some ⟨5, x27.map (eI .u8)⟩, some ⟨5, jG.map (eI .u8)⟩]) rfl (zL (jR N x27 (IntKind.u32.wrap vn) jG h_8) [] [1]) <| za rfl <| zn <| AB.ret <| Ex.inBlock_ret_mk <| Ex.then_ret_mk ?_
        obtain rfl := sj hr
        exact bW Tryd.results42 [2]
      · refine AB.skip <| Ex.inBlock_mk <| Ex.then_mk <| AB.seq ?_
        obtain ⟨gH, h_9, hr⟩ := aN hr
        obtain ⟨x35, h_10, hr⟩ := aN hr
        refine AB.rw <| zm rfl <| zh (v := (.sl 0 0 1 1 false)) (e9 rfl (oQ (xs := [255].map (eI .u8)) bG cC zl zl rfl rfl rfl rfl rfl rfl rfl)) ?_
        refine wC (v := (.sl 1 0 gH.length 1 false)) (h' := [some ⟨5, [255].map (eI .u8)⟩, some ⟨5, gH.map (eI .u8)⟩]) rfl (zL (hY N b [255] gH h_9) [] [0]) <| zm rfl <| wC (v := (.sl 2 0 x35.length 1 false)) (h' := [some ⟨5, [255].map (eI .u8)⟩, some ⟨5, gH.map (eI .u8)⟩, some ⟨5, x35.map (eI .u8)⟩]) rfl (zL (rJ N gH vn x35 h_10) [] [1]) <| za rfl <| zn <| AB.ret ?_
        obtain rfl := sj hr
        exact bW Tryd.results42 [2]
theorem aB2 (N : Nat) (b : List Int) (vh : List Int) (r : (List Int)) (hr : pW N b vh = some r) :
    Vm.Fn Tryd.prog 32 [] [(.row none 1 (b.map (eI .u8))), (.agg (vh.map (eI .u8)))] (.sl 0 0 r.length 1 false) [some ⟨5, r.map (eI .u8)⟩] := by
  refine zf Tryd.func32 Tryd.ntmps32 ?_
  unfold pW at hr
  refine zq <| zh (v := (.ptr 0 0)) (b8 rfl (d9 (fun _ => rfl)) rfl rfl) ?_
  refine zw (v := (.row (some true) 1 [])) (bE rfl) <| zn <| AB.seq ?_
  obtain ⟨q, h_1, hr⟩ := aN hr
  obtain ⟨x7, h_2, hr⟩ := aN hr
  refine AB.rw <| zm rfl <| zw (v := (.sl 0 0 32 1 false)) (eC rfl rfl rfl (slA (E := (eI .u8)) (l := vh) dL cC rfl rfl rfl (aP h_1) ⟨zl, zl⟩)) <| wC (v := (.sl 1 0 x7.length 1 false)) (h' := [some ⟨36, vh.map (eI .u8)⟩, some ⟨5, x7.map (eI .u8)⟩]) rfl (Vm.Fn.lendR (hY N b vh x7 h_2) [] [0] (by decide) rfl (by decide) Lend.nil (Brw.same rfl (Brw.row (aHY (aP h_1) rfl (fun _ => rfl)) Brw.nil)) rfl (rfB.live (aA1 (fun _ => rfl) _) rfB.nil) rfl zH) <| za rfl <| zn <| AB.ret ?_
  obtain rfl := sj hr
  exact bW Tryd.results32 [1]
theorem aC1 (N : Nat) (r9 : List Int) (lD : Int) (r : (List Int)) (hr : wD N r9 lD = some r) :
    Vm.Fn Tryd.prog 21 [] [(.agg (aX (eI .u8) r9 [(eI .u32 lD)]))] (.sl 0 0 r.length 1 false) [some ⟨5, r.map (eI .u8)⟩] := by
  refine zf Tryd.func21 Tryd.ntmps21 ?_
  unfold wD at hr
  refine zq <| zh (v := (.ptr 0 0)) (b8 rfl rfl rfl rfl) ?_
  refine zw (v := (.row (some true) 1 [])) (bE rfl) <| zn <| AB.seq ?_
  obtain ⟨q, h_1, hr⟩ := aN hr
  obtain ⟨x5, h_2, hr⟩ := aN hr
  obtain ⟨x8, h_4, hr⟩ := aN hr
  refine AB.rd (dQ []) (dQ [31, 32]) mixed <| kP 6 0 rfl rfl (aK6 ..) <| zp 5 1 rfl (bH (v := (.agg (r9.map (eI .u8)))) (aI rfl (bZ rfl (aLZ (aP h_1) (bQ (ds := (aX (eI .u8) r9 [])) dL rfl zl rfl))))) <| DrawG.pick (n := 4) (i := 2) (by decide +kernel) rfl (gC (v := (.sl 1 0 x5.length 1 false)) (h' := [some ⟨38, (aX (eI .u8) r9 [(eI .u32 lD)])⟩, some ⟨5, x5.map (eI .u8)⟩]) (Vm.Fn.argsLe (zB (aB2 N [] r9 x5 h_2) []) (V.les_cons V.le_nil (V.les_cons (V.le_refl _ _) V.les_nil))) rfl (fun _ => ⟨_, rfl⟩) (sv (bN rfl d5))) ?_
  refine kP 3 3 rfl rfl (aKY ..) <| zp 2 4 rfl (bH (v := (eI .u32 lD)) (aI rfl (bZ rfl (bX cA rfl rfl)))) <| DrawG.pick (n := 1) (i := 5) (by decide +kernel) rfl (gC (v := (.sl 2 0 x8.length 1 false)) (h' := [some ⟨38, (aX (eI .u8) r9 [(eI .u32 lD)])⟩, some ⟨5, x5.map (eI .u8)⟩, some ⟨5, x8.map (eI .u8)⟩]) (zL (jR N x5 lD x8 h_4) [] [1]) rfl (fun _ => ⟨_, rfl⟩) (sv (bN rfl d5))) <| nL 0 6 rfl rfl <| DrawG.nil (by decide +kernel) <| Ex.then_mk <| AB.ret ?_
  obtain rfl := sj hr
  exact bW Tryd.results21 [2]
theorem pF (N : Nat) (b : List Int) (vs : List Int) (r : (List Int)) (hr : iX N b vs = some r) :
    Vm.Fn Tryd.prog 34 [] [(.row none 1 (b.map (eI .u8))), (.row none 1 (vs.map (eI .u8)))] (.sl 0 0 r.length 1 false) [some ⟨5, r.map (eI .u8)⟩] := by
  refine zf Tryd.func34 Tryd.ntmps34 ?_
  unfold iX at hr
  refine zq <| zw (v := (.row (some true) 1 [])) (bE rfl) <| zn <| AB.seq ?_
  obtain ⟨x9, h_1, hr⟩ := aN hr
  obtain ⟨b7, h_2, hr⟩ := aN hr
  refine AB.rw <| zm rfl <| zm rfl <| eT rfl bG <| zw (dA rfl (cE _ ⟨_, dN⟩ bV rfl)) <| wC (v := (.sl 0 0 x9.length 1 false)) rfl (zB (nK N b (IntKind.u64.wrap (vs.length : Int)) x9 h_1) []) ?_
  refine zm rfl <| wC (v := (.sl 1 0 b7.length 1 false)) (h' := [some ⟨5, x9.map (eI .u8)⟩, some ⟨5, b7.map (eI .u8)⟩]) rfl (zL (hY N x9 vs b7 h_2) [] [0]) <| za rfl <| zn <| AB.ret ?_
  obtain rfl := sj hr
  exact bW Tryd.results34 [1]
theorem aCC (N : Nat) (aC : Int) (aB : List aO) (aA : List aK) (aH : Int) (dI : Bool) (r : (List Int)) (hr : uC N aC aB aA aH dI = some r) :
    Vm.Fn Tryd.prog 29 [] [(.agg [(eI .u32 aC), (.row none 35 (aB.map aL)), (.row none 2 (aA.map aM)), (eI .u32 aH)]), (eB dI)] (.sl 0 0 r.length 1 false) [some ⟨5, r.map (eI .u8)⟩] := by
  refine zf Tryd.func29 Tryd.ntmps29 ?_
  unfold uC at hr
  refine zq <| zh (v := (.ptr 0 0)) (b8 rfl rfl rfl rfl) ?_
  refine zw (v := (.row (some true) 1 [])) (bE rfl) <| zn <| AB.seq ?_
  obtain ⟨x16, h_1, hr⟩ := aN hr
  refine AB.rw <| cQ rfl (aH7 ..) <| dP rfl rfl cA rfl <| wC (v := (.sl 1 0 x16.length 1 false)) (h' := [some ⟨26, [(eI .u32 aC), (.row none 35 (aB.map aL)), (.row none 2 (aA.map aM)), (eI .u32 aH)]⟩, some ⟨5, x16.map (eI .u8)⟩]) rfl (Vm.Fn.argsLe (zB (jR N [] aC x16 h_1) []) (V.les_cons V.le_nil (V.les_cons (V.le_refl _ _) V.les_nil))) <| za rfl <| zn <| AB.seq ?_
  obtain ⟨d8, h_2, hr⟩ := aN hr
  obtain ⟨kX, h_3, hr⟩ := aN hr
  refine AB.rw <| zm rfl <| cQ rfl (gL ..) <| dP rfl rfl eG rfl <| eT rfl eG <| zw (dA rfl (cE _ ⟨_, dN⟩ bV rfl)) <| wC (v := (.sl 2 0 d8.length 1 false)) (h' := [some ⟨26, [(eI .u32 aC), (.row none 35 (aB.map aL)), (.row none 2 (aA.map aM)), (eI .u32 aH)]⟩, some ⟨5, x16.map (eI .u8)⟩, some ⟨5, d8.map (eI .u8)⟩]) rfl (Vm.Fn.argsLe (zB (nK N [] (IntKind.u64.wrap (aB.length : Int)) d8 h_2) []) (V.les_cons V.le_nil (V.les_cons (V.le_refl _ _) V.les_nil))) ?_
  refine zh (v := (.sl 3 0 kX.length 1 false)) (dZ rfl rfl (nD (E := (eI .u8)) rfl bG cC ⟨rfl, rfl, zl⟩ rfl (pU rfl rfl) h_3 rfl rfl)) ?_
  refine za rfl <| zn ?_
  refine AB.seq_g fun K1 hK1 hG1 => ?_
  have J1 : ∀ (l1 : List Int), vC N aC aB aA aH dI l1 = some r → K1 (aV 104 [(1, (eB dI)), (2, (.ptr 0 0)), (5, (.sl 1 0 l1.length 1 false))]) [some ⟨26, [(eI .u32 aC), (.row none 35 (aB.map aL)), (.row none 2 (aA.map aM)), (eI .u32 aH)]⟩, some ⟨5, l1.map (eI .u8)⟩] := by
    intro l1 hr
    unfold vC at hr
    refine hK1 _ _ <| AB.seq ?_
    obtain ⟨x47, h_4, hr⟩ := aN hr
    obtain ⟨x48, h_5, hr⟩ := aN hr
    refine AB.rw <| zm rfl <| cQ rfl (o7 ..) <| dP rfl rfl jZ rfl <| eT rfl jZ <| zw (dA rfl (cE _ ⟨_, dN⟩ bV rfl)) <| wC (v := (.sl 2 0 x47.length 1 false)) (h' := [some ⟨26, [(eI .u32 aC), (.row none 35 (aB.map aL)), (.row none 2 (aA.map aM)), (eI .u32 aH)]⟩, some ⟨5, l1.map (eI .u8)⟩, some ⟨5, x47.map (eI .u8)⟩]) rfl (Vm.Fn.argsLe (zB (nK N [] (IntKind.u64.wrap (aA.length : Int)) x47 h_4) []) (V.les_cons V.le_nil (V.les_cons (V.le_refl _ _) V.les_nil))) ?_
    refine zh (v := (.sl 3 0 x48.length 1 false)) (dZ rfl rfl (nD (E := (eI .u8)) rfl bG cC ⟨rfl, rfl, zl⟩ rfl (pU rfl rfl) h_5 rfl rfl)) ?_
    refine za rfl <| zn ?_
    refine AB.seq_g fun K2 hK2 hG2 => ?_
    have J2 : ∀ (eJ : List Int), vN N aC aB aA aH dI eJ = some r → K2 (aV 104 [(1, (eB dI)), (2, (.ptr 0 0)), (5, (.sl 1 0 eJ.length 1 false))]) [some ⟨26, [(eI .u32 aC), (.row none 35 (aB.map aL)), (.row none 2 (aA.map aM)), (eI .u32 aH)]⟩, some ⟨5, eJ.map (eI .u8)⟩] := by
      intro eJ hr
      unfold vN at hr
      refine hK2 _ _ <| AB.seq ?_
      obtain ⟨x71, h_6, hr⟩ := aN hr
      obtain ⟨x72, h_7, hr⟩ := aN hr
      refine AB.rw <| zm rfl <| cQ rfl (aEJ ..) <| dP rfl rfl cA rfl <| wC (v := (.sl 2 0 x71.length 1 false)) (h' := [some ⟨26, [(eI .u32 aC), (.row none 35 (aB.map aL)), (.row none 2 (aA.map aM)), (eI .u32 aH)]⟩, some ⟨5, eJ.map (eI .u8)⟩, some ⟨5, x71.map (eI .u8)⟩]) rfl (Vm.Fn.argsLe (zB (jR N [] aH x71 h_6) []) (V.les_cons V.le_nil (V.les_cons (V.le_refl _ _) V.les_nil))) <| zh (v := (.sl 3 0 x72.length 1 false)) (dZ rfl rfl (nD (E := (eI .u8)) rfl bG cC ⟨rfl, rfl, zl⟩ rfl (pU rfl rfl) h_7 rfl rfl)) ?_
      refine za rfl <| zn <| AB.seq <| zq <| zm rfl <| zw (f9 rfl (dU _ _)) <| zn ?_
      refine zk hr rfl (fun h8 hr => ?_) (fun h8 hr => ?_)
      · refine zq <| zm rfl <| za rfl <| zn <| AB.ret <| Ex.then_ret_mk ?_
        obtain rfl := sj hr
        exact bW Tryd.results29 [3]
      · refine AB.skip <| Ex.then_mk ?_
        refine AB.seq_g fun K3 hK3 hG3 => ?_
        have J3 : ∀ (l0 : List Int), aAb N l0 = some r → K3 (aV 104 [(5, (.sl 0 0 l0.length 1 false))]) [some ⟨5, l0.map (eI .u8)⟩] := by
          intro l0 hr
          unfold aAb at hr
          refine hK3 _ _ <| zq <| zm rfl <| za rfl <| zn <| AB.ret ?_
          obtain rfl := sj hr
          exact bW Tryd.results29 [0]
        refine zq <| cQ rfl (gL ..) <| dP rfl rfl eG rfl <| eT rfl eG <| zI <| zn ?_
        obtain ⟨res4, hL4, hr⟩ := aN hr
        refine AB.block <| AB.loopN (fun m s h => ∃ (x79 : Int) (bF : List Int), i8 N aB m x79 bF = some res4 ∧ Ghost 0 s h (aV 104 [(5, (.sl 0 0 bF.length 1 false)), (77, (.row none 35 (aB.map aL))), (78, (eI .i64 (aB.length : Int))), (79, (eI .i64 x79))]) [some ⟨5, bF.map (eI .u8)⟩]) (n := N) ⟨0, x72, hL4, (zG [3])⟩ (by rintro s h ⟨_, _, h0, _⟩; simp [i8] at h0) ?_
        rintro m4 s h ⟨x79, bF, hr4, hg⟩
        refine AB.ghost hg ?_
        clear hg hL4
        rw [i8] at hr4
        refine zq <| eY rfl rfl <| zn <| AB.seq ?_
        refine zk hr4 rfl (fun h9 hr4 => ?_) (fun h9 hr4 => ?_)
        · refine AB.skip <| Ex.then_mk ?_
          refine AB.seq_g fun K5 hK5 hG5 => ?_
          have J5 : ∀ (nM : List Int), vK N aB x79 (i8 N aB m4) nM = some res4 → K5 (aV 104 [(5, (.sl 0 0 nM.length 1 false)), (77, (.row none 35 (aB.map aL))), (78, (eI .i64 (aB.length : Int))), (79, (eI .i64 x79))]) [some ⟨5, nM.map (eI .u8)⟩] := by
            intro nM hr4
            unfold vK at hr4
            refine hK5 _ _ <| AB.rw <| dG rfl rfl <| zm rfl <| zn ?_
            exact ⟨IntKind.i64.wrap (x79 + 1), nM, hr4, (zG [0])⟩
          refine AB.block <| AB.seq ?_
          obtain ⟨x81, h_10, hr4⟩ := aN hr4
          refine AB.rw <| zw (bP rfl rfl (kH eG gD h_10)) <| zw (v := (aL x81)) (aI rfl (jM h_10 (bQ (ds := (aX (eI .u8) x81.Prev.Tx [(eI .u32 x81.Prev.Index), (eI .u32 x81.Sequence), (.row none 1 (x81.Witness.map (eL 1 (eI .u8))))])) gD rfl zl rfl))) <| zh (v := (.ptr 1 0)) (cK (B := some ⟨41, (aX (eI .u8) (List.replicate 32 0) [(eI .u32 0), (eI .u32 0), (.row (some true) 1 [])])⟩) gD rfl rfl) ?_
          refine zN (h' := [some ⟨5, bF.map (eI .u8)⟩, some ⟨41, cH x81⟩]) (aU rfl rfl (eR gD rfl rfl rfl zl rfl)) <| zn <| AB.seq ?_
          obtain ⟨x88, h_11, hr4⟩ := aN hr4
          obtain ⟨x89, h_12, hr4⟩ := aN hr4
          refine AB.rw <| zm rfl <| cQ rfl (aBa ..) <| dP rfl rfl b5 rfl <| eT rfl b5 <| zw (dA rfl (cE _ ⟨_, dN⟩ bV rfl)) <| wC (v := (.sl 2 0 x88.length 1 false)) (h' := [some ⟨5, bF.map (eI .u8)⟩, some ⟨41, cH x81⟩, some ⟨5, x88.map (eI .u8)⟩]) rfl (Vm.Fn.argsLe (zB (nK N [] (IntKind.u64.wrap (x81.Witness.length : Int)) x88 h_11) []) (V.les_cons V.le_nil (V.les_cons (V.le_refl _ _) V.les_nil))) <| zh (v := (.sl 3 0 x89.length 1 false)) (dZ rfl rfl (nD (E := (eI .u8)) rfl bG cC ⟨rfl, rfl, zl⟩ rfl (pU rfl rfl) h_12 rfl rfl)) ?_
          refine za rfl <| zn <| zq <| cQ rfl (aBa ..) <| dP rfl rfl b5 rfl <| eT rfl b5 <| zI <| zn ?_
          obtain ⟨res6, hL6, hr4⟩ := aN hr4
          refine AB.block <| AB.loopN (fun m s h => ∃ (x93 : Int) (i9 : List Int), kJ N aB x79 x81 m x93 i9 = some res6 ∧ Ghost 0 s h (aV 104 [(5, (.sl 0 0 i9.length 1 false)), (77, (.row none 35 (aB.map aL))), (78, (eI .i64 (aB.length : Int))), (79, (eI .i64 x79)), (91, (.row none 1 (x81.Witness.map (eL 1 (eI .u8))))), (92, (eI .i64 (x81.Witness.length : Int))), (93, (eI .i64 x93))]) [some ⟨5, i9.map (eI .u8)⟩]) (n := N) ⟨0, x89, hL6, (zG [3])⟩ (by rintro s h ⟨_, _, h0, _⟩; simp [kJ] at h0) ?_
          rintro m6 s h ⟨x93, i9, hr6, hg⟩
          refine AB.ghost hg ?_
          clear hg hL6
          rw [kJ] at hr6
          refine zq <| eY rfl rfl <| zn <| AB.seq ?_
          refine zk hr6 rfl (fun h13 hr6 => ?_) (fun h13 hr6 => ?_)
          · refine AB.skip <| Ex.then_mk <| AB.seq <| AB.block <| AB.seq ?_
            obtain ⟨x95, h_14, hr6⟩ := aN hr6
            refine AB.rw <| zw (bP rfl rfl (kH b5 bG h_14)) <| zw (v := (.row none 1 (x95.map (eI .u8)))) (aI rfl (jM h_14 (bX bG rfl rfl))) <| za rfl <| zn ?_
            obtain ⟨x99, h_15, hr6⟩ := aN hr6
            obtain ⟨aIs, h_16, hr6⟩ := aN hr6
            refine AB.rw <| zm rfl <| zm rfl <| wC (v := (.sl 1 0 x99.length 1 false)) (h' := [some ⟨5, i9.map (eI .u8)⟩, some ⟨5, x99.map (eI .u8)⟩]) rfl (Vm.Fn.argsLe (zB (pF N [] x95 x99 h_15) []) (V.les_cons V.le_nil (V.les_cons (V.le_refl _ _) V.les_nil))) <| zh (v := (.sl 2 0 aIs.length 1 false)) (dZ rfl rfl (nD (E := (eI .u8)) rfl bG cC ⟨rfl, rfl, zl⟩ rfl (pU rfl rfl) h_16 rfl rfl)) ?_
            refine za rfl <| OpsW.nil <| Ex.inBlock_mk <| Ex.then_mk <| AB.rw <| dG rfl rfl <| zm rfl <| zn ?_
            exact ⟨IntKind.i64.wrap (x93 + 1), aIs, hr6, (zG [2])⟩
          · refine AB.exit <| Ex.then_exit_mk <| Ex.then_exit_mk <| Ex.inBlock_same_mk ?_
            obtain rfl := sj hr6
            refine Ex.inBlock_mk <| Ex.then_mk ?_
            exact hG5 _ _ _ _ (zG [0]) (J5 i9 hr4)
        · refine AB.exit <| Ex.then_exit_mk <| Ex.then_exit_mk <| Ex.inBlock_same_mk ?_
          obtain rfl := sj hr4
          refine Ex.then_mk ?_
          exact hG3 _ _ _ _ (zG [0]) (J3 bF hr)
    refine zq <| cQ rfl (o7 ..) <| dP rfl rfl jZ rfl <| eT rfl jZ <| zI <| zn ?_
    obtain ⟨res7, hL7, hr⟩ := aN hr
    refine AB.block ?_
    refine AB.loopN (fun m s h => ∃ (x52 : Int) (l1_2 : List Int), j6 N aC aB aA aH dI m x52 l1_2 = some res7 ∧ Ghost 0 s h (aV 104 [(1, (eB dI)), (2, (.ptr 0 0)), (5, (.sl 1 0 l1_2.length 1 false)), (50, (.row none 2 (aA.map aM))), (51, (eI .i64 (aA.length : Int))), (52, (eI .i64 x52))]) [some ⟨26, [(eI .u32 aC), (.row none 35 (aB.map aL)), (.row none 2 (aA.map aM)), (eI .u32 aH)]⟩, some ⟨5, l1_2.map (eI .u8)⟩]) (n := N) ⟨0, x48, hL7, (zG [0, 3])⟩ (by rintro s h ⟨_, _, h0, _⟩; simp [j6] at h0) ?_
    rintro m7 s h ⟨x52, l1_2, hr7, hg⟩
    refine AB.ghost hg ?_
    clear hg hL7
    rw [j6] at hr7
    refine zq <| eY rfl rfl <| zn <| AB.seq ?_
    refine zk hr7 rfl (fun h17 hr7 => ?_) (fun h17 hr7 => ?_)
    · refine AB.skip <| Ex.then_mk <| AB.seq <| AB.block <| AB.seq ?_
      obtain ⟨x54, h_18, hr7⟩ := aN hr7
      refine AB.rw <| zw (bP rfl rfl (kH jZ iO h_18)) <| zw (v := (.agg [(eI .i64 x54.Value), (.row none 1 (x54.Script.map (eI .u8)))])) (aI rfl (jM h_18 (bQ (ds := [(eI .i64 x54.Value), (.row none 1 (x54.Script.map (eI .u8)))]) iO rfl zl rfl))) <| zh (v := (.ptr 2 0)) (cK (B := some ⟨44, [(eI .i64 0), (.row (some true) 1 [])]⟩) iO rfl rfl) ?_
      refine zt (aU rfl rfl (eR iO rfl rfl rfl zl rfl)) ?_
      refine zn <| AB.seq ?_
      obtain ⟨x60, h_19, hr7⟩ := aN hr7
      obtain ⟨x61, h_20, hr7⟩ := aN hr7
      refine AB.rw <| zm rfl <| cQ rfl (mE ..) <| dP rfl rfl uQ rfl <| zw (dA rfl (cE _ ⟨_, uQ⟩ bV rfl)) <| wC (v := (.sl 3 0 x60.length 1 false)) (h' := [some ⟨26, [(eI .u32 aC), (.row none 35 (aB.map aL)), (.row none 2 (aA.map aM)), (eI .u32 aH)]⟩, some ⟨5, l1_2.map (eI .u8)⟩, some ⟨44, [(eI .i64 x54.Value), (.row none 1 (x54.Script.map (eI .u8)))]⟩, some ⟨5, x60.map (eI .u8)⟩]) rfl (Vm.Fn.argsLe (zB (rJ N [] (IntKind.u64.wrap x54.Value) x60 h_19) []) (V.les_cons V.le_nil (V.les_cons (V.le_refl _ _) V.les_nil))) ?_
      refine zh (v := (.sl 4 0 x61.length 1 false)) (dZ rfl rfl (nD (E := (eI .u8)) rfl bG cC ⟨rfl, rfl, zl⟩ rfl (pU rfl rfl) h_20 rfl rfl)) ?_
      refine za rfl <| zn ?_
      obtain ⟨x65, h_21, hr7⟩ := aN hr7
      obtain ⟨x66, h_22, hr7⟩ := aN hr7
      refine AB.rw <| zm rfl <| cQ rfl (wI ..) <| dP rfl rfl bG rfl <| wC (v := (.sl 5 0 x65.length 1 false)) (h' := [some ⟨26, [(eI .u32 aC), (.row none 35 (aB.map aL)), (.row none 2 (aA.map aM)), (eI .u32 aH)]⟩, none, some ⟨44, [(eI .i64 x54.Value), (.row none 1 (x54.Script.map (eI .u8)))]⟩, some ⟨5, x60.map (eI .u8)⟩, some ⟨5, x61.map (eI .u8)⟩, some ⟨5, x65.map (eI .u8)⟩]) rfl (Vm.Fn.argsLe (zB (pF N [] x54.Script x65 h_21) []) (V.les_cons V.le_nil (V.les_cons (V.le_refl _ _) V.les_nil))) ?_
      refine zh (v := (.sl 6 0 x66.length 1 false)) (dZ rfl rfl (nD (E := (eI .u8)) rfl bG cC ⟨rfl, rfl, zl⟩ rfl (pU rfl rfl) h_22 rfl rfl)) ?_
      refine za rfl <| OpsW.nil <| Ex.inBlock_mk <| Ex.then_mk <| AB.rw <| dG rfl rfl <| zm rfl <| zn ?_
      exact ⟨IntKind.i64.wrap (x52 + 1), x66, hr7, (zG [0, 6])⟩
    · refine AB.exit <| Ex.then_exit_mk <| Ex.then_exit_mk <| Ex.inBlock_same_mk ?_
      obtain rfl := sj hr7
      refine Ex.then_mk ?_
      exact hG2 _ _ _ _ (zG [0, 1]) (J2 l1_2 hr)
  refine zq <| cQ rfl (gL ..) <| dP rfl rfl eG rfl <| eT rfl eG <| zI <| zn ?_
  obtain ⟨res8, hL8, hr⟩ := aN hr
  refine AB.block ?_
  refine AB.loopN (fun m s h => ∃ (x27 : Int) (l1_3 : List Int), kM N aC aB aA aH dI m x27 l1_3 = some res8 ∧ Ghost 0 s h (aV 104 [(1, (eB dI)), (2, (.ptr 0 0)), (5, (.sl 1 0 l1_3.length 1 false)), (25, (.row none 35 (aB.map aL))), (26, (eI .i64 (aB.length : Int))), (27, (eI .i64 x27))]) [some ⟨26, [(eI .u32 aC), (.row none 35 (aB.map aL)), (.row none 2 (aA.map aM)), (eI .u32 aH)]⟩, some ⟨5, l1_3.map (eI .u8)⟩]) (n := N) ⟨0, kX, hL8, (zG [0, 3])⟩ (by rintro s h ⟨_, _, h0, _⟩; simp [kM] at h0) ?_
  rintro m8 s h ⟨x27, l1_3, hr8, hg⟩
  refine AB.ghost hg ?_
  clear hg hL8
  rw [kM] at hr8
  refine zq <| eY rfl rfl <| zn <| AB.seq ?_
  refine zk hr8 rfl (fun h23 hr8 => ?_) (fun h23 hr8 => ?_)
  · refine AB.skip <| Ex.then_mk <| AB.seq <| AB.block <| AB.seq ?_
    obtain ⟨x29, h_24, hr8⟩ := aN hr8
    refine AB.rw <| zw (bP rfl rfl (kH eG gD h_24)) <| zw (v := (aL x29)) (aI rfl (jM h_24 (bQ (ds := (aX (eI .u8) x29.Prev.Tx [(eI .u32 x29.Prev.Index), (eI .u32 x29.Sequence), (.row none 1 (x29.Witness.map (eL 1 (eI .u8))))])) gD rfl zl rfl))) <| zh (v := (.ptr 2 0)) (cK (B := some ⟨41, (aX (eI .u8) (List.replicate 32 0) [(eI .u32 0), (eI .u32 0), (.row (some true) 1 [])])⟩) gD rfl rfl) ?_
    refine zN (h' := [some ⟨26, [(eI .u32 aC), (.row none 35 (aB.map aL)), (.row none 2 (aA.map aM)), (eI .u32 aH)]⟩, some ⟨5, l1_3.map (eI .u8)⟩, some ⟨41, cH x29⟩]) (aU rfl rfl (eR gD rfl rfl rfl zl rfl)) <| zn <| AB.seq ?_
    obtain ⟨gO, h_25, hr8⟩ := aN hr8
    obtain ⟨x35, h_26, hr8⟩ := aN hr8
    refine AB.rw <| zm rfl <| cQ rfl (aCN ..) <| zw (v := (jQ x29.Prev)) (aI rfl (bZ rfl (bQ (ds := (aX (eI .u8) x29.Prev.Tx [(eI .u32 x29.Prev.Index)])) jA rfl zl rfl))) <| wC (v := (.sl 3 0 gO.length 1 false)) rfl (zB (aC1 N x29.Prev.Tx x29.Prev.Index gO h_25) []) ?_
    refine zh (v := (.sl 4 0 x35.length 1 false)) (dZ rfl rfl (nD (E := (eI .u8)) rfl bG cC ⟨rfl, rfl, zl⟩ rfl (pU rfl rfl) h_26 rfl rfl)) ?_
    refine za rfl <| zn ?_
    obtain ⟨x39, h_27, hr8⟩ := aN hr8
    obtain ⟨x40, h_28, hr8⟩ := aN hr8
    refine AB.rw <| zm rfl <| cQ rfl (aER ..) <| dP rfl rfl cA rfl <| wC (v := (.sl 5 0 x39.length 1 false)) (h' := [some ⟨26, [(eI .u32 aC), (.row none 35 (aB.map aL)), (.row none 2 (aA.map aM)), (eI .u32 aH)]⟩, none, some ⟨41, cH x29⟩, some ⟨5, gO.map (eI .u8)⟩, some ⟨5, x35.map (eI .u8)⟩, some ⟨5, x39.map (eI .u8)⟩]) rfl (Vm.Fn.argsLe (zB (jR N [] x29.Sequence x39 h_27) []) (V.les_cons V.le_nil (V.les_cons (V.le_refl _ _) V.les_nil))) ?_
    refine zh (v := (.sl 6 0 x40.length 1 false)) (dZ rfl rfl (nD (E := (eI .u8)) rfl bG cC ⟨rfl, rfl, zl⟩ rfl (pU rfl rfl) h_28 rfl rfl)) ?_
    refine za rfl <| OpsW.nil <| Ex.inBlock_mk <| Ex.then_mk <| AB.rw <| dG rfl rfl <| zm rfl <| zn ?_
    exact ⟨IntKind.i64.wrap (x27 + 1), x40, hr8, (zG [0, 6])⟩
  · refine AB.exit <| Ex.then_exit_mk <| Ex.then_exit_mk <| Ex.inBlock_same_mk ?_
    obtain rfl := sj hr8
    refine Ex.then_mk ?_
    exact hG1 _ _ _ _ (zG [0, 1]) (J1 l1_3 hr)
theorem aEm (N : Nat) (aC : Int) (aB : List aO) (aA : List aK) (aH : Int) (r : Bool) (hr : y5 N aC aB aA aH = some r) :
    Vm.Fn Tryd.prog 18 [] [(.agg [(eI .u32 aC), (.row none 35 (aB.map aL)), (.row none 2 (aA.map aM)), (eI .u32 aH)])] (eB r) [] := by
  refine zf Tryd.func18 Tryd.ntmps18 ?_
  unfold y5 at hr
  refine zq <| zh (v := (.ptr 0 0)) (b8 rfl rfl rfl rfl) ?_
  refine zj <| zn <| AB.seq ?_
  refine AB.seq_g fun K1 hK1 hG1 => ?_
  have J1 : ∀ (x18 : Bool), uI N aC aB aA aH x18 = some r → K1 (aV 63 [(1, (.ptr 0 0)), (18, (eB x18))]) [some ⟨26, [(eI .u32 aC), (.row none 35 (aB.map aL)), (.row none 2 (aA.map aM)), (eI .u32 aH)]⟩] := by
    intro x18 hr
    unfold uI at hr
    refine hK1 _ _ ?_
    refine zk hr rfl (fun h1 hr => ?_) (fun h1 hr => ?_)
    · refine zq <| zj <| zn <| AB.ret <| Ex.then_ret_mk ?_
      obtain rfl := sj hr
      exact bW Tryd.results18 []
    · refine AB.skip <| Ex.then_mk ?_
      refine AB.seq_g fun K2 hK2 hG2 => ?_
      have J2 : yK N aC aB aA aH = some r → K2 (aV 63 [(1, (.ptr 0 0))]) [some ⟨26, [(eI .u32 aC), (.row none 35 (aB.map aL)), (.row none 2 (aA.map aM)), (eI .u32 aH)]⟩] := by
        intro hr
        unfold yK at hr
        refine hK2 _ _ ?_
        refine AB.seq_g fun K3 hK3 hG3 => ?_
        have J3 : yG N aC aB aA aH = some r → K3 (aV 63 [(1, (.ptr 0 0))]) [some ⟨26, [(eI .u32 aC), (.row none 35 (aB.map aL)), (.row none 2 (aA.map aM)), (eI .u32 aH)]⟩] := by
          intro hr
          unfold yG at hr
          refine hK3 _ _ <| AB.seq ?_
          obtain ⟨x60, h_2, hr⟩ := aN hr
          refine AB.rw <| zw (v := (.agg [(eI .u32 aC), (.row none 35 (aB.map aL)), (.row none 2 (aA.map aM)), (eI .u32 aH)])) (aI rfl (bZ rfl (bQ (ds := [(eI .u32 aC), (.row none 35 (aB.map aL)), (.row none 2 (aA.map aM)), (eI .u32 aH)]) jY rfl zl rfl))) <| wC (v := (.sl 1 0 x60.length 1 false)) rfl (zB (aCC N aC aB aA aH true x60 h_2) []) ?_
          refine zw (v := (eI .i64 (x60.length : Int))) (gQ rfl (pQ bG)) <| zqk rfl rfl <| za rfl <| zn <| AB.ret ?_
          obtain rfl := sj hr
          exact bW Tryd.results18 []
        refine zq <| cQ rfl (gL ..) <| dP rfl rfl eG rfl <| eT rfl eG <| zI <| zn ?_
        obtain ⟨res4, hL4, hr⟩ := aN hr
        refine AB.block <| AB.loopN (fun m s h => ∃ (x39 : Int), mJ N aC aB aA aH m x39 = some res4 ∧ Ghost 0 s h (aV 63 [(1, (.ptr 0 0)), (37, (.row none 35 (aB.map aL))), (38, (eI .i64 (aB.length : Int))), (39, (eI .i64 x39))]) [some ⟨26, [(eI .u32 aC), (.row none 35 (aB.map aL)), (.row none 2 (aA.map aM)), (eI .u32 aH)]⟩]) (n := N) ⟨0, hL4, (zG [0])⟩ (by rintro s h ⟨_, h0, _⟩; simp [mJ] at h0) ?_
        rintro m4 s h ⟨x39, hr4, hg⟩
        refine AB.ghost hg ?_
        clear hg hL4
        rw [mJ] at hr4
        refine zq <| eY rfl rfl <| zn <| AB.seq ?_
        refine zk hr4 rfl (fun h3 hr4 => ?_) (fun h3 hr4 => ?_)
        · refine AB.skip <| Ex.then_mk ?_
          refine AB.seq_g fun K5 hK5 hG5 => ?_
          have J5 : yE N aC aB aA aH x39 (mJ N aC aB aA aH m4) = some res4 → K5 (aV 63 [(1, (.ptr 0 0)), (37, (.row none 35 (aB.map aL))), (38, (eI .i64 (aB.length : Int))), (39, (eI .i64 x39))]) [some ⟨26, [(eI .u32 aC), (.row none 35 (aB.map aL)), (.row none 2 (aA.map aM)), (eI .u32 aH)]⟩] := by
            intro hr4
            unfold yE at hr4
            refine hK5 _ _ <| AB.rw <| dG rfl rfl <| zm rfl <| zn ?_
            exact ⟨IntKind.i64.wrap (x39 + 1), hr4, (zG [0])⟩
          refine AB.block <| AB.seq ?_
          obtain ⟨x41, h_4, hr4⟩ := aN hr4
          refine AB.rw <| zw (bP rfl rfl (kH eG gD h_4)) <| zw (v := (aL x41)) (aI rfl (jM h_4 (bQ (ds := (aX (eI .u8) x41.Prev.Tx [(eI .u32 x41.Prev.Index), (eI .u32 x41.Sequence), (.row none 1 (x41.Witness.map (eL 1 (eI .u8))))])) gD rfl zl rfl))) <| zh (v := (.ptr 1 0)) (cK (B := some ⟨41, (aX (eI .u8) (List.replicate 32 0) [(eI .u32 0), (eI .u32 0), (.row (some true) 1 [])])⟩) gD rfl rfl) ?_
          refine zN (h' := [some ⟨26, [(eI .u32 aC), (.row none 35 (aB.map aL)), (.row none 2 (aA.map aM)), (eI .u32 aH)]⟩, some ⟨41, cH x41⟩]) (aU rfl rfl (eR gD rfl rfl rfl zl rfl)) <| zn <| AB.seq <| zq <| cQ rfl (aBa ..) <| dP rfl rfl b5 rfl <| eT rfl b5 <| sC rfl rfl <| zn ?_
          refine zk hr4 rfl (fun h5 hr4 => ?_) (fun h5 hr4 => ?_)
          · refine zq <| zj <| zn <| AB.ret <| Ex.then_ret_mk <| Ex.inBlock_ret_mk <| Ex.then_ret_mk <| Ex.then_ret_mk <| Ex.inBlock_ret_mk <| Ex.then_ret_mk ?_
            obtain rfl := sj hr4
            obtain rfl := sj hr
            exact bW Tryd.results18 []
          · refine AB.skip <| Ex.then_mk <| zq <| cQ rfl (aBa ..) <| dP rfl rfl b5 rfl <| eT rfl b5 <| zI <| zn ?_
            obtain ⟨res6, hL6, hr4⟩ := aN hr4
            refine AB.block ?_
            refine AB.loopN (fun m s h => ∃ (x50 : Int), mH N aC aB aA aH x39 x41 m x50 = some res6 ∧ Ghost 0 s h (aV 63 [(1, (.ptr 0 0)), (37, (.row none 35 (aB.map aL))), (38, (eI .i64 (aB.length : Int))), (39, (eI .i64 x39)), (48, (.row none 1 (x41.Witness.map (eL 1 (eI .u8))))), (49, (eI .i64 (x41.Witness.length : Int))), (50, (eI .i64 x50))]) [some ⟨26, [(eI .u32 aC), (.row none 35 (aB.map aL)), (.row none 2 (aA.map aM)), (eI .u32 aH)]⟩]) (n := N) ⟨0, hL6, (zG [0])⟩ (by rintro s h ⟨_, h0, _⟩; simp [mH] at h0) ?_
            rintro m6 s h ⟨x50, hr6, hg⟩
            refine AB.ghost hg ?_
            clear hg hL6
            rw [mH] at hr6
            refine zq <| eY rfl rfl <| zn <| AB.seq ?_
            refine zk hr6 rfl (fun h6 hr6 => ?_) (fun h6 hr6 => ?_)
            · refine AB.skip <| Ex.then_mk <| AB.seq <| AB.block <| AB.seq ?_
              obtain ⟨x52, h_7, hr6⟩ := aN hr6
              refine AB.rw <| zw (bP rfl rfl (kH b5 bG h_7)) <| zw (v := (.row none 1 (x52.map (eI .u8)))) (aI rfl (jM h_7 (bX bG rfl rfl))) <| za rfl <| zn <| zq <| zm rfl <| eT rfl bG <| sC rfl rfl <| zn ?_
              refine zk hr6 rfl (fun h8 hr6 => ?_) (fun h8 hr6 => ?_)
              · refine zq <| zj <| zn <| AB.ret <| Ex.inBlock_ret_mk <| Ex.then_ret_mk <| Ex.then_ret_mk <| Ex.inBlock_ret_mk <| Ex.inBlock_ret_mk <| Ex.then_ret_mk <| Ex.then_ret_mk <| Ex.inBlock_ret_mk <| Ex.then_ret_mk ?_
                obtain rfl := sj hr6
                obtain rfl := sj hr4
                obtain rfl := sj hr
                exact bW Tryd.results18 []
              · refine AB.skip <| Ex.inBlock_mk <| Ex.then_mk <| AB.rw <| dG rfl rfl <| zm rfl <| zn ?_
                exact ⟨IntKind.i64.wrap (x50 + 1), hr6, (zG [0])⟩
            · refine AB.exit <| Ex.then_exit_mk <| Ex.then_exit_mk <| Ex.inBlock_same_mk ?_
              obtain rfl := sj hr6
              refine Ex.inBlock_mk <| Ex.then_mk ?_
              exact hG5 _ _ _ _ (zG [0]) (J5 hr4)
        · refine AB.exit <| Ex.then_exit_mk <| Ex.then_exit_mk <| Ex.inBlock_same_mk ?_
          obtain rfl := sj hr4
          refine Ex.then_mk ?_
          exact hG3 _ _ _ _ (zG [0]) (J3 hr)
      refine zq <| cQ rfl (o7 ..) <| dP rfl rfl jZ rfl <| eT rfl jZ <| zI <| zn ?_
      obtain ⟨res7, hL7, hr⟩ := aN hr
      refine AB.block <| AB.loopN (fun m s h => ∃ (d8 : Int), lH N aC aB aA aH m d8 = some res7 ∧ Ghost 0 s h (aV 63 [(1, (.ptr 0 0)), (20, (.row none 2 (aA.map aM))), (21, (eI .i64 (aA.length : Int))), (22, (eI .i64 d8))]) [some ⟨26, [(eI .u32 aC), (.row none 35 (aB.map aL)), (.row none 2 (aA.map aM)), (eI .u32 aH)]⟩]) (n := N) ⟨0, hL7, (zG [0])⟩ (by rintro s h ⟨_, h0, _⟩; simp [lH] at h0) ?_
      rintro m7 s h ⟨d8, hr7, hg⟩
      refine AB.ghost hg ?_
      clear hg hL7
      rw [lH] at hr7
      refine zq <| eY rfl rfl <| zn <| AB.seq ?_
      refine zk hr7 rfl (fun h9 hr7 => ?_) (fun h9 hr7 => ?_)
      · refine AB.skip <| Ex.then_mk <| AB.seq <| AB.block <| AB.seq ?_
        obtain ⟨fE, h_10, hr7⟩ := aN hr7
        refine AB.rw <| zw (bP rfl rfl (kH jZ iO h_10)) <| zw (v := (.agg [(eI .i64 fE.Value), (.row none 1 (fE.Script.map (eI .u8)))])) (aI rfl (jM h_10 (bQ (ds := [(eI .i64 fE.Value), (.row none 1 (fE.Script.map (eI .u8)))]) iO rfl zl rfl))) <| zh (v := (.ptr 1 0)) (cK (B := some ⟨44, [(eI .i64 0), (.row (some true) 1 [])]⟩) iO rfl rfl) ?_
        refine zt (aU rfl rfl (eR iO rfl rfl rfl zl rfl)) ?_
        refine zn ?_
        refine AB.seq_g fun K8 hK8 hG8 => ?_
        have J8 : ∀ (gO : Bool), uW N aC aB aA aH d8 (lH N aC aB aA aH m7) gO = some res7 → K8 (aV 63 [(1, (.ptr 0 0)), (20, (.row none 2 (aA.map aM))), (21, (eI .i64 (aA.length : Int))), (22, (eI .i64 d8)), (34, (eB gO))]) [some ⟨26, [(eI .u32 aC), (.row none 35 (aB.map aL)), (.row none 2 (aA.map aM)), (eI .u32 aH)]⟩] := by
          intro gO hr7
          unfold uW at hr7
          refine hK8 _ _ ?_
          refine zk hr7 rfl (fun h11 hr7 => ?_) (fun h11 hr7 => ?_)
          · refine zq <| zj <| zn <| AB.ret <| Ex.inBlock_ret_mk <| Ex.then_ret_mk <| Ex.then_ret_mk <| Ex.inBlock_ret_mk <| Ex.then_ret_mk ?_
            obtain rfl := sj hr7
            obtain rfl := sj hr
            exact bW Tryd.results18 []
          · refine AB.skip <| Ex.inBlock_mk <| Ex.then_mk <| AB.rw <| dG rfl rfl <| zm rfl <| zn ?_
            exact ⟨IntKind.i64.wrap (d8 + 1), hr7, (zG [0])⟩
        rcases Bool.eq_false_or_eq_true (decide (fE.Value < 0)) with h12 | h12
        · replace hr7 := gE hr7 h12
          refine AB.rw <| cQ rfl (mE ..) <| dP rfl rfl uQ rfl <| eY rfl rfl <| zm rfl <| zx h12 <| zx h12 <| zx h12 <| zx h12 <| zw (v := (eB true)) (c9 rfl h12 rfl) <| zn ?_
          exact hG8 _ _ _ _ (zG [0]) (J8 true hr7)
        · replace hr7 := gB hr7 h12
          refine AB.rw <| cQ rfl (mE ..) <| dP rfl rfl uQ rfl <| eY rfl rfl <| zm rfl <| zg (v := (.ptr 1 1)) h12 (eE rfl (wI ..)) <| zg (v := (.row none 1 (fE.Script.map (eI .u8)))) h12 (aI rfl (bZ rfl (bX bG rfl rfl))) <| zg (v := (eI .i64 (fE.Script.length : Int))) h12 (gQ rfl (zP bG)) <| zg h12 (a9 rfl rfl (mS ..)) <| oB rfl h12 rfl <| zn ?_
          exact hG8 _ _ _ _ (zG [0]) (J8 (decide (520 < (fE.Script.length : Int))) hr7)
      · refine AB.exit <| Ex.then_exit_mk <| Ex.then_exit_mk <| Ex.inBlock_same_mk ?_
        obtain rfl := sj hr7
        refine Ex.then_mk ?_
        exact hG2 _ _ _ _ (zG [0]) (J2 hr)
  rcases Bool.eq_false_or_eq_true (decide (64 < (aB.length : Int))) with h13 | h13
  · replace hr := gE hr h13
    refine AB.rw <| cQ rfl (gL ..) <| dP rfl rfl eG rfl <| eT rfl eG <| sC rfl rfl <| zm rfl <| zx h13 <| zx h13 <| zx h13 <| zx h13 <| zw (v := (eB true)) (c9 rfl h13 rfl) <| zn ?_
    exact hG1 _ _ _ _ (zG [0]) (J1 true hr)
  · replace hr := gB hr h13
    refine AB.rw <| cQ rfl (gL ..) <| dP rfl rfl eG rfl <| eT rfl eG <| sC rfl rfl <| zm rfl <| zg (v := (.ptr 0 2)) h13 (eE rfl (o7 ..)) <| zg (v := (.row none 2 (aA.map aM))) h13 (aI rfl (bZ rfl (bX jZ rfl rfl))) <| zg (v := (eI .i64 (aA.length : Int))) h13 (gQ rfl (zP jZ)) <| zg h13 (a9 rfl rfl (mS ..)) <| oB rfl h13 rfl <| zn ?_
    exact hG1 _ _ _ _ (zG [0]) (J1 (decide (64 < (aA.length : Int))) hr)
theorem aHx (N : Nat) (l : List aK) (r : Bool) (hr : zD N l = some r) :
    Vm.Fn Tryd.prog 19 [] [(.row none 2 (l.map aM))] (eB r) [] := by
  refine zf Tryd.func19 Tryd.ntmps19 ?_
  unfold zD at hr
  refine zq <| zj <| zn <| zq <| zi <| zn ?_
  refine AB.seq_g fun K1 hK1 hG1 => ?_
  have J1 : aAJ N = some r → K1 (aV 22 []) [] := by
    intro hr
    unfold aAJ at hr
    refine hK1 _ _ <| zq <| zj <| zn <| AB.ret ?_
    obtain rfl := sj hr
    exact bW Tryd.results19 []
  refine zq <| zm rfl <| eT rfl jZ <| zI <| zn ?_
  obtain ⟨cL, hL2, hr⟩ := aN hr
  refine AB.block <| AB.loopN (fun m s h => ∃ (sum : Int) (x8 : Int), oG N l m sum x8 = some cL ∧ Ghost 0 s h (aV 22 [(3, (eI .i64 sum)), (6, (.row none 2 (l.map aM))), (7, (eI .i64 (l.length : Int))), (8, (eI .i64 x8))]) []) (n := N) ⟨0, 0, hL2, (zG [])⟩ (by rintro s h ⟨_, _, h0, _⟩; simp [oG] at h0) ?_
  rintro m2 s h ⟨sum, x8, hr2, hg⟩
  refine AB.ghost hg ?_
  clear hg hL2
  rw [oG] at hr2
  refine zq <| eY rfl rfl <| zn <| AB.seq ?_
  refine zk hr2 rfl (fun h1 hr2 => ?_) (fun h1 hr2 => ?_)
  · refine AB.skip <| Ex.then_mk <| AB.seq <| AB.block <| AB.seq ?_
    obtain ⟨cG, h_2, hr2⟩ := aN hr2
    refine AB.rw <| zw (bP rfl rfl (kH jZ iO h_2)) <| zw (v := (.agg [(eI .i64 cG.Value), (.row none 1 (cG.Script.map (eI .u8)))])) (aI rfl (jM h_2 (bQ (ds := [(eI .i64 cG.Value), (.row none 1 (cG.Script.map (eI .u8)))]) iO rfl zl rfl))) <| zh (v := (.ptr 0 0)) (cK (B := some ⟨44, [(eI .i64 0), (.row (some true) 1 [])]⟩) iO rfl rfl) ?_
    refine zt (aU rfl rfl (eR iO rfl rfl rfl zl rfl)) ?_
    refine zn <| AB.seq <| zq <| cQ rfl (mE ..) <| dP rfl rfl uQ rfl <| zm rfl <| vP rfl rfl <| sC rfl rfl <| zn ?_
    refine zk hr2 rfl (fun h3 hr2 => ?_) (fun h3 hr2 => ?_)
    · refine zq <| zj <| zn <| AB.ret <| Ex.then_ret_mk <| Ex.inBlock_ret_mk <| Ex.then_ret_mk <| Ex.then_ret_mk <| Ex.inBlock_ret_mk <| Ex.then_ret_mk ?_
      obtain rfl := sj hr2
      obtain rfl := sj hr
      exact bW Tryd.results19 []
    · refine AB.skip <| Ex.then_mk <| AB.rw <| zm rfl <| cQ rfl (mE ..) <| dP rfl rfl uQ rfl <| dG rfl rfl <| za rfl <| OpsW.nil <| Ex.inBlock_mk <| Ex.then_mk <| AB.rw <| dG rfl rfl <| zm rfl <| zn ?_
      exact ⟨IntKind.i64.wrap (sum + cG.Value), IntKind.i64.wrap (x8 + 1), hr2, (zG [])⟩
  · refine AB.exit <| Ex.then_exit_mk <| Ex.then_exit_mk <| Ex.inBlock_same_mk ?_
    obtain rfl := sj hr2
    refine Ex.then_mk ?_
    exact hG1 _ _ _ _ (zG []) (J1 hr)
theorem aIQ (N : Nat) (r9 : List Int) (lD : Int) (r : Bool) (hr : aFg N r9 lD = some r) :
    Vm.Fn Tryd.prog 15 [] [(.agg (aX (eI .u8) r9 [(eI .u32 lD)]))] (eB r) [] := by
  refine zf Tryd.func15 Tryd.ntmps15 ?_
  unfold aFg at hr
  refine zq <| zh (v := (.ptr 0 0)) (b8 rfl rfl rfl rfl) ?_
  refine zj <| zn <| zq <| zw (v := (.agg (aX (eI .u8) r9 [(eI .u32 lD)]))) (aI rfl (bZ rfl (bQ (ds := (aX (eI .u8) r9 [(eI .u32 lD)])) jA rfl zl rfl))) <| zw (v := (.agg (aX (eI .u8) (List.replicate 32 0) [(eI .u32 4294967295)]))) (cI rfl (lL jA aGx rfl)) <| zw (a9 rfl rfl (aKa (d := 9) jA rfl aIi zl aJY rfl rfl rfl rfl rfl)) <| za rfl <| zn <| AB.ret ?_
  obtain rfl := sj hr
  exact bW Tryd.results15 []
theorem aA2 (N : Nat) (aC : Int) (aB : List aO) (aA : List aK) (aH : Int) (r : Bool) (hr : qL N aC aB aA aH = some r) :
    Vm.Fn Tryd.prog 10 [] [(.agg [(eI .u32 aC), (.row none 35 (aB.map aL)), (.row none 2 (aA.map aM)), (eI .u32 aH)])] (eB r) [] := by
  refine zf Tryd.func10 Tryd.ntmps10 ?_
  unfold qL at hr
  refine zq <| zh (v := (.ptr 0 0)) (b8 rfl rfl rfl rfl) ?_
  refine zj <| zn ?_
  refine AB.seq_g fun K1 hK1 hG1 => ?_
  have J1 : ∀ (x2 : Bool), sN N x2 = some r → K1 (aV 15 [(2, (eB x2))]) [] := by
    intro x2 hr
    unfold sN at hr
    refine hK1 _ _ <| AB.ret ?_
    obtain rfl := sj hr
    exact bW Tryd.results10 []
  rcases Bool.eq_false_or_eq_true ((aB.length : Int) == 1) with h1 | h1
  · replace hr := gE hr h1
    obtain ⟨cG, h_2, hr⟩ := aN hr
    obtain ⟨cJ, h_3, hr⟩ := aN hr
    refine AB.rw <| cQ rfl (gL ..) <| dP rfl rfl eG rfl <| eT rfl eG <| hZ rfl rfl <| zm rfl <| zg (v := (.ptr 0 1)) h1 (eE rfl (gL ..)) <| zg (v := (.row none 35 (aB.map aL))) h1 (aI rfl (bZ rfl (bX eG rfl rfl))) <| zg h1 (bP rfl rfl (kH eG gD h_2)) <| zg h1 (eE rfl (aEP ..)) <| zg (v := (jQ cG.Prev)) h1 (aI rfl (jM h_2 (bQ (ds := (aX (eI .u8) cG.Prev.Tx [(eI .u32 cG.Prev.Index)])) jA rfl zl rfl))) ?_
    refine wCG (v := (eB cJ)) (h' := [some ⟨26, [(eI .u32 aC), (.row none 35 (aB.map aL)), (.row none 2 (aA.map aM)), (eI .u32 aH)]⟩]) rfl rfl h1 rfl (Vm.Fn.pure (aIQ N cG.Prev.Tx cG.Prev.Index cJ h_3) rfl rfl) <| zpT rfl h1 rfl <| za rfl <| zn ?_
    exact hG1 _ _ _ _ (zG []) (J1 cJ hr)
  · replace hr := gB hr h1
    refine AB.rw <| cQ rfl (gL ..) <| dP rfl rfl eG rfl <| eT rfl eG <| hZ rfl rfl <| zm rfl <| zx h1 <| zx h1 <| zx h1 <| zx h1 <| zx h1 <| zx h1 <| zw (v := (eB false)) (fV rfl h1 rfl) <| za rfl <| zn ?_
    exact hG1 _ _ _ _ (zG []) (J1 false hr)
theorem aHA (N : Nat) (aC : Int) (aB : List aO) (aA : List aK) (aH : Int) (r : Int) (hr : zZ N aC aB aA aH = some r) :
    Vm.Fn Tryd.prog 13 [] [(.agg [(eI .u32 aC), (.row none 35 (aB.map aL)), (.row none 2 (aA.map aM)), (eI .u32 aH)])] (eI .i64 r) [] := by
  refine zf Tryd.func13 Tryd.ntmps13 ?_
  unfold zZ at hr
  refine zq <| zh (v := (.ptr 0 0)) (b8 rfl rfl rfl rfl) ?_
  refine zi <| zn <| AB.seq <| AB.seq ?_
  obtain ⟨x7, h_1, hr⟩ := aN hr
  refine AB.rw <| zw (v := (.agg [(eI .u32 aC), (.row none 35 (aB.map aL)), (.row none 2 (aA.map aM)), (eI .u32 aH)])) (aI rfl (bZ rfl (bQ (ds := [(eI .u32 aC), (.row none 35 (aB.map aL)), (.row none 2 (aA.map aM)), (eI .u32 aH)]) jY rfl zl rfl))) <| wC rfl (Vm.Fn.pure (aEm N aC aB aA aH x7 h_1) rfl rfl) <| zw (f9 rfl (dU _ _)) <| zn ?_
  refine zk hr rfl (fun h2 hr => ?_) (fun h2 hr => ?_)
  · refine zq <| zi <| zn <| AB.ret <| Ex.then_ret_mk ?_
    obtain rfl := sj hr
    exact bW Tryd.results13 []
  · refine AB.skip <| Ex.then_mk <| AB.seq ?_
    refine AB.seq_g fun K1 hK1 hG1 => ?_
    have J1 : ∀ (x18 : Bool), tF N aC aB aA aH x18 = some r → K1 (aV 47 [(1, (.ptr 0 0)), (18, (eB x18))]) [some ⟨26, [(eI .u32 aC), (.row none 35 (aB.map aL)), (.row none 2 (aA.map aM)), (eI .u32 aH)]⟩] := by
      intro x18 hr
      unfold tF at hr
      refine hK1 _ _ ?_
      refine zk hr rfl (fun h3 hr => ?_) (fun h3 hr => ?_)
      · refine zq <| zi <| zn <| AB.ret <| Ex.then_ret_mk ?_
        obtain rfl := sj hr
        exact bW Tryd.results13 []
      · refine AB.skip <| Ex.then_mk <| AB.seq <| AB.seq ?_
        obtain ⟨iH, h_4, hr⟩ := aN hr
        refine AB.rw <| cQ rfl (o7 ..) <| dP rfl rfl jZ rfl <| wC rfl (Vm.Fn.pure (aHx N aA iH h_4) rfl rfl) <| zw (f9 rfl (dU _ _)) <| zn ?_
        refine zk hr rfl (fun h5 hr => ?_) (fun h5 hr => ?_)
        · refine zq <| zi <| zn <| AB.ret <| Ex.then_ret_mk ?_
          obtain rfl := sj hr
          exact bW Tryd.results13 []
        · refine AB.skip <| Ex.then_mk <| zq <| zw (v := (.mp 1)) (h' := [some ⟨26, [(eI .u32 aC), (.row none 35 (aB.map aL)), (.row none 2 (aA.map aM)), (eI .u32 aH)]⟩, some ⟨33000, [].flatMap xR⟩]) (aK2 aGC aHl rfl rfl) <| za rfl <| zn ?_
          refine AB.seq_g fun K2 hK2 hG2 => ?_
          have J2 : ∀ (l1 : List (aY × Bool)), wW N aC aB aA aH l1 = some r → K2 (aV 47 [(1, (.ptr 0 0)), (3, (.mp 1))]) [some ⟨26, [(eI .u32 aC), (.row none 35 (aB.map aL)), (.row none 2 (aA.map aM)), (eI .u32 aH)]⟩, some ⟨33000, l1.flatMap xR⟩] := by
            intro l1 hr
            unfold wW at hr
            refine hK2 _ _ <| AB.seq ?_
            refine AB.seq_g fun K3 hK3 hG3 => ?_
            have J3 : ∀ (x46 : Bool), xA N x46 = some r → K3 (aV 47 [(46, (eB x46))]) [] := by
              intro x46 hr
              unfold xA at hr
              refine hK3 _ _ ?_
              refine zk hr rfl (fun h6 hr => ?_) (fun h6 hr => ?_)
              · refine zq <| zi <| zn <| AB.ret <| Ex.then_ret_mk ?_
                obtain rfl := sj hr
                exact bW Tryd.results13 []
              · refine AB.skip <| Ex.then_mk <| zq <| zi <| zn <| AB.ret ?_
                obtain rfl := sj hr
                exact bW Tryd.results13 []
            rcases Bool.eq_false_or_eq_true (zU qV l1 (aY.mk (List.replicate 32 0) 4294967295) false) with h7 | h7
            · replace hr := gE hr h7
              obtain ⟨x44, h_8, hr⟩ := aN hr
              refine AB.rw <| zm rfl <| zw (v := (.agg (aX (eI .u8) (List.replicate 32 0) [(eI .u32 4294967295)]))) (cI rfl (lL jA aGx rfl)) <| zw (v := (eB (zU qV l1 (aY.mk (List.replicate 32 0) 4294967295) false))) (aJZ rfl rfl (aJ4 aHl (C := xR) (CK := fG) (K := 33) (E := eB) (k := (aY.mk (List.replicate 32 0) 4294967295)) (fun _ => rfl) (fun _ => rfl) (by decide) (fun _ => rfl) aGC aIX aIo aIJ aJP rfl)) <| zm rfl ?_
              refine zg (v := (.agg [(eI .u32 aC), (.row none 35 (aB.map aL)), (.row none 2 (aA.map aM)), (eI .u32 aH)])) h7 (aI rfl (bZ rfl (bQ (ds := [(eI .u32 aC), (.row none 35 (aB.map aL)), (.row none 2 (aA.map aM)), (eI .u32 aH)]) jY rfl zl rfl))) ?_
              refine wCG (v := (eB x44)) (h' := [some ⟨26, [(eI .u32 aC), (.row none 35 (aB.map aL)), (.row none 2 (aA.map aM)), (eI .u32 aH)]⟩, some ⟨33000, l1.flatMap xR⟩]) rfl rfl h7 rfl (Vm.Fn.pure (aA2 N aC aB aA aH x44 h_8) rfl rfl) <| zg h7 (f9 rfl (dU _ _)) <| zpT rfl h7 rfl <| zn ?_
              exact hG3 _ _ _ _ (zG []) (J3 (!x44) hr)
            · replace hr := gB hr h7
              refine AB.rw <| zm rfl <| zw (v := (.agg (aX (eI .u8) (List.replicate 32 0) [(eI .u32 4294967295)]))) (cI rfl (lL jA aGx rfl)) <| zw (v := (eB (zU qV l1 (aY.mk (List.replicate 32 0) 4294967295) false))) (aJZ rfl rfl (aJ4 aHl (C := xR) (CK := fG) (K := 33) (E := eB) (k := (aY.mk (List.replicate 32 0) 4294967295)) (fun _ => rfl) (fun _ => rfl) (by decide) (fun _ => rfl) aGC aIX aIo aIJ aJP rfl)) <| zm rfl <| zx h7 <| zx h7 <| zx h7 <| zw (v := (eB false)) (fV rfl h7 rfl) <| zn ?_
              exact hG3 _ _ _ _ (zG []) (J3 false hr)
          refine zq <| cQ rfl (gL ..) <| dP rfl rfl eG rfl <| eT rfl eG <| zI <| zn ?_
          obtain ⟨res4, hL4, hr⟩ := aN hr
          refine AB.block <| AB.loopN (fun m s h => ∃ (x27 : Int) (eJ : List (aY × Bool)), oM N aC aB aA aH m x27 eJ = some res4 ∧ Ghost 0 s h (aV 47 [(1, (.ptr 0 0)), (3, (.mp 1)), (25, (.row none 35 (aB.map aL))), (26, (eI .i64 (aB.length : Int))), (27, (eI .i64 x27))]) [some ⟨26, [(eI .u32 aC), (.row none 35 (aB.map aL)), (.row none 2 (aA.map aM)), (eI .u32 aH)]⟩, some ⟨33000, eJ.flatMap xR⟩]) (n := N) ⟨0, [], hL4, (zG [0, 1])⟩ (by rintro s h ⟨_, _, h0, _⟩; simp [oM] at h0) ?_
          rintro m4 s h ⟨x27, eJ, hr4, hg⟩
          refine AB.ghost hg ?_
          clear hg hL4
          rw [oM] at hr4
          refine zq <| eY rfl rfl <| zn <| AB.seq ?_
          refine zk hr4 rfl (fun h9 hr4 => ?_) (fun h9 hr4 => ?_)
          · refine AB.skip <| Ex.then_mk <| AB.seq <| AB.block <| AB.seq ?_
            obtain ⟨x29, h_10, hr4⟩ := aN hr4
            refine AB.rw <| zw (bP rfl rfl (kH eG gD h_10)) <| zw (v := (aL x29)) (aI rfl (jM h_10 (bQ (ds := (aX (eI .u8) x29.Prev.Tx [(eI .u32 x29.Prev.Index), (eI .u32 x29.Sequence), (.row none 1 (x29.Witness.map (eL 1 (eI .u8))))])) gD rfl zl rfl))) <| zh (v := (.ptr 2 0)) (cK (B := some ⟨41, (aX (eI .u8) (List.replicate 32 0) [(eI .u32 0), (eI .u32 0), (.row (some true) 1 [])])⟩) gD rfl rfl) ?_
            refine zN (h' := [some ⟨26, [(eI .u32 aC), (.row none 35 (aB.map aL)), (.row none 2 (aA.map aM)), (eI .u32 aH)]⟩, some ⟨33000, eJ.flatMap xR⟩, some ⟨41, cH x29⟩]) (aU rfl rfl (eR gD rfl rfl rfl zl rfl)) <| zn <| AB.seq <| zq <| zm rfl <| cQ rfl (aCN ..) <| zw (v := (jQ x29.Prev)) (aI rfl (bZ rfl (bQ (ds := (aX (eI .u8) x29.Prev.Tx [(eI .u32 x29.Prev.Index)])) jA rfl zl rfl))) ?_
            refine zw (v := (eB (zU qV eJ x29.Prev false))) (aJZ rfl rfl (aJ4 aHl (C := xR) (CK := fG) (K := 33) (E := eB) (k := x29.Prev) (fun _ => rfl) (fun _ => rfl) (by decide) (fun _ => rfl) aGC aIX aIo aIJ aJP rfl)) <| zn ?_
            refine zk hr4 rfl (fun h11 hr4 => ?_) (fun h11 hr4 => ?_)
            · refine zq <| zi <| zn <| AB.ret <| Ex.then_ret_mk <| Ex.inBlock_ret_mk <| Ex.then_ret_mk <| Ex.then_ret_mk <| Ex.inBlock_ret_mk <| Ex.then_ret_mk ?_
              obtain rfl := sj hr4
              obtain rfl := sj hr
              exact bW Tryd.results13 []
            · refine AB.skip <| Ex.then_mk <| AB.rw <| zm rfl <| cQ rfl (aCN ..) <| zw (v := (jQ x29.Prev)) (aI rfl (bZ rfl (bQ (ds := (aX (eI .u8) x29.Prev.Tx [(eI .u32 x29.Prev.Index)])) jA rfl zl rfl))) ?_
              refine zN (h' := [some ⟨26, [(eI .u32 aC), (.row none 35 (aB.map aL)), (.row none 2 (aA.map aM)), (eI .u32 aH)]⟩, some ⟨33000, (aCo qV eJ x29.Prev true).flatMap xR⟩, some ⟨41, cH x29⟩]) (aMq rfl rfl rfl (aMR aHl (C := xR) (CK := fG) (K := 33) (E := eB) (k := x29.Prev) (v := true) (fun _ => rfl) (fun _ => rfl) (by decide) (fun _ => rfl) (fun _ => rfl) (fun _ => rfl) aGC aIX aIo aIJ rfl rfl)) <| OpsW.nil <| Ex.inBlock_mk <| Ex.then_mk <| AB.rw <| dG rfl rfl <| zm rfl <| zn ?_
              exact ⟨IntKind.i64.wrap (x27 + 1), aCo qV eJ x29.Prev true, hr4, (zG [0, 1])⟩
          · refine AB.exit <| Ex.then_exit_mk <| Ex.then_exit_mk <| Ex.inBlock_same_mk ?_
            obtain rfl := sj hr4
            refine Ex.then_mk ?_
            exact hG2 _ _ _ _ (zG [0, 1]) (J2 eJ hr)
    rcases Bool.eq_false_or_eq_true ((aB.length : Int) == 0) with h12 | h12
    · replace hr := gE hr h12
      refine AB.rw <| cQ rfl (gL ..) <| dP rfl rfl eG rfl <| eT rfl eG <| hZ rfl rfl <| zm rfl <| zx h12 <| zx h12 <| zx h12 <| zx h12 <| zw (v := (eB true)) (c9 rfl h12 rfl) <| zn ?_
      exact hG1 _ _ _ _ (zG [0]) (J1 true hr)
    · replace hr := gB hr h12
      refine AB.rw <| cQ rfl (gL ..) <| dP rfl rfl eG rfl <| eT rfl eG <| hZ rfl rfl <| zm rfl <| zg (v := (.ptr 0 2)) h12 (eE rfl (o7 ..)) <| zg (v := (.row none 2 (aA.map aM))) h12 (aI rfl (bZ rfl (bX jZ rfl rfl))) <| zg (v := (eI .i64 (aA.length : Int))) h12 (gQ rfl (zP jZ)) <| zg h12 (a9 rfl rfl (qQ ..)) <| oB rfl h12 rfl <| zn ?_
      exact hG1 _ _ _ _ (zG [0]) (J1 ((aA.length : Int) == 0) hr)
theorem aHg (N : Nat) (l : List bD) (r : Int × Bool) (hr : aAt N l = some r) :
    Vm.Fn Tryd.prog 14 [] [(.row none 37 (l.map eX))] (.tup [(eI .i64 r.1), (eB r.2)]) [] := by
  refine zf Tryd.func14 Tryd.ntmps14 ?_
  unfold aAt at hr
  refine zq <| zi <| zj <| zn <| zq <| zi <| zn ?_
  refine AB.seq_g fun K1 hK1 hG1 => ?_
  have J1 : ∀ (aEe : Int), vG N aEe = some r → K1 (aV 32 [(4, (eI .i64 aEe))]) [] := by
    intro aEe hr
    unfold vG at hr
    refine hK1 _ _ <| zq <| zm rfl <| za rfl <| zj <| zn <| AB.ret ?_
    obtain rfl := sj hr
    exact vO Tryd.results14 []
  refine zq <| zm rfl <| eT rfl aAi <| zI <| zn ?_
  obtain ⟨cL, hL2, hr⟩ := aN hr
  refine AB.block <| AB.loopN (fun m s h => ∃ (k5 : Int) (x9 : Int), kD N l m k5 x9 = some cL ∧ Ghost 0 s h (aV 32 [(4, (eI .i64 k5)), (7, (.row none 37 (l.map eX))), (8, (eI .i64 (l.length : Int))), (9, (eI .i64 x9))]) []) (n := N) ⟨0, 0, hL2, (zG [])⟩ (by rintro s h ⟨_, _, h0, _⟩; simp [kD] at h0) ?_
  rintro m2 s h ⟨k5, x9, hr2, hg⟩
  refine AB.ghost hg ?_
  clear hg hL2
  rw [kD] at hr2
  refine zq <| eY rfl rfl <| zn <| AB.seq ?_
  refine zk hr2 rfl (fun h1 hr2 => ?_) (fun h1 hr2 => ?_)
  · refine AB.skip <| Ex.then_mk <| AB.seq <| AB.block <| AB.seq ?_
    obtain ⟨b7, h_2, hr2⟩ := aN hr2
    refine AB.rw <| zw (bP rfl rfl (kH aAi nB h_2)) <| zw (v := (eX b7)) (aI rfl (jM h_2 (bQ (ds := (aX (eI .u8) b7.Out.Tx [(eI .u32 b7.Out.Index), (eI .i64 b7.Output.Value), (.row none 1 (b7.Output.Script.map (eI .u8))), (eI .i64 b7.Height), (eB b7.Coinbase)])) nB rfl zl rfl))) <| zh (v := (.ptr 0 0)) (cK (B := some ⟨46, (aX (eI .u8) (List.replicate 32 0) [(eI .u32 0), (eI .i64 0), (.row (some true) 1 []), (eI .i64 0), (eB false)])⟩) nB rfl rfl) ?_
    refine zN (h' := [some ⟨46, eW b7⟩]) (aU rfl rfl (eR nB rfl rfl rfl zl rfl)) <| zn <| AB.seq ?_
    refine AB.seq_g fun K3 hK3 hG3 => ?_
    have J3 : ∀ (fE : Bool), r7 N l k5 x9 b7 (kD N l m2) fE = some cL → K3 (aV 32 [(4, (eI .i64 k5)), (6, (.ptr 0 0)), (7, (.row none 37 (l.map eX))), (8, (eI .i64 (l.length : Int))), (9, (eI .i64 x9)), (24, (eB fE))]) [some ⟨46, eW b7⟩] := by
      intro fE hr2
      unfold r7 at hr2
      refine hK3 _ _ ?_
      refine zk hr2 rfl (fun h3 hr2 => ?_) (fun h3 hr2 => ?_)
      · refine zq <| zi <| zj <| zn <| AB.ret <| Ex.then_ret_mk <| Ex.inBlock_ret_mk <| Ex.then_ret_mk <| Ex.then_ret_mk <| Ex.inBlock_ret_mk <| Ex.then_ret_mk ?_
        obtain rfl := sj hr2
        obtain rfl := sj hr
        exact vO Tryd.results14 []
      · refine AB.skip <| Ex.then_mk <| AB.rw <| zm rfl <| cQ rfl (v8 ..) <| cQ rfl (mE ..) <| dP rfl rfl uQ rfl <| dG rfl rfl <| za rfl <| OpsW.nil <| Ex.inBlock_mk <| Ex.then_mk <| AB.rw <| dG rfl rfl <| zm rfl <| zn ?_
        exact ⟨IntKind.i64.wrap (k5 + b7.Output.Value), IntKind.i64.wrap (x9 + 1), hr2, (zG [])⟩
    rcases Bool.eq_false_or_eq_true (decide (b7.Output.Value < 0)) with h4 | h4
    · replace hr2 := gE hr2 h4
      refine AB.rw <| cQ rfl (v8 ..) <| cQ rfl (mE ..) <| dP rfl rfl uQ rfl <| eY rfl rfl <| zm rfl <| zx h4 <| zx h4 <| zx h4 <| zx h4 <| zx h4 <| zx h4 <| zw (v := (eB true)) (c9 rfl h4 rfl) <| zn ?_
      exact hG3 _ _ _ _ (zG [0]) (J3 true hr2)
    · replace hr2 := gB hr2 h4
      refine AB.rw <| cQ rfl (v8 ..) <| cQ rfl (mE ..) <| dP rfl rfl uQ rfl <| eY rfl rfl <| zm rfl <| zg (v := (.ptr 0 33)) h4 (eE rfl (v8 ..)) <| zg (v := (.ptr 0 33)) h4 (eE rfl (mE ..)) <| zg (v := (eI .i64 b7.Output.Value)) h4 (aI rfl (bZ rfl (bX uQ rfl rfl))) <| zg h4 (bI rfl) <| zg h4 (a9 rfl rfl (fM ..)) <| zg h4 (a9 rfl rfl (mS ..)) <| oB rfl h4 rfl <| zn ?_
      exact hG3 _ _ _ _ (zG [0]) (J3 (decide ((IntKind.i64.wrap (2100000000000000 - k5)) < b7.Output.Value)) hr2)
  · refine AB.exit <| Ex.then_exit_mk <| Ex.then_exit_mk <| Ex.inBlock_same_mk ?_
    obtain rfl := sj hr2
    refine Ex.then_mk ?_
    exact hG1 _ _ _ _ (zG []) (J1 k5 hr)
theorem aAg (N : Nat) (aC : Int) (aB : List aO) (aA : List aK) (aH : Int) (l : List bD) (r : Int × Int) (hr : r5 N aC aB aA aH l = some r) :
    Vm.Fn Tryd.prog 8 [] [(.agg [(eI .u32 aC), (.row none 35 (aB.map aL)), (.row none 2 (aA.map aM)), (eI .u32 aH)]), (.row none 37 (l.map eX))] (.tup [(eI .i64 r.1), (eI .i64 r.2)]) [] := by
  refine zf Tryd.func8 Tryd.ntmps8 ?_
  unfold r5 at hr
  refine zq <| zh (v := (.ptr 0 0)) (b8 rfl rfl rfl rfl) ?_
  refine zi <| zi <| zn <| AB.seq <| AB.seq ?_
  obtain ⟨bO, h_1, hr⟩ := aN hr
  refine AB.rw <| zw (v := (.agg [(eI .u32 aC), (.row none 35 (aB.map aL)), (.row none 2 (aA.map aM)), (eI .u32 aH)])) (aI rfl (bZ rfl (bQ (ds := [(eI .u32 aC), (.row none 35 (aB.map aL)), (.row none 2 (aA.map aM)), (eI .u32 aH)]) jY rfl zl rfl))) <| wC rfl (Vm.Fn.pure (aHA N aC aB aA aH bO h_1) rfl rfl) <| za rfl <| zn <| zq <| zm rfl <| rE rfl rfl <| zn ?_
  refine zk hr rfl (fun h2 hr => ?_) (fun h2 hr => ?_)
  · refine zq <| zm rfl <| zi <| za rfl <| zn <| AB.ret <| Ex.then_ret_mk ?_
    obtain rfl := sj hr
    exact vO Tryd.results8 []
  · refine AB.skip <| Ex.then_mk <| AB.seq <| zq <| zm rfl <| eT rfl aAi <| cQ rfl (gL ..) <| dP rfl rfl eG rfl <| eT rfl eG <| rE rfl rfl <| zn ?_
    refine zk hr rfl (fun h3 hr => ?_) (fun h3 hr => ?_)
    · refine zq <| zi <| zi <| zn <| AB.ret <| Ex.then_ret_mk ?_
      obtain rfl := sj hr
      exact vO Tryd.results8 []
    · refine AB.skip <| Ex.then_mk ?_
      refine AB.seq_g fun K1 hK1 hG1 => ?_
      have J1 : vD N aC aB aA aH l = some r → K1 (aV 63 [(1, (.row none 37 (l.map eX))), (2, (.ptr 0 0))]) [some ⟨26, [(eI .u32 aC), (.row none 35 (aB.map aL)), (.row none 2 (aA.map aM)), (eI .u32 aH)]⟩] := by
        intro hr
        unfold vD at hr
        refine hK1 _ _ <| AB.seq ?_
        obtain ⟨x43, h_4, hr⟩ := aN hr
        refine AB.rw <| zm rfl <| wC rfl (Vm.Fn.pure (aHg N l x43 h_4) rfl rfl) <| zm rfl <| iW rfl rfl <| iW rfl rfl <| za rfl <| za rfl <| zn <| AB.seq <| zq <| zm rfl <| zw (f9 rfl (dU _ _)) <| zn ?_
        refine zk hr rfl (fun h5 hr => ?_) (fun h5 hr => ?_)
        · refine zq <| zi <| zi <| zn <| AB.ret <| Ex.then_ret_mk ?_
          obtain rfl := sj hr
          exact vO Tryd.results8 []
        · refine AB.skip <| Ex.then_mk ?_
          refine AB.seq_g fun K2 hK2 hG2 => ?_
          have J2 : ∀ (fee : Int), vJ N fee = some r → K2 (aV 63 [(9, (eI .i64 fee))]) [] := by
            intro fee hr
            unfold vJ at hr
            refine hK2 _ _ <| AB.seq <| zq <| zm rfl <| eY rfl rfl <| zn ?_
            refine zk hr rfl (fun h6 hr => ?_) (fun h6 hr => ?_)
            · refine zq <| zi <| zi <| zn <| AB.ret <| Ex.then_ret_mk ?_
              obtain rfl := sj hr
              exact vO Tryd.results8 []
            · refine AB.skip <| Ex.then_mk <| zq <| zm rfl <| za rfl <| zi <| zn <| AB.ret ?_
              obtain rfl := sj hr
              exact vO Tryd.results8 []
          refine zq <| cQ rfl (o7 ..) <| dP rfl rfl jZ rfl <| eT rfl jZ <| zI <| zn ?_
          obtain ⟨j5, hL3, hr⟩ := aN hr
          refine AB.block <| AB.loopN (fun m s h => ∃ (fee_1 : Int) (x51 : Int), lS N aA m fee_1 x51 = some j5 ∧ Ghost 0 s h (aV 63 [(9, (eI .i64 fee_1)), (49, (.row none 2 (aA.map aM))), (50, (eI .i64 (aA.length : Int))), (51, (eI .i64 x51))]) []) (n := N) ⟨x43.1, 0, hL3, (zG [])⟩ (by rintro s h ⟨_, _, h0, _⟩; simp [lS] at h0) ?_
          rintro m3 s h ⟨fee_1, x51, hr3, hg⟩
          refine AB.ghost hg ?_
          clear hg hL3
          rw [lS] at hr3
          refine zq <| eY rfl rfl <| zn <| AB.seq ?_
          refine zk hr3 rfl (fun h7 hr3 => ?_) (fun h7 hr3 => ?_)
          · refine AB.skip <| Ex.then_mk <| AB.seq <| AB.block <| AB.seq ?_
            obtain ⟨x53, h_8, hr3⟩ := aN hr3
            refine AB.rw <| zw (bP rfl rfl (kH jZ iO h_8)) <| zw (v := (.agg [(eI .i64 x53.Value), (.row none 1 (x53.Script.map (eI .u8)))])) (aI rfl (jM h_8 (bQ (ds := [(eI .i64 x53.Value), (.row none 1 (x53.Script.map (eI .u8)))]) iO rfl zl rfl))) <| zh (v := (.ptr 0 0)) (cK (B := some ⟨44, [(eI .i64 0), (.row (some true) 1 [])]⟩) iO rfl rfl) ?_
            refine zt (aU rfl rfl (eR iO rfl rfl rfl zl rfl)) ?_
            refine zn <| AB.rw <| zm rfl <| cQ rfl (mE ..) <| dP rfl rfl uQ rfl <| vP rfl rfl <| za rfl <| OpsW.nil <| Ex.inBlock_mk <| Ex.then_mk <| AB.rw <| dG rfl rfl <| zm rfl <| zn ?_
            exact ⟨IntKind.i64.wrap (fee_1 - x53.Value), IntKind.i64.wrap (x51 + 1), hr3, (zG [])⟩
          · refine AB.exit <| Ex.then_exit_mk <| Ex.then_exit_mk <| Ex.inBlock_same_mk ?_
            obtain rfl := sj hr3
            refine Ex.then_mk ?_
            exact hG2 _ _ _ _ (zG []) (J2 fee_1 hr)
      refine zq <| zm rfl <| eT rfl aAi <| zI <| zn ?_
      obtain ⟨res4, hL4, hr⟩ := aN hr
      refine AB.block <| AB.loopN (fun m s h => ∃ (x26 : Int), lQ N aC aB aA aH l m x26 = some res4 ∧ Ghost 0 s h (aV 63 [(1, (.row none 37 (l.map eX))), (2, (.ptr 0 0)), (24, (.row none 37 (l.map eX))), (25, (eI .i64 (l.length : Int))), (26, (eI .i64 x26))]) [some ⟨26, [(eI .u32 aC), (.row none 35 (aB.map aL)), (.row none 2 (aA.map aM)), (eI .u32 aH)]⟩]) (n := N) ⟨0, hL4, (zG [0])⟩ (by rintro s h ⟨_, h0, _⟩; simp [lQ] at h0) ?_
      rintro m4 s h ⟨x26, hr4, hg⟩
      refine AB.ghost hg ?_
      clear hg hL4
      rw [lQ] at hr4
      refine zq <| eY rfl rfl <| zn <| AB.seq ?_
      refine zk hr4 rfl (fun h9 hr4 => ?_) (fun h9 hr4 => ?_)
      · refine AB.skip <| Ex.then_mk <| AB.seq <| AB.block <| AB.seq ?_
        obtain ⟨x29, h_10, hr4⟩ := aN hr4
        refine AB.rw <| zm rfl <| zw (bP rfl rfl (kH aAi nB h_10)) <| zw (v := (eX x29)) (aI rfl (jM h_10 (bQ (ds := (aX (eI .u8) x29.Out.Tx [(eI .u32 x29.Out.Index), (eI .i64 x29.Output.Value), (.row none 1 (x29.Output.Script.map (eI .u8))), (eI .i64 x29.Height), (eB x29.Coinbase)])) nB rfl zl rfl))) <| zh (v := (.ptr 1 0)) (cK (B := some ⟨46, (aX (eI .u8) (List.replicate 32 0) [(eI .u32 0), (eI .i64 0), (.row (some true) 1 []), (eI .i64 0), (eB false)])⟩) nB rfl rfl) ?_
        refine za rfl <| zN (h' := [some ⟨26, [(eI .u32 aC), (.row none 35 (aB.map aL)), (.row none 2 (aA.map aM)), (eI .u32 aH)]⟩, some ⟨46, eW x29⟩]) (aU rfl rfl (eR nB rfl rfl rfl zl rfl)) <| zn <| AB.seq ?_
        obtain ⟨x36, h_11, hr4⟩ := aN hr4
        refine AB.rg E0 (fun _ => by show dR (fun _ => false) _ = true; decide +kernel) <| tS (v := (.ptr 1 0)) (sv (eE rfl (aH9 ..))) <| tS (v := (jQ x29.Out)) (sv (aI rfl (bZ rfl (bQ (ds := (aX (eI .u8) x29.Out.Tx [(eI .u32 x29.Out.Index)])) jA rfl zl rfl)))) <| tS (v := (.ptr 0 1)) (sv (eE rfl (gL ..))) <| tS (v := (.row none 35 (aB.map aL))) (sv (aI rfl (bZ rfl (bX eG rfl rfl)))) <| tS (sv (bI rfl)) <| tS (sv (bP rfl rfl (kH eG gD h_11))) <| tS (sv (eE rfl (aEP ..))) ?_
        refine tS (v := (jQ x36.Prev)) (sv (aI rfl (jM h_11 (bQ (ds := (aX (eI .u8) x36.Prev.Tx [(eI .u32 x36.Prev.Index)])) jA rfl zl rfl)))) <| tS (sv (a9 rfl rfl (aG7 (d := 9) jA rfl aIi zl aJY rfl rfl rfl rfl rfl))) <| OpsTo.nil <| Ex.then_mk ?_
        refine zk hr4 rfl (fun h12 hr4 => ?_) (fun h12 hr4 => ?_)
        · refine zq <| zi <| zi <| zn <| AB.ret <| Ex.inBlock_ret_mk <| Ex.then_ret_mk <| Ex.then_ret_mk <| Ex.inBlock_ret_mk <| Ex.then_ret_mk ?_
          obtain rfl := sj hr4
          obtain rfl := sj hr
          exact vO Tryd.results8 []
        · refine AB.skip <| Ex.inBlock_mk <| Ex.then_mk <| AB.rw <| dG rfl rfl <| zm rfl <| zn ?_
          exact ⟨IntKind.i64.wrap (x26 + 1), hr4, (zG [0])⟩
      · refine AB.exit <| Ex.then_exit_mk <| Ex.then_exit_mk <| Ex.inBlock_same_mk ?_
        obtain rfl := sj hr4
        refine Ex.then_mk ?_
        exact hG1 _ _ _ _ (zG [0]) (J1 hr)
theorem aF8 (N : Nat) (r : Bool) (hr : yT N = some r) :
    Vm.Fn Tryd.prog 4 [] [] (eB r) [] := by
  refine zf Tryd.func4 Tryd.ntmps4 ?_
  unfold yT at hr
  refine zq <| zj <| zn <| zq <| zw (v := (.agg (aX (eI .u8) (List.replicate 32 0) [(eI .u32 1)]))) (cI rfl (lL jA aGx rfl)) <| zw (v := (.agg (aX (eI .u8) (List.replicate 32 0) [(eI .u32 2)]))) (cI rfl (lL jA aGx rfl)) <| zh (v := (.ptr 0 0)) (cK (B := some ⟨38, (aX (eI .u8) (List.replicate 32 0) [(eI .u32 0)])⟩) jA rfl rfl) ?_
  refine zh (v := (.ptr 1 0)) (cK (B := some ⟨38, (aX (eI .u8) (List.replicate 32 0) [(eI .u32 0)])⟩) jA rfl rfl) ?_
  refine zN (h' := [some ⟨38, (aX (eI .u8) (List.replicate 32 0) [(eI .u32 1)])⟩, some ⟨38, (aX (eI .u8) (List.replicate 32 0) [(eI .u32 0)])⟩]) (aU rfl rfl (eR jA rfl rfl rfl zl rfl)) <| zN (h' := [some ⟨38, (aX (eI .u8) (List.replicate 32 0) [(eI .u32 1)])⟩, some ⟨38, (aX (eI .u8) (List.replicate 32 0) [(eI .u32 2)])⟩]) (aU rfl rfl (eR jA rfl rfl rfl zl rfl)) <| zn <| zq <| zw (v := (.agg (aX (eI .u8) (List.replicate 32 0) [(eI .u32 1)]))) (aI rfl (bZ rfl (bQ (ds := (aX (eI .u8) (List.replicate 32 0) [(eI .u32 1)])) jA rfl zl rfl))) ?_
  refine zw (v := (.agg (aX (eI .u8) (List.replicate 32 0) [(eI .u32 1), (eI .u32 0), (.row (some true) 1 [])]))) (cI rfl (lL gD aLW rfl)) <| zw (v := (.agg (aX (eI .u8) (List.replicate 32 0) [(eI .u32 2)]))) (aI rfl (bZ rfl (bQ (ds := (aX (eI .u8) (List.replicate 32 0) [(eI .u32 2)])) jA rfl zl rfl))) <| zw (v := (.agg (aX (eI .u8) (List.replicate 32 0) [(eI .u32 2), (eI .u32 0), (.row (some true) 1 [])]))) (cI rfl (lL gD aLW rfl)) ?_
  refine OpsW.ghost (Ghost.weak (fr' := [(0, (eB false)), (1, (.ptr 0 0)), (2, (.ptr 1 0)), (9, (.agg (aX (eI .u8) (List.replicate 32 0) [(eI .u32 1)]))), (10, (.agg (aX (eI .u8) (List.replicate 32 0) [(eI .u32 2)]))), (11, (.agg (aX (eI .u8) (List.replicate 32 0) [(eI .u32 1)]))), (12, (.agg (aX (eI .u8) (List.replicate 32 0) [(eI .u32 1), (eI .u32 0), (.row none 1 ([].map (eL 1 (eI .u8))))]))), (13, (.agg (aX (eI .u8) (List.replicate 32 0) [(eI .u32 2)]))), (14, (.agg (aX (eI .u8) (List.replicate 32 0) [(eI .u32 2), (eI .u32 0), (.row (some true) 1 [])])))]) (FLe.same rfl (FLe.same rfl (FLe.same rfl (FLe.same rfl (FLe.same rfl (FLe.same rfl (FLe.le rfl (V.le_agg (r6 (V.les_cons (V.le_refl _ _) (V.les_cons (V.le_refl _ _) (V.les_cons V.le_nil V.les_nil))))) (FLe.same rfl (FLe.same rfl FLe.nil)))))))))) ?_
  refine OpsW.ghost (Ghost.weak (fr' := [(0, (eB false)), (1, (.ptr 0 0)), (2, (.ptr 1 0)), (9, (.agg (aX (eI .u8) (List.replicate 32 0) [(eI .u32 1)]))), (10, (.agg (aX (eI .u8) (List.replicate 32 0) [(eI .u32 2)]))), (11, (.agg (aX (eI .u8) (List.replicate 32 0) [(eI .u32 1)]))), (12, (.agg (aX (eI .u8) (List.replicate 32 0) [(eI .u32 1), (eI .u32 0), (.row none 1 ([].map (eL 1 (eI .u8))))]))), (13, (.agg (aX (eI .u8) (List.replicate 32 0) [(eI .u32 2)]))), (14, (.agg (aX (eI .u8) (List.replicate 32 0) [(eI .u32 2), (eI .u32 0), (.row none 1 ([].map (eL 1 (eI .u8))))])))]) (FLe.same rfl (FLe.same rfl (FLe.same rfl (FLe.same rfl (FLe.same rfl (FLe.same rfl (FLe.same rfl (FLe.same rfl (FLe.le rfl (V.le_agg (r6 (V.les_cons (V.le_refl _ _) (V.les_cons (V.le_refl _ _) (V.les_cons V.le_nil V.les_nil))))) FLe.nil)))))))))) ?_
  refine zw (v := (.sl 2 0 2 35 true)) (h' := [some ⟨38, (aX (eI .u8) (List.replicate 32 0) [(eI .u32 1)])⟩, some ⟨38, (aX (eI .u8) (List.replicate 32 0) [(eI .u32 2)])⟩, some ⟨41, [(aO.mk (aY.mk (List.replicate 32 0) 1) 0 []), (aO.mk (aY.mk (List.replicate 32 0) 2) 0 [])].flatMap cH⟩]) (e9 rfl (aBo (C := cH) (xs := [(aO.mk (aY.mk (List.replicate 32 0) 1) 0 []), (aO.mk (aY.mk (List.replicate 32 0) 2) 0 [])]) (K := 35) (fun _ => rfl) (fun _ => rfl) eG gD ⟨zl, zl, zl⟩ rfl rfl rfl rfl rfl rfl)) ?_
  refine zw (v := (.agg [(eI .i64 10), (.row (some true) 1 [])])) (cI rfl (lL iO aKs rfl)) ?_
  refine OpsW.ghost (Ghost.weak (fr' := [(0, (eB false)), (1, (.ptr 0 0)), (2, (.ptr 1 0)), (9, (.agg (aX (eI .u8) (List.replicate 32 0) [(eI .u32 1)]))), (10, (.agg (aX (eI .u8) (List.replicate 32 0) [(eI .u32 2)]))), (11, (.agg (aX (eI .u8) (List.replicate 32 0) [(eI .u32 1)]))), (12, (.agg (aX (eI .u8) (List.replicate 32 0) [(eI .u32 1), (eI .u32 0), (.row none 1 ([].map (eL 1 (eI .u8))))]))), (13, (.agg (aX (eI .u8) (List.replicate 32 0) [(eI .u32 2)]))), (14, (.agg (aX (eI .u8) (List.replicate 32 0) [(eI .u32 2), (eI .u32 0), (.row none 1 ([].map (eL 1 (eI .u8))))]))), (15, (.sl 2 0 2 35 true)), (16, (.agg [(eI .i64 10), (.row none 1 ([].map (eI .u8)))]))]) (FLe.same rfl (FLe.same rfl (FLe.same rfl (FLe.same rfl (FLe.same rfl (FLe.same rfl (FLe.same rfl (FLe.same rfl (FLe.same rfl (FLe.same rfl (FLe.le rfl (V.le_agg (V.les_cons (V.le_refl _ _) (V.les_cons V.le_nil V.les_nil))) FLe.nil)))))))))))) ?_
  refine zw (v := (.sl 3 0 1 2 true)) (h' := [some ⟨38, (aX (eI .u8) (List.replicate 32 0) [(eI .u32 1)])⟩, some ⟨38, (aX (eI .u8) (List.replicate 32 0) [(eI .u32 2)])⟩, some ⟨41, [(aO.mk (aY.mk (List.replicate 32 0) 1) 0 []), (aO.mk (aY.mk (List.replicate 32 0) 2) 0 [])].flatMap cH⟩, some ⟨44, [(aK.mk 10 [])].flatMap eF⟩]) (e9 rfl (aBo (C := eF) (xs := [(aK.mk 10 [])]) (K := 2) (fun _ => rfl) (fun _ => rfl) jZ iO ⟨zl, zl, zl⟩ rfl rfl rfl rfl rfl rfl)) ?_
  refine zw (v := (.agg [(eI .u32 0), (.sl 2 0 2 35 true), (.sl 3 0 1 2 true), (eI .u32 0)])) (cI rfl (lL jY aNk rfl)) <| zh (v := (.ptr 4 0)) (cK (B := some ⟨26, [(eI .u32 0), (.row (some true) 1 []), (.row (some true) 1 []), (eI .u32 0)]⟩) jY rfl rfl) ?_
  refine zN (h' := [some ⟨38, (aX (eI .u8) (List.replicate 32 0) [(eI .u32 1)])⟩, some ⟨38, (aX (eI .u8) (List.replicate 32 0) [(eI .u32 2)])⟩, some ⟨41, [(aO.mk (aY.mk (List.replicate 32 0) 1) 0 []), (aO.mk (aY.mk (List.replicate 32 0) 2) 0 [])].flatMap cH⟩, some ⟨44, [(aK.mk 10 [])].flatMap eF⟩, some ⟨26, [(eI .u32 0), (.sl 2 0 2 35 true), (.sl 3 0 1 2 true), (eI .u32 0)]⟩]) (aU rfl rfl (eR jY rfl rfl rfl zl rfl)) <| zn <| zq ?_
  refine zw (v := (.agg (aX (eI .u8) (List.replicate 32 0) [(eI .u32 1)]))) (aI rfl (bZ rfl (bQ (ds := (aX (eI .u8) (List.replicate 32 0) [(eI .u32 1)])) jA rfl zl rfl))) <| zw (v := (.agg [(eI .i64 5), (.row (some true) 1 [])])) (cI rfl (lL iO aKs rfl)) <| zw (v := (.agg (aX (eI .u8) (List.replicate 32 0) [(eI .u32 1), (eI .i64 5), (.row (some true) 1 []), (eI .i64 0), (eB false)]))) (cI rfl (lL nB aLY rfl)) ?_
  refine zw (v := (.agg (aX (eI .u8) (List.replicate 32 0) [(eI .u32 2)]))) (aI rfl (bZ rfl (bQ (ds := (aX (eI .u8) (List.replicate 32 0) [(eI .u32 2)])) jA rfl zl rfl))) <| zw (v := (.agg [(eI .i64 7), (.row (some true) 1 [])])) (cI rfl (lL iO aKs rfl)) <| zw (v := (.agg (aX (eI .u8) (List.replicate 32 0) [(eI .u32 2), (eI .i64 7), (.row (some true) 1 []), (eI .i64 0), (eB false)]))) (cI rfl (lL nB aLY rfl)) ?_
  refine OpsW.ghost (Ghost.weak (fr' := [(0, (eB false)), (1, (.ptr 0 0)), (2, (.ptr 1 0)), (3, (.ptr 4 0)), (9, (.agg (aX (eI .u8) (List.replicate 32 0) [(eI .u32 1)]))), (10, (.agg (aX (eI .u8) (List.replicate 32 0) [(eI .u32 2)]))), (11, (.agg (aX (eI .u8) (List.replicate 32 0) [(eI .u32 1)]))), (12, (.agg (aX (eI .u8) (List.replicate 32 0) [(eI .u32 1), (eI .u32 0), (.row none 1 ([].map (eL 1 (eI .u8))))]))), (13, (.agg (aX (eI .u8) (List.replicate 32 0) [(eI .u32 2)]))), (14, (.agg (aX (eI .u8) (List.replicate 32 0) [(eI .u32 2), (eI .u32 0), (.row none 1 ([].map (eL 1 (eI .u8))))]))), (15, (.sl 2 0 2 35 true)), (16, (.agg [(eI .i64 10), (.row none 1 ([].map (eI .u8)))])), (17, (.sl 3 0 1 2 true)), (18, (.agg [(eI .u32 0), (.sl 2 0 2 35 true), (.sl 3 0 1 2 true), (eI .u32 0)])), (19, (.agg (aX (eI .u8) (List.replicate 32 0) [(eI .u32 1)]))), (20, (.agg [(eI .i64 5), (.row (some true) 1 [])])), (21, (.agg (aX (eI .u8) (List.replicate 32 0) [(eI .u32 1), (eI .i64 5), (.row none 1 ([].map (eI .u8))), (eI .i64 0), (eB false)]))), (22, (.agg (aX (eI .u8) (List.replicate 32 0) [(eI .u32 2)]))), (23, (.agg [(eI .i64 7), (.row (some true) 1 [])])), (24, (.agg (aX (eI .u8) (List.replicate 32 0) [(eI .u32 2), (eI .i64 7), (.row (some true) 1 []), (eI .i64 0), (eB false)])))]) (FLe.same rfl (FLe.same rfl (FLe.same rfl (FLe.same rfl (FLe.same rfl (FLe.same rfl (FLe.same rfl (FLe.same rfl (FLe.same rfl (FLe.same rfl (FLe.same rfl (FLe.same rfl (FLe.same rfl (FLe.same rfl (FLe.same rfl (FLe.same rfl (FLe.le rfl (V.le_agg (r6 (V.les_cons (V.le_refl _ _) (V.les_cons (V.le_refl _ _) (V.les_cons V.le_nil (V.les_cons (V.le_refl _ _) (V.les_cons (V.le_refl _ _) V.les_nil))))))) (FLe.same rfl (FLe.same rfl (FLe.same rfl FLe.nil))))))))))))))))))))) ?_
  refine OpsW.ghost (Ghost.weak (fr' := [(0, (eB false)), (1, (.ptr 0 0)), (2, (.ptr 1 0)), (3, (.ptr 4 0)), (9, (.agg (aX (eI .u8) (List.replicate 32 0) [(eI .u32 1)]))), (10, (.agg (aX (eI .u8) (List.replicate 32 0) [(eI .u32 2)]))), (11, (.agg (aX (eI .u8) (List.replicate 32 0) [(eI .u32 1)]))), (12, (.agg (aX (eI .u8) (List.replicate 32 0) [(eI .u32 1), (eI .u32 0), (.row none 1 ([].map (eL 1 (eI .u8))))]))), (13, (.agg (aX (eI .u8) (List.replicate 32 0) [(eI .u32 2)]))), (14, (.agg (aX (eI .u8) (List.replicate 32 0) [(eI .u32 2), (eI .u32 0), (.row none 1 ([].map (eL 1 (eI .u8))))]))), (15, (.sl 2 0 2 35 true)), (16, (.agg [(eI .i64 10), (.row none 1 ([].map (eI .u8)))])), (17, (.sl 3 0 1 2 true)), (18, (.agg [(eI .u32 0), (.sl 2 0 2 35 true), (.sl 3 0 1 2 true), (eI .u32 0)])), (19, (.agg (aX (eI .u8) (List.replicate 32 0) [(eI .u32 1)]))), (20, (.agg [(eI .i64 5), (.row (some true) 1 [])])), (21, (.agg (aX (eI .u8) (List.replicate 32 0) [(eI .u32 1), (eI .i64 5), (.row none 1 ([].map (eI .u8))), (eI .i64 0), (eB false)]))), (22, (.agg (aX (eI .u8) (List.replicate 32 0) [(eI .u32 2)]))), (23, (.agg [(eI .i64 7), (.row (some true) 1 [])])), (24, (.agg (aX (eI .u8) (List.replicate 32 0) [(eI .u32 2), (eI .i64 7), (.row none 1 ([].map (eI .u8))), (eI .i64 0), (eB false)])))]) (FLe.same rfl (FLe.same rfl (FLe.same rfl (FLe.same rfl (FLe.same rfl (FLe.same rfl (FLe.same rfl (FLe.same rfl (FLe.same rfl (FLe.same rfl (FLe.same rfl (FLe.same rfl (FLe.same rfl (FLe.same rfl (FLe.same rfl (FLe.same rfl (FLe.same rfl (FLe.same rfl (FLe.same rfl (FLe.le rfl (V.le_agg (r6 (V.les_cons (V.le_refl _ _) (V.les_cons (V.le_refl _ _) (V.les_cons V.le_nil (V.les_cons (V.le_refl _ _) (V.les_cons (V.le_refl _ _) V.les_nil))))))) FLe.nil))))))))))))))))))))) ?_
  refine zw (v := (.sl 5 0 2 37 true)) (h' := [some ⟨38, (aX (eI .u8) (List.replicate 32 0) [(eI .u32 1)])⟩, some ⟨38, (aX (eI .u8) (List.replicate 32 0) [(eI .u32 2)])⟩, some ⟨41, [(aO.mk (aY.mk (List.replicate 32 0) 1) 0 []), (aO.mk (aY.mk (List.replicate 32 0) 2) 0 [])].flatMap cH⟩, some ⟨44, [(aK.mk 10 [])].flatMap eF⟩, some ⟨26, [(eI .u32 0), (.sl 2 0 2 35 true), (.sl 3 0 1 2 true), (eI .u32 0)]⟩, some ⟨46, [(bD.mk (aY.mk (List.replicate 32 0) 1) (aK.mk 5 []) 0 false), (bD.mk (aY.mk (List.replicate 32 0) 2) (aK.mk 7 []) 0 false)].flatMap eW⟩]) (e9 rfl (aBo (C := eW) (xs := [(bD.mk (aY.mk (List.replicate 32 0) 1) (aK.mk 5 []) 0 false), (bD.mk (aY.mk (List.replicate 32 0) 2) (aK.mk 7 []) 0 false)]) (K := 37) (fun _ => rfl) (fun _ => rfl) aAi nB ⟨zl, zl, zl⟩ rfl rfl rfl rfl rfl rfl)) ?_
  refine za rfl <| zn <| AB.seq ?_
  obtain ⟨x29, h_1, hr⟩ := aN hr
  refine AB.rw <| zw (v := (.agg [(eI .u32 0), (.sl 2 0 2 35 true), (.sl 3 0 1 2 true), (eI .u32 0)])) (aI rfl (bZ rfl (bQ (ds := [(eI .u32 0), (.sl 2 0 2 35 true), (.sl 3 0 1 2 true), (eI .u32 0)]) jY rfl zl rfl))) <| zm rfl ?_
  refine wC (v := (.tup [(eI .i64 x29.1), (eI .i64 x29.2)])) (h' := [some ⟨38, (aX (eI .u8) (List.replicate 32 0) [(eI .u32 1)])⟩, some ⟨38, (aX (eI .u8) (List.replicate 32 0) [(eI .u32 2)])⟩, some ⟨41, [(aO.mk (aY.mk (List.replicate 32 0) 1) 0 []), (aO.mk (aY.mk (List.replicate 32 0) 2) 0 [])].flatMap cH⟩, some ⟨44, [(aK.mk 10 [])].flatMap eF⟩, some ⟨26, [(eI .u32 0), (.sl 2 0 2 35 true), (.sl 3 0 1 2 true), (eI .u32 0)]⟩, some ⟨46, [(bD.mk (aY.mk (List.replicate 32 0) 1) (aK.mk 5 []) 0 false), (bD.mk (aY.mk (List.replicate 32 0) 2) (aK.mk 7 []) 0 false)].flatMap eW⟩]) rfl (Vm.Fn.lendR (aAg N 0 [(aO.mk (aY.mk (List.replicate 32 0) 1) 0 []), (aO.mk (aY.mk (List.replicate 32 0) 2) 0 [])] [(aK.mk 10 [])] 0 [(bD.mk (aY.mk (List.replicate 32 0) 1) (aK.mk 5 []) 0 false), (bD.mk (aY.mk (List.replicate 32 0) 2) (aK.mk 7 []) 0 false)] x29 h_1) [] [2, 3, 5] (by decide) rfl (by decide) Lend.nil (Brw.row (aHV (rU rfl (rU (aA8 (d := 3) (C := cH) (fun _ => rfl) zl rfl rfl (fun _ => rfl)) (rU (aA8 (d := 3) (C := eF) (fun _ => rfl) zl rfl rfl (fun _ => rfl)) (rU rfl aH8))))) (Brw.row (aDE (C := eW) (fun _ => rfl) zl rfl rfl (fun _ => rfl)) Brw.nil)) rfl rfB.nil rfl zH) ?_
  refine zm rfl <| iW rfl rfl <| iW rfl rfl <| za rfl <| za rfl <| zn <| AB.seq ?_
  obtain ⟨gO, h_2, hr⟩ := aN hr
  refine AB.rw <| cQ rfl (o7 ..) <| dP rfl rfl jZ rfl <| zw (v := (.ptr 3 (0 + Int.toNat 0 * 2))) (bP rfl rfl (aE1 (K := 2) rfl jZ iO rfl h_2)) <| cQ rfl (mE ..) ?_
  refine zN (h' := [some ⟨38, (aX (eI .u8) (List.replicate 32 0) [(eI .u32 1)])⟩, some ⟨38, (aX (eI .u8) (List.replicate 32 0) [(eI .u32 2)])⟩, some ⟨41, [(aO.mk (aY.mk (List.replicate 32 0) 1) 0 []), (aO.mk (aY.mk (List.replicate 32 0) 2) 0 [])].flatMap cH⟩, some ⟨44, ([(aK.mk 10 [])].set (Int.toNat 0) (aK.mk 13 gO.Script)).flatMap eF⟩, some ⟨26, [(eI .u32 0), (.sl 2 0 2 35 true), (.sl 3 0 1 2 true), (eI .u32 0)]⟩, some ⟨46, [(bD.mk (aY.mk (List.replicate 32 0) 1) (aK.mk 5 []) 0 false), (bD.mk (aY.mk (List.replicate 32 0) 2) (aK.mk 7 []) 0 false)].flatMap eW⟩]) (aU rfl rfl (aLP (C := eF) (K := 2) (off := 0) (fun _ => rfl) uQ rfl h_2 rfl rfl zl rfl rfl)) ?_
  refine zn <| AB.seq ?_
  obtain ⟨x39, h_3, hr⟩ := aN hr
  refine AB.rw <| zw (v := (.agg [(eI .u32 0), (.sl 2 0 2 35 true), (.sl 3 0 1 2 true), (eI .u32 0)])) (aI rfl (bZ rfl (bQ (ds := [(eI .u32 0), (.sl 2 0 2 35 true), (.sl 3 0 1 2 true), (eI .u32 0)]) jY rfl zl rfl))) <| zm rfl ?_
  refine wC (v := (.tup [(eI .i64 x39.1), (eI .i64 x39.2)])) (h' := [some ⟨38, (aX (eI .u8) (List.replicate 32 0) [(eI .u32 1)])⟩, some ⟨38, (aX (eI .u8) (List.replicate 32 0) [(eI .u32 2)])⟩, some ⟨41, [(aO.mk (aY.mk (List.replicate 32 0) 1) 0 []), (aO.mk (aY.mk (List.replicate 32 0) 2) 0 [])].flatMap cH⟩, some ⟨44, ([(aK.mk 10 [])].set (Int.toNat 0) (aK.mk 13 gO.Script)).flatMap eF⟩, some ⟨26, [(eI .u32 0), (.sl 2 0 2 35 true), (.sl 3 0 1 2 true), (eI .u32 0)]⟩, some ⟨46, [(bD.mk (aY.mk (List.replicate 32 0) 1) (aK.mk 5 []) 0 false), (bD.mk (aY.mk (List.replicate 32 0) 2) (aK.mk 7 []) 0 false)].flatMap eW⟩]) rfl (Vm.Fn.lendR (aAg N 0 [(aO.mk (aY.mk (List.replicate 32 0) 1) 0 []), (aO.mk (aY.mk (List.replicate 32 0) 2) 0 [])] ([(aK.mk 10 [])].set (Int.toNat 0) (aK.mk 13 gO.Script)) 0 [(bD.mk (aY.mk (List.replicate 32 0) 1) (aK.mk 5 []) 0 false), (bD.mk (aY.mk (List.replicate 32 0) 2) (aK.mk 7 []) 0 false)] x39 h_3) [] [2, 3, 5] (by decide) rfl (by decide) Lend.nil (Brw.row (aHV (rU rfl (rU (aA8 (d := 3) (C := cH) (fun _ => rfl) zl rfl rfl (fun _ => rfl)) (rU (aA8 (d := 3) (C := eF) (fun _ => rfl) zl rfl rfl (fun _ => rfl)) (rU rfl aH8))))) (Brw.row (aDE (C := eW) (fun _ => rfl) zl rfl rfl (fun _ => rfl)) Brw.nil)) rfl rfB.nil rfl zH) ?_
  refine zm rfl <| iW rfl rfl <| iW rfl rfl <| za rfl <| za rfl <| zn ?_
  refine AB.seq_g fun K1 hK1 hG1 => ?_
  have J1 : ∀ (x0 : Bool), qA N x0 = some r → K1 (aV 52 [(0, (eB x0))]) [] := by
    intro x0 hr
    unfold qA at hr
    refine hK1 _ _ <| AB.ret ?_
    obtain rfl := sj hr
    exact bW Tryd.results4 []
  rcases Bool.eq_false_or_eq_true (x29.2 == 0) with h4 | h4
  · replace hr := gE hr h4
    rcases Bool.eq_false_or_eq_true (x29.1 == 2) with h5 | h5
    · replace hr := gE hr h5
      refine AB.rw <| zm rfl <| hZ rfl rfl <| zm rfl <| zg h4 (bI rfl) <| zg h4 (a9 rfl rfl (qQ ..)) <| zpT rfl h4 rfl <| zm rfl <| zg h5 (bI rfl) <| zg h5 (a9 rfl rfl (qQ ..)) <| zpT rfl h5 rfl <| za rfl <| zn ?_
      exact hG1 _ _ _ _ (zG []) (J1 (x39.2 == 100) hr)
    · replace hr := gB hr h5
      refine AB.rw <| zm rfl <| hZ rfl rfl <| zm rfl <| zg h4 (bI rfl) <| zg h4 (a9 rfl rfl (qQ ..)) <| zpT rfl h4 rfl <| zm rfl <| zx h5 <| zx h5 <| zw (v := (eB false)) (fV rfl h5 rfl) <| za rfl <| zn ?_
      exact hG1 _ _ _ _ (zG []) (J1 false hr)
  · replace hr := gB hr h4
    refine AB.rw <| zm rfl <| hZ rfl rfl <| zm rfl <| zx h4 <| zx h4 <| zw (v := (eB false)) (fV rfl h4 rfl) <| zm rfl <| zx rfl <| zx rfl <| zw (v := (eB false)) (fV rfl rfl rfl) <| za rfl <| zn ?_
    exact hG1 _ _ _ _ (zG []) (J1 false hr)
theorem aF7 (N : Nat) (l : List (List Int)) (vn : Int) (vm : Int) (r : Bool) (hr : vI N l vn vm = some r) :
    Vm.Fn Tryd.prog 9 [] [(.row none 1 (l.map (eL 1 (eI .u8)))), (eI .i64 vn), (eI .i64 vm)] (eB r) [] := by
  refine zf Tryd.func9 Tryd.ntmps9 ?_
  unfold vI at hr
  refine zq <| zj <| zn <| AB.seq <| zq <| zm rfl <| eT rfl b5 <| zm rfl <| sC rfl rfl <| zn ?_
  refine zk hr rfl (fun h1 hr => ?_) (fun h1 hr => ?_)
  · refine zq <| zj <| zn <| AB.ret <| Ex.then_ret_mk ?_
    obtain rfl := sj hr
    exact bW Tryd.results9 []
  · refine AB.skip <| Ex.then_mk ?_
    refine AB.seq_g fun K1 hK1 hG1 => ?_
    have J1 : xW N = some r → K1 (aV 24 []) [] := by
      intro hr
      unfold xW at hr
      refine hK1 _ _ <| zq <| zj <| zn <| AB.ret ?_
      obtain rfl := sj hr
      exact bW Tryd.results9 []
    refine zq <| zm rfl <| eT rfl b5 <| zI <| zn ?_
    obtain ⟨cL, hL2, hr⟩ := aN hr
    refine AB.block <| AB.loopN (fun m s h => ∃ (x15 : Int), kT N l vm m x15 = some cL ∧ Ghost 0 s h (aV 24 [(2, (eI .i64 vm)), (13, (.row none 1 (l.map (eL 1 (eI .u8))))), (14, (eI .i64 (l.length : Int))), (15, (eI .i64 x15))]) []) (n := N) ⟨0, hL2, (zG [])⟩ (by rintro s h ⟨_, h0, _⟩; simp [kT] at h0) ?_
    rintro m2 s h ⟨x15, hr2, hg⟩
    refine AB.ghost hg ?_
    clear hg hL2
    rw [kT] at hr2
    refine zq <| eY rfl rfl <| zn <| AB.seq ?_
    refine zk hr2 rfl (fun h2 hr2 => ?_) (fun h2 hr2 => ?_)
    · refine AB.skip <| Ex.then_mk <| AB.seq <| AB.block <| AB.seq ?_
      obtain ⟨x17, h_3, hr2⟩ := aN hr2
      refine AB.rw <| zw (bP rfl rfl (kH b5 bG h_3)) <| zw (v := (.row none 1 (x17.map (eI .u8)))) (aI rfl (jM h_3 (bX bG rfl rfl))) <| za rfl <| zn <| zq <| zm rfl <| eT rfl bG <| zm rfl <| sC rfl rfl <| zn ?_
      refine zk hr2 rfl (fun h4 hr2 => ?_) (fun h4 hr2 => ?_)
      · refine zq <| zj <| zn <| AB.ret <| Ex.inBlock_ret_mk <| Ex.then_ret_mk <| Ex.then_ret_mk <| Ex.inBlock_ret_mk <| Ex.then_ret_mk ?_
        obtain rfl := sj hr2
        obtain rfl := sj hr
        exact bW Tryd.results9 []
      · refine AB.skip <| Ex.inBlock_mk <| Ex.then_mk <| AB.rw <| dG rfl rfl <| zm rfl <| zn ?_
        exact ⟨IntKind.i64.wrap (x15 + 1), hr2, (zG [])⟩
    · refine AB.exit <| Ex.then_exit_mk <| Ex.then_exit_mk <| Ex.inBlock_same_mk ?_
      obtain rfl := sj hr2
      refine Ex.then_mk ?_
      exact hG1 _ _ _ _ (zG []) (J1 hr)
theorem yH (N : Nat) (aC : Int) (aB : List aO) (aA : List aK) (aH : Int) (r : Bool) (hr : aA9 N aC aB aA aH = some r) :
    Vm.Fn Tryd.prog 5 [] [(.agg [(eI .u32 aC), (.row none 35 (aB.map aL)), (.row none 2 (aA.map aM)), (eI .u32 aH)])] (eB r) [] := by
  refine zf Tryd.func5 Tryd.ntmps5 ?_
  unfold aA9 at hr
  refine zq <| zh (v := (.ptr 0 0)) (b8 rfl rfl rfl rfl) ?_
  refine zj <| zn <| AB.seq ?_
  refine AB.seq_g fun K1 hK1 hG1 => ?_
  have J1 : ∀ (x16 : Bool), uU N aC aB aA aH x16 = some r → K1 (aV 41 [(1, (.ptr 0 0)), (16, (eB x16))]) [some ⟨26, [(eI .u32 aC), (.row none 35 (aB.map aL)), (.row none 2 (aA.map aM)), (eI .u32 aH)]⟩] := by
    intro x16 hr
    unfold uU at hr
    refine hK1 _ _ ?_
    refine zk hr rfl (fun h1 hr => ?_) (fun h1 hr => ?_)
    · refine zq <| zj <| zn <| AB.ret <| Ex.then_ret_mk ?_
      obtain rfl := sj hr
      exact bW Tryd.results5 []
    · refine AB.skip <| Ex.then_mk ?_
      refine AB.seq_g fun K2 hK2 hG2 => ?_
      have J2 : yD N aC aB aA aH = some r → K2 (aV 41 [(1, (.ptr 0 0))]) [some ⟨26, [(eI .u32 aC), (.row none 35 (aB.map aL)), (.row none 2 (aA.map aM)), (eI .u32 aH)]⟩] := by
        intro hr
        unfold yD at hr
        refine hK2 _ _ ?_
        refine AB.seq_g fun K3 hK3 hG3 => ?_
        have J3 : aBJ N = some r → K3 (aV 41 []) [] := by
          intro hr
          unfold aBJ at hr
          refine hK3 _ _ <| zq <| zj <| zn <| AB.ret ?_
          obtain rfl := sj hr
          exact bW Tryd.results5 []
        refine zq <| cQ rfl (o7 ..) <| dP rfl rfl jZ rfl <| eT rfl jZ <| zI <| zn ?_
        obtain ⟨res4, hL4, hr⟩ := aN hr
        refine AB.block <| AB.loopN (fun m s h => ∃ (vF : Int), n6 N aA m vF = some res4 ∧ Ghost 0 s h (aV 41 [(30, (.row none 2 (aA.map aM))), (31, (eI .i64 (aA.length : Int))), (32, (eI .i64 vF))]) []) (n := N) ⟨0, hL4, (zG [])⟩ (by rintro s h ⟨_, h0, _⟩; simp [n6] at h0) ?_
        rintro m4 s h ⟨vF, hr4, hg⟩
        refine AB.ghost hg ?_
        clear hg hL4
        rw [n6] at hr4
        refine zq <| eY rfl rfl <| zn <| AB.seq ?_
        refine zk hr4 rfl (fun h2 hr4 => ?_) (fun h2 hr4 => ?_)
        · refine AB.skip <| Ex.then_mk <| AB.seq <| AB.block <| AB.seq ?_
          obtain ⟨gO, h_3, hr4⟩ := aN hr4
          refine AB.rw <| zw (bP rfl rfl (kH jZ iO h_3)) <| zw (v := (.agg [(eI .i64 gO.Value), (.row none 1 (gO.Script.map (eI .u8)))])) (aI rfl (jM h_3 (bQ (ds := [(eI .i64 gO.Value), (.row none 1 (gO.Script.map (eI .u8)))]) iO rfl zl rfl))) <| zh (v := (.ptr 0 0)) (cK (B := some ⟨44, [(eI .i64 0), (.row (some true) 1 [])]⟩) iO rfl rfl) ?_
          refine zt (aU rfl rfl (eR iO rfl rfl rfl zl rfl)) ?_
          refine zn <| zq <| cQ rfl (wI ..) <| dP rfl rfl bG rfl <| eT rfl bG <| sC rfl rfl <| zn ?_
          refine zk hr4 rfl (fun h4 hr4 => ?_) (fun h4 hr4 => ?_)
          · refine zq <| zj <| zn <| AB.ret <| Ex.inBlock_ret_mk <| Ex.then_ret_mk <| Ex.then_ret_mk <| Ex.inBlock_ret_mk <| Ex.then_ret_mk ?_
            obtain rfl := sj hr4
            obtain rfl := sj hr
            exact bW Tryd.results5 []
          · refine AB.skip <| Ex.inBlock_mk <| Ex.then_mk <| AB.rw <| dG rfl rfl <| zm rfl <| zn ?_
            exact ⟨IntKind.i64.wrap (vF + 1), hr4, (zG [])⟩
        · refine AB.exit <| Ex.then_exit_mk <| Ex.then_exit_mk <| Ex.inBlock_same_mk ?_
          obtain rfl := sj hr4
          refine Ex.then_mk ?_
          exact hG3 _ _ _ _ (zG []) (J3 hr)
      refine zq <| cQ rfl (gL ..) <| dP rfl rfl eG rfl <| eT rfl eG <| zI <| zn ?_
      obtain ⟨res5, hL5, hr⟩ := aN hr
      refine AB.block <| AB.loopN (fun m s h => ∃ (dD : Int), nV N aC aB aA aH m dD = some res5 ∧ Ghost 0 s h (aV 41 [(1, (.ptr 0 0)), (18, (.row none 35 (aB.map aL))), (19, (eI .i64 (aB.length : Int))), (20, (eI .i64 dD))]) [some ⟨26, [(eI .u32 aC), (.row none 35 (aB.map aL)), (.row none 2 (aA.map aM)), (eI .u32 aH)]⟩]) (n := N) ⟨0, hL5, (zG [0])⟩ (by rintro s h ⟨_, h0, _⟩; simp [nV] at h0) ?_
      rintro m5 s h ⟨dD, hr5, hg⟩
      refine AB.ghost hg ?_
      clear hg hL5
      rw [nV] at hr5
      refine zq <| eY rfl rfl <| zn <| AB.seq ?_
      refine zk hr5 rfl (fun h5 hr5 => ?_) (fun h5 hr5 => ?_)
      · refine AB.skip <| Ex.then_mk <| AB.seq <| AB.block <| AB.seq ?_
        obtain ⟨d8, h_6, hr5⟩ := aN hr5
        refine AB.rw <| zw (bP rfl rfl (kH eG gD h_6)) <| zw (v := (aL d8)) (aI rfl (jM h_6 (bQ (ds := (aX (eI .u8) d8.Prev.Tx [(eI .u32 d8.Prev.Index), (eI .u32 d8.Sequence), (.row none 1 (d8.Witness.map (eL 1 (eI .u8))))])) gD rfl zl rfl))) <| zh (v := (.ptr 1 0)) (cK (B := some ⟨41, (aX (eI .u8) (List.replicate 32 0) [(eI .u32 0), (eI .u32 0), (.row (some true) 1 [])])⟩) gD rfl rfl) ?_
        refine zN (h' := [some ⟨26, [(eI .u32 aC), (.row none 35 (aB.map aL)), (.row none 2 (aA.map aM)), (eI .u32 aH)]⟩, some ⟨41, cH d8⟩]) (aU rfl rfl (eR gD rfl rfl rfl zl rfl)) <| zn <| AB.seq ?_
        obtain ⟨x26, h_7, hr5⟩ := aN hr5
        refine AB.rw <| cQ rfl (aBa ..) <| dP rfl rfl b5 rfl <| wC rfl (Vm.Fn.pure (aF7 N d8.Witness 40 600 x26 h_7) rfl rfl) <| zw (f9 rfl (dU _ _)) <| zn ?_
        refine zk hr5 rfl (fun h8 hr5 => ?_) (fun h8 hr5 => ?_)
        · refine zq <| zj <| zn <| AB.ret <| Ex.inBlock_ret_mk <| Ex.then_ret_mk <| Ex.then_ret_mk <| Ex.inBlock_ret_mk <| Ex.then_ret_mk ?_
          obtain rfl := sj hr5
          obtain rfl := sj hr
          exact bW Tryd.results5 []
        · refine AB.skip <| Ex.inBlock_mk <| Ex.then_mk <| AB.rw <| dG rfl rfl <| zm rfl <| zn ?_
          exact ⟨IntKind.i64.wrap (dD + 1), hr5, (zG [0])⟩
      · refine AB.exit <| Ex.then_exit_mk <| Ex.then_exit_mk <| Ex.inBlock_same_mk ?_
        obtain rfl := sj hr5
        refine Ex.then_mk ?_
        exact hG2 _ _ _ _ (zG [0]) (J2 hr)
  rcases Bool.eq_false_or_eq_true (decide (70 < (aB.length : Int))) with h9 | h9
  · replace hr := gE hr h9
    refine AB.rw <| cQ rfl (gL ..) <| dP rfl rfl eG rfl <| eT rfl eG <| sC rfl rfl <| zm rfl <| zx h9 <| zx h9 <| zx h9 <| zx h9 <| zw (v := (eB true)) (c9 rfl h9 rfl) <| zn ?_
    exact hG1 _ _ _ _ (zG [0]) (J1 true hr)
  · replace hr := gB hr h9
    refine AB.rw <| cQ rfl (gL ..) <| dP rfl rfl eG rfl <| eT rfl eG <| sC rfl rfl <| zm rfl <| zg (v := (.ptr 0 2)) h9 (eE rfl (o7 ..)) <| zg (v := (.row none 2 (aA.map aM))) h9 (aI rfl (bZ rfl (bX jZ rfl rfl))) <| zg (v := (eI .i64 (aA.length : Int))) h9 (gQ rfl (zP jZ)) <| zg h9 (a9 rfl rfl (mS ..)) <| oB rfl h9 rfl <| zn ?_
    exact hG1 _ _ _ _ (zG [0]) (J1 (decide (70 < (aA.length : Int))) hr)
theorem xT (N : Nat) (l : List bD) (vn : Int) (r : Bool) (hr : uR N l vn = some r) :
    Vm.Fn Tryd.prog 6 [] [(.row none 37 (l.map eX)), (eI .i64 vn)] (eB r) [] := by
  refine zf Tryd.func6 Tryd.ntmps6 ?_
  unfold uR at hr
  refine zq <| zj <| zn <| AB.seq <| zq <| zm rfl <| eT rfl aAi <| zm rfl <| sC rfl rfl <| zn ?_
  refine zk hr rfl (fun h1 hr => ?_) (fun h1 hr => ?_)
  · refine zq <| zj <| zn <| AB.ret <| Ex.then_ret_mk ?_
    obtain rfl := sj hr
    exact bW Tryd.results6 []
  · refine AB.skip <| Ex.then_mk ?_
    refine AB.seq_g fun K1 hK1 hG1 => ?_
    have J1 : xV N = some r → K1 (aV 23 []) [] := by
      intro hr
      unfold xV at hr
      refine hK1 _ _ <| zq <| zj <| zn <| AB.ret ?_
      obtain rfl := sj hr
      exact bW Tryd.results6 []
    refine zq <| zm rfl <| eT rfl aAi <| zI <| zn ?_
    obtain ⟨cL, hL2, hr⟩ := aN hr
    refine AB.block <| AB.loopN (fun m s h => ∃ (cJ : Int), kO N l m cJ = some cL ∧ Ghost 0 s h (aV 23 [(11, (.row none 37 (l.map eX))), (12, (eI .i64 (l.length : Int))), (13, (eI .i64 cJ))]) []) (n := N) ⟨0, hL2, (zG [])⟩ (by rintro s h ⟨_, h0, _⟩; simp [kO] at h0) ?_
    rintro m2 s h ⟨cJ, hr2, hg⟩
    refine AB.ghost hg ?_
    clear hg hL2
    rw [kO] at hr2
    refine zq <| eY rfl rfl <| zn <| AB.seq ?_
    refine zk hr2 rfl (fun h2 hr2 => ?_) (fun h2 hr2 => ?_)
    · refine AB.skip <| Ex.then_mk <| AB.seq <| AB.block <| AB.seq ?_
      obtain ⟨x15, h_3, hr2⟩ := aN hr2
      refine AB.rw <| zw (bP rfl rfl (kH aAi nB h_3)) <| zw (v := (eX x15)) (aI rfl (jM h_3 (bQ (ds := (aX (eI .u8) x15.Out.Tx [(eI .u32 x15.Out.Index), (eI .i64 x15.Output.Value), (.row none 1 (x15.Output.Script.map (eI .u8))), (eI .i64 x15.Height), (eB x15.Coinbase)])) nB rfl zl rfl))) <| zh (v := (.ptr 0 0)) (cK (B := some ⟨46, (aX (eI .u8) (List.replicate 32 0) [(eI .u32 0), (eI .i64 0), (.row (some true) 1 []), (eI .i64 0), (eB false)])⟩) nB rfl rfl) ?_
      refine zN (h' := [some ⟨46, eW x15⟩]) (aU rfl rfl (eR nB rfl rfl rfl zl rfl)) <| zn <| zq <| cQ rfl (v8 ..) <| cQ rfl (wI ..) <| dP rfl rfl bG rfl <| eT rfl bG <| sC rfl rfl <| zn ?_
      refine zk hr2 rfl (fun h4 hr2 => ?_) (fun h4 hr2 => ?_)
      · refine zq <| zj <| zn <| AB.ret <| Ex.inBlock_ret_mk <| Ex.then_ret_mk <| Ex.then_ret_mk <| Ex.inBlock_ret_mk <| Ex.then_ret_mk ?_
        obtain rfl := sj hr2
        obtain rfl := sj hr
        exact bW Tryd.results6 []
      · refine AB.skip <| Ex.inBlock_mk <| Ex.then_mk <| AB.rw <| dG rfl rfl <| zm rfl <| zn ?_
        exact ⟨IntKind.i64.wrap (cJ + 1), hr2, (zG [])⟩
    · refine AB.exit <| Ex.then_exit_mk <| Ex.then_exit_mk <| Ex.inBlock_same_mk ?_
      obtain rfl := sj hr2
      refine Ex.then_mk ?_
      exact hG1 _ _ _ _ (zG []) (J1 hr)
theorem aHE (N : Nat) (aC : Int) (aB : List aO) (aA : List aK) (aH : Int) (bR : Int) (r : Bool) (hr : aAa N aC aB aA aH bR = some r) :
    Vm.Fn Tryd.prog 11 [] [(.agg [(eI .u32 aC), (.row none 35 (aB.map aL)), (.row none 2 (aA.map aM)), (eI .u32 aH)]), (eI .i64 bR)] (eB r) [] := by
  refine zf Tryd.func11 Tryd.ntmps11 ?_
  unfold aAa at hr
  refine zq <| zh (v := (.ptr 0 0)) (b8 rfl rfl rfl rfl) ?_
  refine zj <| zn <| AB.seq <| zq <| cQ rfl (aEJ ..) <| dP rfl rfl cA rfl <| zw (dA rfl (cE _ ⟨_, cA⟩ uQ rfl)) <| zm rfl <| zqk rfl rfl <| zn ?_
  refine zk hr rfl (fun h1 hr => ?_) (fun h1 hr => ?_)
  · refine zq <| zj <| zn <| AB.ret <| Ex.then_ret_mk ?_
    obtain rfl := sj hr
    exact bW Tryd.results11 []
  · refine AB.skip <| Ex.then_mk ?_
    refine AB.seq_g fun K1 hK1 hG1 => ?_
    have J1 : aAV N = some r → K1 (aV 23 []) [] := by
      intro hr
      unfold aAV at hr
      refine hK1 _ _ <| zq <| zj <| zn <| AB.ret ?_
      obtain rfl := sj hr
      exact bW Tryd.results11 []
    refine zq <| cQ rfl (gL ..) <| dP rfl rfl eG rfl <| eT rfl eG <| zI <| zn ?_
    obtain ⟨cL, hL2, hr⟩ := aN hr
    refine AB.block <| AB.loopN (fun m s h => ∃ (x15 : Int), mP N aB m x15 = some cL ∧ Ghost 0 s h (aV 23 [(13, (.row none 35 (aB.map aL))), (14, (eI .i64 (aB.length : Int))), (15, (eI .i64 x15))]) []) (n := N) ⟨0, hL2, (zG [])⟩ (by rintro s h ⟨_, h0, _⟩; simp [mP] at h0) ?_
    rintro m2 s h ⟨x15, hr2, hg⟩
    refine AB.ghost hg ?_
    clear hg hL2
    rw [mP] at hr2
    refine zq <| eY rfl rfl <| zn <| AB.seq ?_
    refine zk hr2 rfl (fun h2 hr2 => ?_) (fun h2 hr2 => ?_)
    · refine AB.skip <| Ex.then_mk <| AB.seq <| AB.block <| AB.seq ?_
      obtain ⟨x17, h_3, hr2⟩ := aN hr2
      refine AB.rw <| zw (bP rfl rfl (kH eG gD h_3)) <| zw (v := (aL x17)) (aI rfl (jM h_3 (bQ (ds := (aX (eI .u8) x17.Prev.Tx [(eI .u32 x17.Prev.Index), (eI .u32 x17.Sequence), (.row none 1 (x17.Witness.map (eL 1 (eI .u8))))])) gD rfl zl rfl))) <| zh (v := (.ptr 0 0)) (cK (B := some ⟨41, (aX (eI .u8) (List.replicate 32 0) [(eI .u32 0), (eI .u32 0), (.row (some true) 1 [])])⟩) gD rfl rfl) ?_
      refine zN (h' := [some ⟨41, cH x17⟩]) (aU rfl rfl (eR gD rfl rfl rfl zl rfl)) <| zn <| zq <| cQ rfl (aER ..) <| dP rfl rfl cA rfl <| rE rfl rfl <| zn ?_
      refine zk hr2 rfl (fun h4 hr2 => ?_) (fun h4 hr2 => ?_)
      · refine zq <| zj <| zn <| AB.ret <| Ex.inBlock_ret_mk <| Ex.then_ret_mk <| Ex.then_ret_mk <| Ex.inBlock_ret_mk <| Ex.then_ret_mk ?_
        obtain rfl := sj hr2
        obtain rfl := sj hr
        exact bW Tryd.results11 []
      · refine AB.skip <| Ex.inBlock_mk <| Ex.then_mk <| AB.rw <| dG rfl rfl <| zm rfl <| zn ?_
        exact ⟨IntKind.i64.wrap (x15 + 1), hr2, (zG [])⟩
    · refine AB.exit <| Ex.then_exit_mk <| Ex.then_exit_mk <| Ex.inBlock_same_mk ?_
      obtain rfl := sj hr2
      refine Ex.then_mk ?_
      exact hG1 _ _ _ _ (zG []) (J1 hr)
theorem aG5 (N : Nat) (aC : Int) (aB : List aO) (aA : List aK) (aH : Int) (dI : Bool) (r : (List Int) × Int) (hr : aAu N aC aB aA aH dI = some r) :
    Vm.Fn Tryd.prog 30 [] [(.agg [(eI .u32 aC), (.row none 35 (aB.map aL)), (.row none 2 (aA.map aM)), (eI .u32 aH)]), (eB dI)] (.tup [(.sl 0 0 r.1.length 1 false), (eI .i64 r.2)]) [some ⟨5, r.1.map (eI .u8)⟩] := by
  refine zf Tryd.func30 Tryd.ntmps30 ?_
  unfold aAu at hr
  refine zq <| zh (v := (.ptr 0 0)) (b8 rfl rfl rfl rfl) ?_
  refine zw (v := (.row (some true) 1 [])) (bE rfl) <| zi <| zn <| AB.seq <| AB.seq ?_
  obtain ⟨x7, h_1, hr⟩ := aN hr
  refine AB.rw <| zw (v := (.agg [(eI .u32 aC), (.row none 35 (aB.map aL)), (.row none 2 (aA.map aM)), (eI .u32 aH)])) (aI rfl (bZ rfl (bQ (ds := [(eI .u32 aC), (.row none 35 (aB.map aL)), (.row none 2 (aA.map aM)), (eI .u32 aH)]) jY rfl zl rfl))) <| wC rfl (Vm.Fn.pure (aEm N aC aB aA aH x7 h_1) rfl rfl) <| zw (f9 rfl (dU _ _)) <| zn ?_
  refine zk hr rfl (fun h2 hr => ?_) (fun h2 hr => ?_)
  · refine zq <| zw (v := (.row (some true) 1 [])) (bE rfl) <| zi <| zn <| AB.ret <| Ex.then_ret_mk ?_
    obtain rfl := sj hr
    exact bU (r1 := (.tup [(.row (some true) 1 []), (eI .i64 4)])) (cL Tryd.results30 (iS rfl) (iS rfl)) (Ghost.trans (Ghost.virt (fr' := [(0, (.tup [(.sl 1 0 0 1 false), (eI .i64 4)]))]) (h1 := [some ⟨26, [(eI .u32 aC), (.row none 35 (aB.map aL)), (.row none 2 (aA.map aM)), (eI .u32 aH)]⟩]) 5 (FLe.le rfl (V.le_tup (V.les_cons (V.le_virt rfl) (V.les_cons (V.le_refl _ _) V.les_nil))) FLe.nil) (HLv.live (V.les_refl _ _) rfl HLv.nil)) (Ghost.rn [1] rfl rfl (FLe.le rfl (V.le_tup (V.les_cons (by first | exact V.le_refl _ _ | (simp only [cN, cO]; exact V.le_refl _ _)) (V.les_cons (V.le_refl _ _) V.les_nil))) FLe.nil) (HLe.live rfl V.les_nil rfl HLe.nil) rfl))
  · refine AB.skip <| Ex.then_mk <| AB.seq ?_
    obtain ⟨b7, h_3, hr⟩ := aN hr
    refine AB.rw <| zw (v := (.agg [(eI .u32 aC), (.row none 35 (aB.map aL)), (.row none 2 (aA.map aM)), (eI .u32 aH)])) (aI rfl (bZ rfl (bQ (ds := [(eI .u32 aC), (.row none 35 (aB.map aL)), (.row none 2 (aA.map aM)), (eI .u32 aH)]) jY rfl zl rfl))) <| zm rfl <| wC (v := (.sl 1 0 b7.length 1 false)) rfl (zB (aCC N aC aB aA aH dI b7 h_3) []) ?_
    refine za rfl <| zi <| zn <| AB.ret ?_
    obtain rfl := sj hr
    exact vO Tryd.results30 [1]
theorem xQ (N : Nat) (aC : Int) (aB : List aO) (aA : List aK) (aH : Int) (r : Bool) (hr : uY N aC aB aA aH = some r) :
    Vm.Fn Tryd.prog 20 [] [(.agg [(eI .u32 aC), (.row none 35 (aB.map aL)), (.row none 2 (aA.map aM)), (eI .u32 aH)])] (eB r) [] := by
  refine zf Tryd.func20 Tryd.ntmps20 ?_
  unfold uY at hr
  refine zq <| zh (v := (.ptr 0 0)) (b8 rfl rfl rfl rfl) ?_
  refine zj <| zn <| AB.seq ?_
  obtain ⟨x7, h_1, hr⟩ := aN hr
  refine AB.rw <| zw (v := (.agg [(eI .u32 aC), (.row none 35 (aB.map aL)), (.row none 2 (aA.map aM)), (eI .u32 aH)])) (aI rfl (bZ rfl (bQ (ds := [(eI .u32 aC), (.row none 35 (aB.map aL)), (.row none 2 (aA.map aM)), (eI .u32 aH)]) jY rfl zl rfl))) <| wC (v := (.tup [(.sl 1 0 x7.1.length 1 false), (eI .i64 x7.2)])) rfl (zB (aG5 N aC aB aA aH true x7 h_1) []) ?_
  refine zm rfl <| iW rfl rfl <| iW rfl rfl <| za rfl <| za rfl <| zn <| zq <| zm rfl <| hZ rfl rfl <| za rfl <| zn <| AB.ret ?_
  obtain rfl := sj hr
  exact bW Tryd.results20 []
theorem rD (N : Nat) (vn : Int) (r : (List Int)) (hr : lW N vn = some r) :
    Vm.Fn Tryd.prog 22 [] [(eI .u32 vn)] (.sl 0 0 r.length 1 false) [some ⟨5, r.map (eI .u8)⟩] := by
  refine zf Tryd.func22 Tryd.ntmps22 ?_
  unfold lW at hr
  refine zq <| zw (v := (.row (some true) 1 [])) (bE rfl) <| zn <| AB.seq ?_
  obtain ⟨x4, h_1, hr⟩ := aN hr
  refine AB.rw <| zm rfl <| wC (v := (.sl 0 0 x4.length 1 false)) (h' := [some ⟨5, x4.map (eI .u8)⟩]) rfl (Vm.Fn.argsLe (zB (jR N [] vn x4 h_1) []) (V.les_cons V.le_nil (V.les_cons (V.le_refl _ _) V.les_nil))) <| za rfl <| zn <| AB.ret ?_
  obtain rfl := sj hr
  exact bW Tryd.results22 [0]
theorem aCm (N : Nat) (parts : List (List Int)) (r : (List Int)) (hr : rL N parts = some r) :
    Vm.Fn Tryd.prog 25 [] [(.row none 1 (parts.map (eL 1 (eI .u8))))] (.sl 0 0 r.length 1 false) [some ⟨5, r.map (eI .u8)⟩] := by
  refine zf Tryd.func25 Tryd.ntmps25 ?_
  unfold rL at hr
  refine zq <| zw (v := (.row (some true) 1 [])) (bE rfl) <| zn <| zq <| zw (v := (.row (some true) 1 [])) (bE rfl) <| zn ?_
  refine AB.seq_g fun K1 hK1 hG1 => ?_
  have J1 : ∀ (l0 : List Int), zM N l0 = some r → K1 (aV 17 [(3, (.sl 0 0 l0.length 1 false))]) [some ⟨5, l0.map (eI .u8)⟩] := by
    intro l0 hr
    unfold zM at hr
    refine hK1 _ _ <| zq <| zm rfl <| za rfl <| zn <| AB.ret ?_
    obtain rfl := sj hr
    exact bW Tryd.results25 [0]
  refine zq <| zm rfl <| eT rfl b5 <| zI <| zn ?_
  obtain ⟨cL, hL2, hr⟩ := aN hr
  refine AB.block ?_
  refine AB.loopN (fun m s h => ∃ (x8 : Int) (bF : List Int), lP N parts m x8 bF = some cL ∧ Ghost 0 s h (aV 17 [(3, (.sl 0 0 bF.length 1 false)), (6, (.row none 1 (parts.map (eL 1 (eI .u8))))), (7, (eI .i64 (parts.length : Int))), (8, (eI .i64 x8))]) [some ⟨5, bF.map (eI .u8)⟩]) (n := N) ⟨0, [], hL2, (Ghost.trans (Ghost.virt (fr' := [(3, (.sl 0 0 0 1 false)), (6, (.row none 1 (parts.map (eL 1 (eI .u8))))), (7, (eI .i64 (parts.length : Int))), (8, (eI .i64 0))]) (h1 := []) 5 (FLe.le rfl (V.le_virt rfl) (FLe.same rfl (FLe.same rfl (FLe.same rfl FLe.nil)))) HLv.nil) (Ghost.rn [0] rfl rfl (FLe.le rfl (by first | exact V.le_refl _ _ | (simp only [cN, cO]; exact V.le_refl _ _)) (FLe.same rfl (FLe.same rfl (FLe.same rfl FLe.nil)))) (HLe.live rfl V.les_nil rfl HLe.nil) rfl))⟩ (by rintro s h ⟨_, _, h0, _⟩; simp [lP] at h0) ?_
  rintro m2 s h ⟨x8, bF, hr2, hg⟩
  refine AB.ghost hg ?_
  clear hg hL2
  rw [lP] at hr2
  refine zq <| eY rfl rfl <| zn <| AB.seq ?_
  refine zk hr2 rfl (fun h1 hr2 => ?_) (fun h1 hr2 => ?_)
  · refine AB.skip <| Ex.then_mk <| AB.seq <| AB.block <| AB.seq ?_
    obtain ⟨cG, h_2, hr2⟩ := aN hr2
    refine AB.rw <| zw (bP rfl rfl (kH b5 bG h_2)) <| zw (v := (.row none 1 (cG.map (eI .u8)))) (aI rfl (jM h_2 (bX bG rfl rfl))) <| za rfl <| zn ?_
    obtain ⟨bO, h_3, hr2⟩ := aN hr2
    refine AB.rw <| zm rfl <| zm rfl <| zh (v := (.sl 1 0 bO.length 1 false)) (dZ rfl rfl (nD (E := (eI .u8)) rfl bG cC ⟨rfl, rfl, zl⟩ rfl (aDs (fun _ => rfl)) h_3 rfl rfl)) ?_
    refine za rfl <| OpsW.nil <| Ex.inBlock_mk <| Ex.then_mk <| AB.rw <| dG rfl rfl <| zm rfl <| zn ?_
    exact ⟨IntKind.i64.wrap (x8 + 1), bO, hr2, (zG [1])⟩
  · refine AB.exit <| Ex.then_exit_mk <| Ex.then_exit_mk <| Ex.inBlock_same_mk ?_
    obtain rfl := sj hr2
    refine Ex.then_mk ?_
    exact hG1 _ _ _ _ (zG [0]) (J1 bF hr)
theorem aAy (N : Nat) (bJ : Int) (bA : List Int) (r : (List Int)) (hr : pA N bJ bA = some r) :
    Vm.Fn Tryd.prog 23 [] [(.agg [(eI .i64 bJ), (.row none 1 (bA.map (eI .u8)))])] (.sl 0 0 r.length 1 false) [some ⟨5, r.map (eI .u8)⟩] := by
  refine zf Tryd.func23 Tryd.ntmps23 ?_
  unfold pA at hr
  refine zq <| zh (v := (.ptr 0 0)) (b8 rfl rfl rfl rfl) ?_
  refine zw (v := (.row (some true) 1 [])) (bE rfl) <| zn <| AB.seq ?_
  obtain ⟨x6, h_1, hr⟩ := aN hr
  obtain ⟨x9, h_3, hr⟩ := aN hr
  obtain ⟨b7, h_5, hr⟩ := aN hr
  refine AB.rd (dQ []) (dQ [25, 33, 34]) mixed <| kP 9 0 rfl rfl (mE ..) <| zp 8 1 rfl (bH (v := (eI .i64 bJ)) (aI rfl (bZ rfl (bX uQ rfl rfl)))) <| zp 7 2 rfl (bH (v := (eI .u64 (IntKind.u64.wrap bJ))) (dA rfl (cE _ ⟨_, uQ⟩ bV rfl))) ?_
  refine DrawG.pick (n := 6) (i := 3) (by decide +kernel) rfl (gC (v := (.sl 1 0 x6.length 1 false)) (h' := [some ⟨44, [(eI .i64 bJ), (.row none 1 (bA.map (eI .u8)))]⟩, some ⟨5, x6.map (eI .u8)⟩]) (Vm.Fn.argsLe (zB (rJ N [] (IntKind.u64.wrap bJ) x6 h_1) []) (V.les_cons V.le_nil (V.les_cons (V.le_refl _ _) V.les_nil))) rfl (fun _ => ⟨_, rfl⟩) (sv (bN rfl d5))) <| kP 5 4 rfl rfl (wI ..) <| zp 4 5 rfl (bH (v := (.row none 1 (bA.map (eI .u8)))) (aI rfl (bZ rfl (bX bG rfl rfl)))) ?_
  refine DrawG.pick (n := 3) (i := 6) (by decide +kernel) rfl (gC (v := (.sl 2 0 x9.length 1 false)) (h' := [some ⟨44, [(eI .i64 bJ), (.row none 1 (bA.map (eI .u8)))]⟩, some ⟨5, x6.map (eI .u8)⟩, some ⟨5, x9.map (eI .u8)⟩]) (Vm.Fn.argsLe (zB (pF N [] bA x9 h_3) []) (V.les_cons V.le_nil (V.les_cons (V.le_refl _ _) V.les_nil))) rfl (fun _ => ⟨_, rfl⟩) (sv (bN rfl d5))) ?_
  refine DrawG.gh (n := 2) (by decide +kernel) (zV [(0, (.agg [(eI .i64 bJ), (.row none 1 (bA.map (eI .u8)))])), (1, (.ptr 0 0)), (2, (.row (some true) 1 [])), (3, (.ptr 0 0)), (4, (eI .i64 bJ)), (5, (eI .u64 (IntKind.u64.wrap bJ))), (6, (.row none 1 (x6.map (eI .u8)))), (7, (.ptr 0 1)), (8, (.row none 1 (bA.map (eI .u8)))), (9, (.sl 2 0 x9.length 1 false))] [some ⟨44, [(eI .i64 bJ), (.row none 1 (bA.map (eI .u8)))]⟩, none, some ⟨5, x9.map (eI .u8)⟩]) ?_
  refine DrawG.gh (n := 2) (by decide +kernel) (zV [(0, (.agg [(eI .i64 bJ), (.row none 1 (bA.map (eI .u8)))])), (1, (.ptr 0 0)), (2, (.row (some true) 1 [])), (3, (.ptr 0 0)), (4, (eI .i64 bJ)), (5, (eI .u64 (IntKind.u64.wrap bJ))), (6, (.row none 1 (x6.map (eI .u8)))), (7, (.ptr 0 1)), (8, (.row none 1 (bA.map (eI .u8)))), (9, (.row none 1 (x9.map (eI .u8))))] [some ⟨44, [(eI .i64 bJ), (.row none 1 (bA.map (eI .u8)))]⟩, none, none]) ?_
  refine zp 2 7 rfl (bH (v := (.sl 3 0 2 1 false)) (h' := [some ⟨44, [(eI .i64 bJ), (.row none 1 (bA.map (eI .u8)))]⟩, none, none, some ⟨42, [x6, x9].map (eL 1 (eI .u8))⟩]) (e9 rfl (oQ (xs := [x6, x9].map (eL 1 (eI .u8))) b5 bG zl zl rfl rfl rfl rfl rfl rfl rfl))) ?_
  refine DrawG.pick (n := 1) (i := 8) (by decide +kernel) rfl (gC (v := (.sl 4 0 b7.length 1 false)) (h' := [some ⟨44, [(eI .i64 bJ), (.row none 1 (bA.map (eI .u8)))]⟩, none, none, some ⟨42, [x6, x9].map (eL 1 (eI .u8))⟩, some ⟨5, b7.map (eI .u8)⟩]) (zL (aCm N [x6, x9] b7 h_5) [] [3]) rfl (fun _ => ⟨_, rfl⟩) (sv (bN rfl d5))) <| nL 0 9 rfl rfl <| DrawG.nil (by decide +kernel) <| Ex.then_mk <| AB.ret ?_
  obtain rfl := sj hr
  exact bW Tryd.results23 [4]
theorem aIE (N : Nat) (vn : Int) (r : (List Int)) (hr : aA3 N vn = some r) :
    Vm.Fn Tryd.prog 45 [] [(eI .u64 vn)] (.sl 0 0 r.length 1 false) [some ⟨5, r.map (eI .u8)⟩] := by
  refine zf Tryd.func45 Tryd.ntmps45 ?_
  unfold aA3 at hr
  refine zq <| zw (v := (.row (some true) 1 [])) (bE rfl) <| zn <| zq <| zm rfl <| dG rfl rfl <| zw (v := (eI .u64 (Int.tmod (IntKind.u64.wrap (vn + 9)) 64))) (a9 rfl rfl (zC _ _ _ _ rfl)) <| vP rfl rfl <| zw (v := (eI .u64 (Int.tmod (IntKind.u64.wrap (64 - (Int.tmod (IntKind.u64.wrap (vn + 9)) 64))) 64))) (a9 rfl rfl (zC _ _ _ _ rfl)) <| za rfl <| zn <| AB.seq ?_
  obtain ⟨x15, h_1, hr⟩ := aN hr
  refine AB.rw <| zm rfl <| dG rfl rfl <| zm rfl <| dG rfl rfl <| zh (v := (.sl 0 0 x15.length 1 false)) (aJ3 rfl rfl (mkL (E := (eI .u8)) (y := 0) bG cC ⟨zl, rfl, rfl⟩ rfl rfl rfl h_1 rfl rfl)) ?_
  refine za rfl <| zn <| AB.seq ?_
  obtain ⟨x17, h_2, hr⟩ := aN hr
  refine AB.rw <| zm rfl <| zw (v := (.ptr 0 (Int.toNat 0))) (bP rfl rfl (iaS rfl bG cC rfl h_2)) <| zt (aU rfl rfl (s6 (E := (eI .u8)) (y := 128) cC rfl rfl h_2 rfl rfl rfl)) ?_
  refine zn ?_
  refine AB.seq_g fun K1 hK1 hG1 => ?_
  have J1 : ∀ (l0 : List Int), aBD N l0 = some r → K1 (aV 33 [(4, (.sl 0 0 l0.length 1 false))]) [some ⟨5, l0.map (eI .u8)⟩] := by
    intro l0 hr
    unfold aBD at hr
    refine hK1 _ _ <| zq <| zm rfl <| za rfl <| zn <| AB.ret ?_
    obtain rfl := sj hr
    exact bW Tryd.results45 [0]
  refine zq <| zI <| zn ?_
  obtain ⟨cL, hL2, hr⟩ := aN hr
  refine AB.block <| AB.loopN (fun m s h => ∃ (x18 : Int) (bF : List Int), n7 N vn m x18 bF = some cL ∧ Ghost 0 s h (aV 33 [(0, (eI .u64 vn)), (4, (.sl 0 0 bF.length 1 false)), (18, (eI .i64 x18))]) [some ⟨5, bF.map (eI .u8)⟩]) (n := N) ⟨0, x15.set (Int.toNat 0) 128, hL2, (Ghost.rn [0] rfl rfl (FLe.same rfl (FLe.le rfl (by first | exact V.le_refl _ _ | (simp only [cN, cO]; exact V.le_refl _ _)) (FLe.same rfl FLe.nil))) (HLe.live rfl (mC (fun _ => rfl) _) (all_map (fun _ => rfl) _) HLe.nil) rfl)⟩ (by rintro s h ⟨_, _, h0, _⟩; simp [n7] at h0) ?_
  rintro m2 s h ⟨x18, bF, hr2, hg⟩
  refine AB.ghost hg ?_
  clear hg hL2
  rw [n7] at hr2
  refine zq <| eY rfl rfl <| zn <| AB.seq ?_
  refine zk hr2 rfl (fun h3 hr2 => ?_) (fun h3 hr2 => ?_)
  · refine AB.skip <| Ex.then_mk <| AB.seq <| AB.block <| zq <| zm rfl <| za rfl <| zn ?_
    obtain ⟨x27, h_4, hr2⟩ := aN hr2
    obtain ⟨jG, h_5, hr2⟩ := aN hr2
    refine AB.rw <| zm rfl <| zm rfl <| z4 rfl rfl <| zm rfl <| z4 rfl rfl <| vP rfl rfl <| zw (a9 rfl rfl (gZ _ _ _ _ h_4)) <| zw (dA rfl (cE _ ⟨_, bV⟩ cC rfl)) <| zh (v := (.sl 1 0 1 1 false)) (e9 rfl (oQ (xs := [IntKind.u8.wrap x27].map (eI .u8)) bG cC zl zl rfl rfl rfl rfl rfl rfl rfl)) ?_
    refine zh (v := (.sl 2 0 jG.length 1 false)) (dZ rfl rfl (nD (E := (eI .u8)) rfl bG cC ⟨rfl, rfl, zl⟩ rfl (pU rfl rfl) h_5 rfl rfl)) ?_
    refine za rfl <| OpsW.nil <| Ex.inBlock_mk <| Ex.then_mk <| AB.rw <| dG rfl rfl <| zm rfl <| zn ?_
    exact ⟨IntKind.i64.wrap (x18 + 1), jG, hr2, (zG [2])⟩
  · refine AB.exit <| Ex.then_exit_mk <| Ex.then_exit_mk <| Ex.inBlock_same_mk ?_
    obtain rfl := sj hr2
    refine Ex.then_mk ?_
    exact hG1 _ _ _ _ (zG [0]) (J1 bF hr)
theorem aD4 (N : Nat) (parts : List (List Int)) (r : (List Int)) (hr : y4 N parts = some r) :
    Vm.Fn Tryd.prog 36 [] [(.row none 1 (parts.map (eL 1 (eI .u8))))] (.sl 0 0 r.length 1 false) [some ⟨5, r.map (eI .u8)⟩] := by
  refine zf Tryd.func36 Tryd.ntmps36 ?_
  unfold y4 at hr
  refine zq <| zw (v := (.row (some true) 1 [])) (bE rfl) <| zn <| zq <| zw (v := (.row (some true) 1 [])) (bE rfl) <| zn ?_
  refine AB.seq_g fun K1 hK1 hG1 => ?_
  have J1 : ∀ (l0 : List Int), aBe N l0 = some r → K1 (aV 17 [(3, (.sl 0 0 l0.length 1 false))]) [some ⟨5, l0.map (eI .u8)⟩] := by
    intro l0 hr
    unfold aBe at hr
    refine hK1 _ _ <| zq <| zm rfl <| za rfl <| zn <| AB.ret ?_
    obtain rfl := sj hr
    exact bW Tryd.results36 [0]
  refine zq <| zm rfl <| eT rfl b5 <| zI <| zn ?_
  obtain ⟨cL, hL2, hr⟩ := aN hr
  refine AB.block ?_
  refine AB.loopN (fun m s h => ∃ (x8 : Int) (bF : List Int), nY N parts m x8 bF = some cL ∧ Ghost 0 s h (aV 17 [(3, (.sl 0 0 bF.length 1 false)), (6, (.row none 1 (parts.map (eL 1 (eI .u8))))), (7, (eI .i64 (parts.length : Int))), (8, (eI .i64 x8))]) [some ⟨5, bF.map (eI .u8)⟩]) (n := N) ⟨0, [], hL2, (Ghost.trans (Ghost.virt (fr' := [(3, (.sl 0 0 0 1 false)), (6, (.row none 1 (parts.map (eL 1 (eI .u8))))), (7, (eI .i64 (parts.length : Int))), (8, (eI .i64 0))]) (h1 := []) 5 (FLe.le rfl (V.le_virt rfl) (FLe.same rfl (FLe.same rfl (FLe.same rfl FLe.nil)))) HLv.nil) (Ghost.rn [0] rfl rfl (FLe.le rfl (by first | exact V.le_refl _ _ | (simp only [cN, cO]; exact V.le_refl _ _)) (FLe.same rfl (FLe.same rfl (FLe.same rfl FLe.nil)))) (HLe.live rfl V.les_nil rfl HLe.nil) rfl))⟩ (by rintro s h ⟨_, _, h0, _⟩; simp [nY] at h0) ?_
  rintro m2 s h ⟨x8, bF, hr2, hg⟩
  refine AB.ghost hg ?_
  clear hg hL2
  rw [nY] at hr2
  refine zq <| eY rfl rfl <| zn <| AB.seq ?_
  refine zk hr2 rfl (fun h1 hr2 => ?_) (fun h1 hr2 => ?_)
  · refine AB.skip <| Ex.then_mk <| AB.seq <| AB.block <| AB.seq ?_
    obtain ⟨cG, h_2, hr2⟩ := aN hr2
    refine AB.rw <| zw (bP rfl rfl (kH b5 bG h_2)) <| zw (v := (.row none 1 (cG.map (eI .u8)))) (aI rfl (jM h_2 (bX bG rfl rfl))) <| za rfl <| zn ?_
    obtain ⟨bO, h_3, hr2⟩ := aN hr2
    refine AB.rw <| zm rfl <| zm rfl <| zh (v := (.sl 1 0 bO.length 1 false)) (dZ rfl rfl (nD (E := (eI .u8)) rfl bG cC ⟨rfl, rfl, zl⟩ rfl (aDs (fun _ => rfl)) h_3 rfl rfl)) ?_
    refine za rfl <| OpsW.nil <| Ex.inBlock_mk <| Ex.then_mk <| AB.rw <| dG rfl rfl <| zm rfl <| zn ?_
    exact ⟨IntKind.i64.wrap (x8 + 1), bO, hr2, (zG [1])⟩
  · refine AB.exit <| Ex.then_exit_mk <| Ex.then_exit_mk <| Ex.inBlock_same_mk ?_
    obtain rfl := sj hr2
    refine Ex.then_mk ?_
    exact hG1 _ _ _ _ (zG [0]) (J1 bF hr)
theorem yN (N : Nat) (x : Int) (k : Int) (r : Int) (hr : lI N x k = some r) :
    Vm.Fn Tryd.prog 67 [] [(eI .u32 x), (eI .i64 k)] (eI .u32 r) [] := by
  refine zf Tryd.func67 Tryd.ntmps67 ?_
  unfold lI at hr
  refine zq <| zi <| zn <| zq <| zm rfl <| zw (dA rfl (cE _ ⟨_, dN⟩ aMk rfl)) <| zqA rfl rfl <| za rfl <| zn <| AB.seq ?_
  obtain ⟨b7, h_1, hr⟩ := aN hr
  obtain ⟨x15, h_2, hr⟩ := aN hr
  refine AB.rw <| zm rfl <| zm rfl <| zw (a9 rfl rfl (v5 _ _ _ _ h_1)) <| zm rfl <| zm rfl <| vP rfl rfl <| zw (a9 rfl rfl (gZ _ _ _ _ h_2)) <| zqO rfl rfl <| za rfl <| zn <| AB.ret ?_
  obtain rfl := sj hr
  exact bW Tryd.results67 []
theorem j4 (N : Nat) (x : Int) (vn : Int) (r : Int) (hr : dY N x vn = some r) :
    Vm.Fn Tryd.prog 57 [] [(eI .u32 x), (eI .i64 vn)] (eI .u32 r) [] := by
  refine zf Tryd.func57 Tryd.ntmps57 ?_
  unfold dY at hr
  refine zq <| zi <| zn <| AB.seq ?_
  obtain ⟨x8, h_1, hr⟩ := aN hr
  refine AB.rw <| zm rfl <| zm rfl <| zw (f9 rfl (aLy ..)) <| wC rfl (Vm.Fn.pure (yN N x (IntKind.i64.wrap (0 - vn)) x8 h_1) rfl rfl) <| za rfl <| zn <| AB.ret ?_
  obtain rfl := sj hr
  exact bW Tryd.results57 []
theorem aEi (N : Nat) (block : List Int) (r : (List Int)) (hr : rS N block = some r) :
    Vm.Fn Tryd.prog 56 [] [(.agg (block.map (eI .u8)))] (.agg (r.map (eI .u32))) [] := by
  refine zf Tryd.func56 Tryd.ntmps56 ?_
  unfold rS at hr
  refine zq <| zh (v := (.ptr 0 0)) (b8 rfl (d9 (fun _ => rfl)) rfl rfl) ?_
  refine zh (v := (.ptr 1 0)) (cK (B := some ⟨109, (List.replicate 64 0).map (eI .u32)⟩) mD rfl rfl) ?_
  refine zn <| zq <| zh (v := (.ptr 2 0)) (cK (B := some ⟨109, (List.replicate 64 0).map (eI .u32)⟩) mD rfl rfl) ?_
  refine zn ?_
  refine AB.seq_g fun K1 hK1 hG1 => ?_
  have J1 : ∀ (l1 : List Int), q5 N l1 = some r → K1 (aV 85 [(2, (.ptr 0 0)), (3, (.ptr 1 0))]) [some ⟨109, (List.replicate 64 0).map (eI .u32)⟩, some ⟨109, l1.map (eI .u32)⟩] := by
    intro l1 hr
    unfold q5 at hr
    refine hK1 _ _ ?_
    refine AB.seq_g fun K2 hK2 hG2 => ?_
    have J2 : ∀ (eJ : List Int), q8 N eJ = some r → K2 (aV 85 [(2, (.ptr 0 0)), (3, (.ptr 1 0))]) [some ⟨109, (List.replicate 64 0).map (eI .u32)⟩, some ⟨109, eJ.map (eI .u32)⟩] := by
      intro eJ hr
      unfold q8 at hr
      refine hK2 _ _ <| AB.seq ?_
      obtain ⟨q, h_1, hr⟩ := aN hr
      refine AB.rw <| zw (v := (.agg (eJ.map (eI .u32)))) (aI rfl (b6 (E := (eI .u32)) (l := eJ) mD rfl rfl (aP h_1))) <| zt (aU rfl rfl (eQ (E := (eI .u32)) (l := List.replicate 64 0) mD rfl rfl (fun _ => rfl) rfl (aP h_1) rfl)) ?_
      refine zn <| AB.ret ?_
      obtain rfl := sj hr
      exact bU (r1 := (.agg (eJ.map (eI .u32)))) (nH Tryd.results56 (jU rfl (b6 (E := (eI .u32)) (l := eJ) mD rfl rfl (aP h_1)))) (zG [])
    refine zq <| zi <| zn ?_
    obtain ⟨j5, hL3, hr⟩ := aN hr
    refine AB.block <| AB.loopN (fun m s h => ∃ (vi : Int) (l1_2 : List Int), kL N m vi l1_2 = some j5 ∧ Ghost 0 s h (aV 85 [(2, (.ptr 0 0)), (3, (.ptr 1 0)), (6, (eI .i64 vi))]) [some ⟨109, (List.replicate 64 0).map (eI .u32)⟩, some ⟨109, l1_2.map (eI .u32)⟩]) (n := N) ⟨16, l1, hL3, (zG [0, 1])⟩ (by rintro s h ⟨_, _, h0, _⟩; simp [kL] at h0) ?_
    rintro m3 s h ⟨vi, l1_2, hr3, hg⟩
    refine AB.ghost hg ?_
    clear hg hL3
    rw [kL] at hr3
    refine AB.seq <| zq <| zm rfl <| eY rfl rfl <| zn ?_
    refine zk hr3 rfl (fun h2 hr3 => ?_) (fun h2 hr3 => ?_)
    · refine AB.skip <| Ex.then_mk <| AB.seq <| AB.block <| AB.seq ?_
      obtain ⟨x37, h_3, hr3⟩ := aN hr3
      obtain ⟨x39, h_4, hr3⟩ := aN hr3
      obtain ⟨x44, h_6, hr3⟩ := aN hr3
      obtain ⟨x50, h_8, hr3⟩ := aN hr3
      refine AB.rd (dQ [57]) (dQ []) mixed <| dO 17 0 rfl rfl <| zp 16 1 rfl (bH (v := (eI .i64 (IntKind.i64.wrap (vi - 15)))) (a9 rfl rfl (fM ..))) <| zp 15 2 rfl (bH (v := (.ptr 1 (Int.toNat (IntKind.i64.wrap (vi - 15))))) (bP rfl rfl (fH mD cA rfl h_3))) <| zp 14 3 rfl (bH (v := (eI .u32 x37)) (aI rfl (gG (E := (eI .u32)) (y := x37) cA rfl rfl (bS h_3)))) <| DrawG.pick (n := 13) (i := 4) (by decide +kernel) rfl (gU (fun _ => (Vm.Fn.pure (j4 N x37 7 x39 h_4) rfl rfl)) rfl (sv (bN rfl c5))) <| dO 12 5 rfl rfl ?_
      refine zp 11 6 rfl (bH (v := (eI .i64 (IntKind.i64.wrap (vi - 15)))) (a9 rfl rfl (fM ..))) <| zp 10 7 rfl (bH (v := (.ptr 1 (Int.toNat (IntKind.i64.wrap (vi - 15))))) (bP rfl rfl (fH mD cA rfl h_3))) <| zp 9 8 rfl (bH (v := (eI .u32 x37)) (aI rfl (gG (E := (eI .u32)) (y := x37) cA rfl rfl (bS h_3)))) <| DrawG.pick (n := 8) (i := 9) (by decide +kernel) rfl (gU (fun _ => (Vm.Fn.pure (j4 N x37 18 x44 h_6) rfl rfl)) rfl (sv (bN rfl c5))) <| zp 7 10 rfl (bH (v := (eI .u32 (bits .xor .u32 x39 x44))) (a9 rfl rfl (uF ..))) <| dO 6 11 rfl rfl ?_
      refine zp 5 12 rfl (bH (v := (eI .i64 (IntKind.i64.wrap (vi - 15)))) (a9 rfl rfl (fM ..))) <| zp 4 13 rfl (bH (v := (.ptr 1 (Int.toNat (IntKind.i64.wrap (vi - 15))))) (bP rfl rfl (fH mD cA rfl h_3))) <| zp 3 14 rfl (bH (v := (eI .u32 x37)) (aI rfl (gG (E := (eI .u32)) (y := x37) cA rfl rfl (bS h_3)))) <| zp 2 15 rfl (bH (v := (eI .u32 x50)) (a9 rfl rfl (gZ _ _ _ _ h_8))) <| zp 1 16 rfl (bH (v := (eI .u32 (bits .xor .u32 (bits .xor .u32 x39 x44) x50))) (a9 rfl rfl (uF ..))) <| nL 0 17 rfl rfl <| DrawG.nil (by decide +kernel) <| Ex.then_mk <| AB.seq ?_
      obtain ⟨x54, h_9, hr3⟩ := aN hr3
      obtain ⟨x56, h_10, hr3⟩ := aN hr3
      obtain ⟨x61, h_12, hr3⟩ := aN hr3
      obtain ⟨x67, h_14, hr3⟩ := aN hr3
      refine AB.rd (dQ [57]) (dQ []) mixed <| dO 17 0 rfl rfl <| zp 16 1 rfl (bH (v := (eI .i64 (IntKind.i64.wrap (vi - 2)))) (a9 rfl rfl (fM ..))) <| zp 15 2 rfl (bH (v := (.ptr 1 (Int.toNat (IntKind.i64.wrap (vi - 2))))) (bP rfl rfl (fH mD cA rfl h_9))) <| zp 14 3 rfl (bH (v := (eI .u32 x54)) (aI rfl (gG (E := (eI .u32)) (y := x54) cA rfl rfl (bS h_9)))) <| DrawG.pick (n := 13) (i := 4) (by decide +kernel) rfl (gU (fun _ => (Vm.Fn.pure (j4 N x54 17 x56 h_10) rfl rfl)) rfl (sv (bN rfl c5))) <| dO 12 5 rfl rfl ?_
      refine zp 11 6 rfl (bH (v := (eI .i64 (IntKind.i64.wrap (vi - 2)))) (a9 rfl rfl (fM ..))) <| zp 10 7 rfl (bH (v := (.ptr 1 (Int.toNat (IntKind.i64.wrap (vi - 2))))) (bP rfl rfl (fH mD cA rfl h_9))) <| zp 9 8 rfl (bH (v := (eI .u32 x54)) (aI rfl (gG (E := (eI .u32)) (y := x54) cA rfl rfl (bS h_9)))) <| DrawG.pick (n := 8) (i := 9) (by decide +kernel) rfl (gU (fun _ => (Vm.Fn.pure (j4 N x54 19 x61 h_12) rfl rfl)) rfl (sv (bN rfl c5))) <| zp 7 10 rfl (bH (v := (eI .u32 (bits .xor .u32 x56 x61))) (a9 rfl rfl (uF ..))) <| dO 6 11 rfl rfl ?_
      refine zp 5 12 rfl (bH (v := (eI .i64 (IntKind.i64.wrap (vi - 2)))) (a9 rfl rfl (fM ..))) <| zp 4 13 rfl (bH (v := (.ptr 1 (Int.toNat (IntKind.i64.wrap (vi - 2))))) (bP rfl rfl (fH mD cA rfl h_9))) <| zp 3 14 rfl (bH (v := (eI .u32 x54)) (aI rfl (gG (E := (eI .u32)) (y := x54) cA rfl rfl (bS h_9)))) <| zp 2 15 rfl (bH (v := (eI .u32 x67)) (a9 rfl rfl (gZ _ _ _ _ h_14))) <| zp 1 16 rfl (bH (v := (eI .u32 (bits .xor .u32 (bits .xor .u32 x56 x61) x67))) (a9 rfl rfl (uF ..))) <| nL 0 17 rfl rfl <| DrawG.nil (by decide +kernel) <| Ex.then_mk ?_
      obtain ⟨x72, h_15, hr3⟩ := aN hr3
      obtain ⟨x78, h_16, hr3⟩ := aN hr3
      obtain ⟨x83, h_17, hr3⟩ := aN hr3
      refine AB.rg E0 (fun _ => by show dR (fun _ => false) _ = true; decide +kernel) <| tS (sv (bI rfl)) <| tS (sv (bI rfl)) <| tS (v := (eI .i64 (IntKind.i64.wrap (vi - 16)))) (sv (a9 rfl rfl (fM ..))) <| tS (v := (.ptr 1 (Int.toNat (IntKind.i64.wrap (vi - 16))))) (sv (bP rfl rfl (fH mD cA rfl h_15))) <| tS (v := (eI .u32 x72)) (sv (aI rfl (gG (E := (eI .u32)) (y := x72) cA rfl rfl (bS h_15)))) <| tS (sv (bI rfl)) <| tS (sv (a9 rfl rfl (qJ ..))) <| tS (sv (bI rfl)) <| tS (v := (eI .i64 (IntKind.i64.wrap (vi - 7)))) (sv (a9 rfl rfl (fM ..))) ?_
      refine tS (v := (.ptr 1 (Int.toNat (IntKind.i64.wrap (vi - 7))))) (sv (bP rfl rfl (fH mD cA rfl h_16))) <| tS (v := (eI .u32 x78)) (sv (aI rfl (gG (E := (eI .u32)) (y := x78) cA rfl rfl (bS h_16)))) <| tS (sv (a9 rfl rfl (qJ ..))) <| tS (sv (bI rfl)) <| tS (sv (a9 rfl rfl (qJ ..))) <| tS (v := (.ptr 1 (Int.toNat vi))) (sv (bP rfl rfl (fH mD cA rfl h_17))) ?_
      refine tN (h' := [some ⟨109, (List.replicate 64 0).map (eI .u32)⟩, some ⟨109, (l1_2.set (Int.toNat vi) (IntKind.u32.wrap ((IntKind.u32.wrap ((IntKind.u32.wrap (x72 + (bits .xor .u32 (bits .xor .u32 x39 x44) x50))) + x78)) + (bits .xor .u32 (bits .xor .u32 x56 x61) x67)))).map (eI .u32)⟩]) (sv (aU rfl rfl (s6 (E := (eI .u32)) (y := IntKind.u32.wrap ((IntKind.u32.wrap ((IntKind.u32.wrap (x72 + (bits .xor .u32 (bits .xor .u32 x39 x44) x50))) + x78)) + (bits .xor .u32 (bits .xor .u32 x56 x61) x67))) cA rfl rfl (bS h_17) rfl rfl rfl))) <| OpsTo.nil <| Ex.inBlock_mk <| Ex.then_mk <| AB.rw ?_
      refine zm rfl <| dG rfl rfl <| za rfl <| zn ?_
      exact ⟨IntKind.i64.wrap (vi + 1), l1_2.set (Int.toNat vi) (IntKind.u32.wrap ((IntKind.u32.wrap ((IntKind.u32.wrap (x72 + (bits .xor .u32 (bits .xor .u32 x39 x44) x50))) + x78)) + (bits .xor .u32 (bits .xor .u32 x56 x61) x67))), hr3, (zG [0, 1])⟩
    · refine AB.exit <| Ex.then_exit_mk <| Ex.then_exit_mk <| Ex.inBlock_same_mk ?_
      obtain rfl := sj hr3
      refine Ex.then_mk ?_
      exact hG2 _ _ _ _ (zG [0, 1]) (J2 l1_2 hr)
  refine zq <| zI <| zn ?_
  obtain ⟨res4, hL4, hr⟩ := aN hr
  refine AB.block <| AB.loopN (fun m s h => ∃ (x9 : Int) (l2 : List Int), fZ N block m x9 l2 = some res4 ∧ Ghost 0 s h (aV 85 [(1, (.ptr 0 0)), (2, (.ptr 1 0)), (3, (.ptr 2 0)), (9, (eI .i64 x9))]) [some ⟨97, block.map (eI .u8)⟩, some ⟨109, (List.replicate 64 0).map (eI .u32)⟩, some ⟨109, l2.map (eI .u32)⟩]) (n := N) ⟨0, List.replicate 64 0, hL4, (zG [0, 1, 2])⟩ (by rintro s h ⟨_, _, h0, _⟩; simp [fZ] at h0) ?_
  rintro m4 s h ⟨x9, l2, hr4, hg⟩
  refine AB.ghost hg ?_
  clear hg hL4
  rw [fZ] at hr4
  refine zq <| eY rfl rfl <| zn <| AB.seq ?_
  refine zk hr4 rfl (fun h18 hr4 => ?_) (fun h18 hr4 => ?_)
  · refine AB.skip <| Ex.then_mk ?_
    refine AB.seq_g fun K5 hK5 hG5 => ?_
    have J5 : ∀ (nC : List Int), qW N block x9 (fZ N block m4) nC = some res4 → K5 (aV 85 [(1, (.ptr 0 0)), (2, (.ptr 1 0)), (3, (.ptr 2 0)), (9, (eI .i64 x9))]) [some ⟨97, block.map (eI .u8)⟩, some ⟨109, (List.replicate 64 0).map (eI .u32)⟩, some ⟨109, nC.map (eI .u32)⟩] := by
      intro nC hr4
      unfold qW at hr4
      refine hK5 _ _ <| AB.rw <| dG rfl rfl <| zm rfl <| zn ?_
      exact ⟨IntKind.i64.wrap (x9 + 1), nC, hr4, (zG [0, 1, 2])⟩
    refine AB.block <| zq <| zm rfl <| za rfl <| zn <| zq <| zI <| zn ?_
    obtain ⟨res6, hL6, hr4⟩ := aN hr4
    refine AB.block <| AB.loopN (fun m s h => ∃ (fF : Int) (eZ : List Int), eK N block x9 m fF eZ = some res6 ∧ Ghost 0 s h (aV 85 [(1, (.ptr 0 0)), (2, (.ptr 1 0)), (3, (.ptr 2 0)), (4, (eI .i64 x9)), (9, (eI .i64 x9)), (12, (eI .i64 fF))]) [some ⟨97, block.map (eI .u8)⟩, some ⟨109, (List.replicate 64 0).map (eI .u32)⟩, some ⟨109, eZ.map (eI .u32)⟩]) (n := N) ⟨0, l2, hL6, (zG [0, 1, 2])⟩ (by rintro s h ⟨_, _, h0, _⟩; simp [eK] at h0) ?_
    rintro m6 s h ⟨fF, eZ, hr6, hg⟩
    refine AB.ghost hg ?_
    clear hg hL6
    rw [eK] at hr6
    refine zq <| eY rfl rfl <| zn <| AB.seq ?_
    refine zk hr6 rfl (fun h19 hr6 => ?_) (fun h19 hr6 => ?_)
    · refine AB.skip <| Ex.then_mk <| AB.seq <| AB.block <| zq <| zm rfl <| za rfl <| zn ?_
      obtain ⟨x17, h_20, hr6⟩ := aN hr6
      obtain ⟨x19, h_21, hr6⟩ := aN hr6
      obtain ⟨fE, h_22, hr6⟩ := aN hr6
      refine AB.rg E0 (fun _ => by show dR (fun _ => false) _ = true; decide +kernel) <| tS (sv (bI rfl)) <| tS (sv (bI rfl)) <| tS (v := (.ptr 2 (Int.toNat x9))) (sv (bP rfl rfl (fH mD cA rfl h_20))) <| tS (v := (eI .u32 x17)) (sv (aI rfl (gG (E := (eI .u32)) (y := x17) cA rfl rfl (bS h_20)))) <| tS (v := (eI .u32 x19)) (sv (a9 rfl rfl (v5 _ _ _ _ h_21))) <| tS (sv (bI rfl)) <| tS (v := (eI .i64 (IntKind.i64.wrap (4 * x9)))) (sv (a9 rfl rfl (aCI ..))) <| tS (sv (bI rfl)) <| tS (sv (a9 rfl rfl (qJ ..))) ?_
      refine tS (v := (.ptr 0 (Int.toNat (IntKind.i64.wrap ((IntKind.i64.wrap (4 * x9)) + fF))))) (sv (bP rfl rfl (fH aI1 cC rfl h_22))) <| tS (v := (eI .u8 fE)) (sv (aI rfl (gG (E := (eI .u8)) (y := fE) cC rfl rfl (bS h_22)))) <| tS (sv (dA rfl (cE _ ⟨_, cC⟩ cA rfl))) <| tS (sv (a9 rfl rfl (aDQ ..))) <| tS (v := (.ptr 2 (Int.toNat x9))) (sv (bP rfl rfl (fH mD cA rfl h_20))) ?_
      refine tN (h' := [some ⟨97, block.map (eI .u8)⟩, some ⟨109, (List.replicate 64 0).map (eI .u32)⟩, some ⟨109, (eZ.set (Int.toNat x9) (bits .or .u32 x19 (IntKind.u32.wrap fE))).map (eI .u32)⟩]) (sv (aU rfl rfl (s6 (E := (eI .u32)) (y := bits .or .u32 x19 (IntKind.u32.wrap fE)) cA rfl rfl (bS h_20) rfl rfl rfl))) <| OpsTo.nil <| Ex.inBlock_mk <| Ex.then_mk <| AB.rw <| dG rfl rfl <| zm rfl <| zn ?_
      exact ⟨IntKind.i64.wrap (fF + 1), eZ.set (Int.toNat x9) (bits .or .u32 x19 (IntKind.u32.wrap fE)), hr6, (zG [0, 1, 2])⟩
    · refine AB.exit <| Ex.then_exit_mk <| Ex.then_exit_mk <| Ex.inBlock_same_mk ?_
      obtain rfl := sj hr6
      refine Ex.inBlock_mk <| Ex.then_mk ?_
      exact hG5 _ _ _ _ (zG [0, 1, 2]) (J5 eZ hr4)
  · refine AB.exit <| Ex.then_exit_mk <| Ex.then_exit_mk <| Ex.inBlock_same_mk ?_
    obtain rfl := sj hr4
    refine Ex.then_mk ?_
    exact hG1 _ _ _ _ (zG [1, 2]) (J1 l2 hr)
theorem aED (N : Nat) (iD : List Int) (block : List Int) (r : (List Int)) (hr : nF N iD block = some r) :
    Vm.Fn Tryd.prog 46 [] [(.agg (iD.map (eI .u32))), (.agg (block.map (eI .u8)))] (.agg (r.map (eI .u32))) [] := by
  refine zf Tryd.func46 Tryd.ntmps46 ?_
  unfold nF at hr
  refine zq <| zh (v := (.ptr 0 0)) (b8 rfl (d9 (fun _ => rfl)) rfl rfl) ?_
  refine zh (v := (.ptr 1 0)) (b8 rfl (d9 (fun _ => rfl)) rfl rfl) ?_
  refine zh (v := (.ptr 2 0)) (cK (B := some ⟨95, (List.replicate 8 0).map (eI .u32)⟩) lV rfl rfl) ?_
  refine zn <| AB.seq ?_
  obtain ⟨q, h_1, hr⟩ := aN hr
  obtain ⟨x18, h_2, hr⟩ := aN hr
  obtain ⟨q_1, h_3, hr⟩ := aN hr
  refine AB.rw <| zw (v := (.agg (block.map (eI .u8)))) (aI rfl (b6 (E := (eI .u8)) (l := block) aI1 rfl rfl (aP h_1))) <| wC rfl (Vm.Fn.pure (aEi N block x18 h_2) zR zR) <| zh (v := (.ptr 3 0)) (cK (B := some ⟨109, (List.replicate 64 0).map (eI .u32)⟩) mD rfl rfl) ?_
  refine zt (aU rfl rfl (eQ (E := (eI .u32)) (l := List.replicate 64 0) mD rfl rfl (fun _ => rfl) rfl (aP h_3) rfl)) ?_
  refine zn <| AB.seq ?_
  obtain ⟨x19, h_4, hr⟩ := aN hr
  obtain ⟨iH, h_5, hr⟩ := aN hr
  obtain ⟨kX, h_6, hr⟩ := aN hr
  obtain ⟨x25, h_7, hr⟩ := aN hr
  refine AB.rg E0 (fun _ => by show dR (fun _ => false) _ = true; decide +kernel) <| tS (v := (.ptr 0 (Int.toNat 0))) (sv (bP rfl rfl (fH lV cA rfl h_4))) <| tS (v := (eI .u32 x19)) (sv (aI rfl (gG (E := (eI .u32)) (y := x19) cA rfl rfl (bS h_4)))) <| tS (v := (.ptr 0 (Int.toNat 1))) (sv (bP rfl rfl (fH lV cA rfl h_5))) <| tS (v := (eI .u32 iH)) (sv (aI rfl (gG (E := (eI .u32)) (y := iH) cA rfl rfl (bS h_5)))) <| tS (v := (.ptr 0 (Int.toNat 2))) (sv (bP rfl rfl (fH lV cA rfl h_6))) ?_
  refine tS (v := (eI .u32 kX)) (sv (aI rfl (gG (E := (eI .u32)) (y := kX) cA rfl rfl (bS h_6)))) <| tS (v := (.ptr 0 (Int.toNat 3))) (sv (bP rfl rfl (fH lV cA rfl h_7))) <| tS (v := (eI .u32 x25)) (sv (aI rfl (gG (E := (eI .u32)) (y := x25) cA rfl rfl (bS h_7)))) <| tS (sv (bE rfl)) <| tS (sv (bE rfl)) <| tS (sv (bE rfl)) <| tS (sv (bE rfl)) <| OpsTo.nil <| Ex.then_mk <| AB.seq ?_
  obtain ⟨x27, h_8, hr⟩ := aN hr
  obtain ⟨x29, h_9, hr⟩ := aN hr
  obtain ⟨gX, h_10, hr⟩ := aN hr
  obtain ⟨gH, h_11, hr⟩ := aN hr
  refine AB.rg E0 (fun _ => by show dR (fun _ => false) _ = true; decide +kernel) <| tS (v := (.ptr 0 (Int.toNat 4))) (sv (bP rfl rfl (fH lV cA rfl h_8))) <| tS (v := (eI .u32 x27)) (sv (aI rfl (gG (E := (eI .u32)) (y := x27) cA rfl rfl (bS h_8)))) <| tS (v := (.ptr 0 (Int.toNat 5))) (sv (bP rfl rfl (fH lV cA rfl h_9))) <| tS (v := (eI .u32 x29)) (sv (aI rfl (gG (E := (eI .u32)) (y := x29) cA rfl rfl (bS h_9)))) <| tS (v := (.ptr 0 (Int.toNat 6))) (sv (bP rfl rfl (fH lV cA rfl h_10))) ?_
  refine tS (v := (eI .u32 gX)) (sv (aI rfl (gG (E := (eI .u32)) (y := gX) cA rfl rfl (bS h_10)))) <| tS (v := (.ptr 0 (Int.toNat 7))) (sv (bP rfl rfl (fH lV cA rfl h_11))) <| tS (v := (eI .u32 gH)) (sv (aI rfl (gG (E := (eI .u32)) (y := gH) cA rfl rfl (bS h_11)))) <| tS (sv (bE rfl)) <| tS (sv (bE rfl)) <| tS (sv (bE rfl)) <| tS (sv (bE rfl)) <| OpsTo.nil <| Ex.then_mk ?_
  refine AB.seq_g fun K1 hK1 hG1 => ?_
  have J1 : ∀ (va : Int) (b : Int) (c : Int) (d : Int) (ve : Int) (f : Int) (g : Int) (vh : Int), rA N iD va b c d ve f g vh = some r → K1 (aV 131 [(2, (.ptr 0 0)), (4, (.ptr 1 0)), (6, (eI .u32 va)), (7, (eI .u32 b)), (8, (eI .u32 c)), (9, (eI .u32 d)), (10, (eI .u32 ve)), (11, (eI .u32 f)), (12, (eI .u32 g)), (13, (eI .u32 vh))]) [some ⟨95, iD.map (eI .u32)⟩, some ⟨95, (List.replicate 8 0).map (eI .u32)⟩] := by
    intro va b c d ve f g vh hr
    unfold rA at hr
    refine hK1 _ _ <| AB.seq ?_
    obtain ⟨x98, h_12, hr⟩ := aN hr
    obtain ⟨u4, h_13, hr⟩ := aN hr
    obtain ⟨nO, h_14, hr⟩ := aN hr
    obtain ⟨aDb, h_15, hr⟩ := aN hr
    obtain ⟨uV, h_16, hr⟩ := aN hr
    obtain ⟨aDd, h_17, hr⟩ := aN hr
    obtain ⟨aDo, h_18, hr⟩ := aN hr
    obtain ⟨aDy, h_19, hr⟩ := aN hr
    refine AB.rw <| zw (v := (.ptr 0 (Int.toNat 0))) (bP rfl rfl (fH lV cA rfl h_12)) <| zw (v := (eI .u32 x98)) (aI rfl (gG (E := (eI .u32)) (y := x98) cA rfl rfl (bS h_12))) <| zm rfl <| dG rfl rfl <| zw (v := (.ptr 0 (Int.toNat 1))) (bP rfl rfl (fH lV cA rfl h_13)) <| zw (v := (eI .u32 u4)) (aI rfl (gG (E := (eI .u32)) (y := u4) cA rfl rfl (bS h_13))) <| zm rfl <| dG rfl rfl <| zw (v := (.ptr 0 (Int.toNat 2))) (bP rfl rfl (fH lV cA rfl h_14)) <| zw (v := (eI .u32 nO)) (aI rfl (gG (E := (eI .u32)) (y := nO) cA rfl rfl (bS h_14))) ?_
    refine zm rfl <| dG rfl rfl <| zw (v := (.ptr 0 (Int.toNat 3))) (bP rfl rfl (fH lV cA rfl h_15)) <| zw (v := (eI .u32 aDb)) (aI rfl (gG (E := (eI .u32)) (y := aDb) cA rfl rfl (bS h_15))) <| zm rfl <| dG rfl rfl <| zw (v := (.ptr 0 (Int.toNat 4))) (bP rfl rfl (fH lV cA rfl h_16)) <| zw (v := (eI .u32 uV)) (aI rfl (gG (E := (eI .u32)) (y := uV) cA rfl rfl (bS h_16))) <| zm rfl <| dG rfl rfl <| zw (v := (.ptr 0 (Int.toNat 5))) (bP rfl rfl (fH lV cA rfl h_17)) ?_
    refine zw (v := (eI .u32 aDd)) (aI rfl (gG (E := (eI .u32)) (y := aDd) cA rfl rfl (bS h_17))) <| zm rfl <| dG rfl rfl <| zw (v := (.ptr 0 (Int.toNat 6))) (bP rfl rfl (fH lV cA rfl h_18)) <| zw (v := (eI .u32 aDo)) (aI rfl (gG (E := (eI .u32)) (y := aDo) cA rfl rfl (bS h_18))) <| zm rfl <| dG rfl rfl <| zw (v := (.ptr 0 (Int.toNat 7))) (bP rfl rfl (fH lV cA rfl h_19)) <| zw (v := (eI .u32 aDy)) (aI rfl (gG (E := (eI .u32)) (y := aDy) cA rfl rfl (bS h_19))) <| zm rfl <| dG rfl rfl ?_
    refine zw (v := (.agg ([IntKind.u32.wrap (x98 + va), IntKind.u32.wrap (u4 + b), IntKind.u32.wrap (nO + c), IntKind.u32.wrap (aDb + d), IntKind.u32.wrap (uV + ve), IntKind.u32.wrap (aDd + f), IntKind.u32.wrap (aDo + g), IntKind.u32.wrap (aDy + vh)].map (eI .u32)))) (cI rfl (rW lV cA rfl)) <| zt (aU rfl rfl (eQ (E := (eI .u32)) (l := List.replicate 8 0) lV rfl rfl (fun _ => rfl) rfl rfl rfl)) ?_
    refine zn <| AB.ret ?_
    obtain rfl := sj hr
    exact bU (r1 := (.agg ([IntKind.u32.wrap (x98 + va), IntKind.u32.wrap (u4 + b), IntKind.u32.wrap (nO + c), IntKind.u32.wrap (aDb + d), IntKind.u32.wrap (uV + ve), IntKind.u32.wrap (aDd + f), IntKind.u32.wrap (aDo + g), IntKind.u32.wrap (aDy + vh)].map (eI .u32)))) (nH Tryd.results46 (jU rfl (b6 (E := (eI .u32)) (l := [IntKind.u32.wrap (x98 + va), IntKind.u32.wrap (u4 + b), IntKind.u32.wrap (nO + c), IntKind.u32.wrap (aDb + d), IntKind.u32.wrap (uV + ve), IntKind.u32.wrap (aDd + f), IntKind.u32.wrap (aDo + g), IntKind.u32.wrap (aDy + vh)]) lV rfl rfl rfl))) (zG [])
  refine zq <| zI <| zn ?_
  obtain ⟨cL, hL2, hr⟩ := aN hr
  refine AB.block ?_
  refine AB.loopN (fun m s h => ∃ (va_1 : Int) (b_1 : Int) (c_1 : Int) (d_1 : Int) (ve_1 : Int) (f_1 : Int) (g_1 : Int) (vh_1 : Int) (x35 : Int), kF N iD x18 m va_1 b_1 c_1 d_1 ve_1 f_1 g_1 vh_1 x35 = some cL ∧ Ghost 0 s h (aV 131 [(2, (.ptr 0 0)), (4, (.ptr 1 0)), (5, (.ptr 2 0)), (6, (eI .u32 va_1)), (7, (eI .u32 b_1)), (8, (eI .u32 c_1)), (9, (eI .u32 d_1)), (10, (eI .u32 ve_1)), (11, (eI .u32 f_1)), (12, (eI .u32 g_1)), (13, (eI .u32 vh_1)), (35, (eI .i64 x35))]) [some ⟨95, iD.map (eI .u32)⟩, some ⟨95, (List.replicate 8 0).map (eI .u32)⟩, some ⟨109, x18.map (eI .u32)⟩]) (n := N) ⟨x19, iH, kX, x25, x27, x29, gX, gH, 0, hL2, (zG [0, 2, 3])⟩ (by rintro s h ⟨_, _, _, _, _, _, _, _, _, h0, _⟩; simp [kF] at h0) ?_
  rintro m2 s h ⟨va_1, b_1, c_1, d_1, ve_1, f_1, g_1, vh_1, x35, hr2, hg⟩
  refine AB.ghost hg ?_
  clear hg hL2
  rw [kF] at hr2
  refine zq <| eY rfl rfl <| zn <| AB.seq ?_
  refine zk hr2 rfl (fun h20 hr2 => ?_) (fun h20 hr2 => ?_)
  · refine AB.skip <| Ex.then_mk <| AB.seq <| AB.block <| zq <| zm rfl <| za rfl <| zn <| AB.seq ?_
    obtain ⟨x40, h_21, hr2⟩ := aN hr2
    obtain ⟨x42, h_23, hr2⟩ := aN hr2
    obtain ⟨x45, h_25, hr2⟩ := aN hr2
    obtain ⟨x58, h_27, hr2⟩ := aN hr2
    obtain ⟨x62, h_28, hr2⟩ := aN hr2
    refine AB.rd (dQ [57]) (dQ []) mixed <| dO 27 0 rfl rfl <| dO 26 1 rfl rfl <| DrawG.pick (n := 25) (i := 2) (by decide +kernel) rfl (gU (fun _ => (Vm.Fn.pure (j4 N ve_1 6 x40 h_21) rfl rfl)) rfl (sv (bN rfl c5))) <| dO 24 3 rfl rfl <| DrawG.pick (n := 23) (i := 4) (by decide +kernel) rfl (gU (fun _ => (Vm.Fn.pure (j4 N ve_1 11 x42 h_23) rfl rfl)) rfl (sv (bN rfl c5))) <| zp 22 5 rfl (bH (v := (eI .u32 (bits .xor .u32 x40 x42))) (a9 rfl rfl (uF ..))) <| dO 21 6 rfl rfl ?_
    refine DrawG.pick (n := 20) (i := 7) (by decide +kernel) rfl (gU (fun _ => (Vm.Fn.pure (j4 N ve_1 25 x45 h_25) rfl rfl)) rfl (sv (bN rfl c5))) <| zp 19 8 rfl (bH (v := (eI .u32 (bits .xor .u32 (bits .xor .u32 x40 x42) x45))) (a9 rfl rfl (uF ..))) <| zp 18 9 rfl (bH (v := (eI .u32 (IntKind.u32.wrap (vh_1 + (bits .xor .u32 (bits .xor .u32 x40 x42) x45))))) (a9 rfl rfl (qJ ..))) <| dO 17 10 rfl rfl <| dO 16 11 rfl rfl <| zp 15 12 rfl (bH (v := (eI .u32 (bits .and .u32 ve_1 f_1))) (a9 rfl rfl (aE3 ..))) <| dO 14 13 rfl rfl ?_
    refine zp 13 14 rfl (bH (v := (eI .u32 (bits .xor .u32 (IntKind.max .u32) ve_1))) (f9 rfl (aLe rfl _))) <| dO 12 15 rfl rfl <| zp 11 16 rfl (bH (v := (eI .u32 (bits .and .u32 (bits .xor .u32 (IntKind.max .u32) ve_1) g_1))) (a9 rfl rfl (aE3 ..))) <| zp 10 17 rfl (bH (v := (eI .u32 (bits .xor .u32 (bits .and .u32 ve_1 f_1) (bits .and .u32 (bits .xor .u32 (IntKind.max .u32) ve_1) g_1)))) (a9 rfl rfl (uF ..))) ?_
    refine zp 9 18 rfl (bH (v := (eI .u32 (IntKind.u32.wrap ((IntKind.u32.wrap (vh_1 + (bits .xor .u32 (bits .xor .u32 x40 x42) x45))) + (bits .xor .u32 (bits .and .u32 ve_1 f_1) (bits .and .u32 (bits .xor .u32 (IntKind.max .u32) ve_1) g_1)))))) (a9 rfl rfl (qJ ..))) <| dO 8 19 rfl rfl <| zp 7 20 rfl (bH (v := (.eptr [(.agg (aEH.map (eI .u32)))] 0 (Int.toNat x35))) (bP rfl rfl (iaG mD cA rfl h_27))) <| zp 6 21 rfl (bH (v := (eI .u32 x58)) (aI rfl (ldG (E := (eI .u32)) (y := x58) cA rfl (bS h_27)))) ?_
    refine zp 5 22 rfl (bH (v := (eI .u32 (IntKind.u32.wrap ((IntKind.u32.wrap ((IntKind.u32.wrap (vh_1 + (bits .xor .u32 (bits .xor .u32 x40 x42) x45))) + (bits .xor .u32 (bits .and .u32 ve_1 f_1) (bits .and .u32 (bits .xor .u32 (IntKind.max .u32) ve_1) g_1)))) + x58)))) (a9 rfl rfl (qJ ..))) <| dO 4 23 rfl rfl <| zp 3 24 rfl (bH (v := (.ptr 2 (Int.toNat x35))) (bP rfl rfl (fH mD cA rfl h_28))) <| zp 2 25 rfl (bH (v := (eI .u32 x62)) (aI rfl (gG (E := (eI .u32)) (y := x62) cA rfl rfl (bS h_28)))) ?_
    refine zp 1 26 rfl (bH (v := (eI .u32 (IntKind.u32.wrap ((IntKind.u32.wrap ((IntKind.u32.wrap ((IntKind.u32.wrap (vh_1 + (bits .xor .u32 (bits .xor .u32 x40 x42) x45))) + (bits .xor .u32 (bits .and .u32 ve_1 f_1) (bits .and .u32 (bits .xor .u32 (IntKind.max .u32) ve_1) g_1)))) + x58)) + x62)))) (a9 rfl rfl (qJ ..))) <| nL 0 27 rfl rfl <| DrawG.nil (by decide +kernel) <| Ex.then_mk <| AB.seq ?_
    obtain ⟨x66, h_29, hr2⟩ := aN hr2
    obtain ⟨x68, h_30, hr2⟩ := aN hr2
    obtain ⟨x71, h_31, hr2⟩ := aN hr2
    refine AB.rw <| zm rfl <| wC rfl (Vm.Fn.pure (j4 N va_1 2 x66 h_29) rfl rfl) <| zm rfl <| wC rfl (Vm.Fn.pure (j4 N va_1 13 x68 h_30) rfl rfl) <| zqX rfl rfl <| zm rfl <| wC rfl (Vm.Fn.pure (j4 N va_1 22 x71 h_31) rfl rfl) <| zqX rfl rfl <| zm rfl <| zm rfl <| zqA rfl rfl <| zm rfl <| zm rfl <| zqA rfl rfl <| zqX rfl rfl <| zm rfl <| zm rfl <| zqA rfl rfl <| zqX rfl rfl <| dG rfl rfl <| za rfl <| zn <| AB.rw <| zm rfl <| zm rfl <| dG rfl rfl <| zm rfl <| zm rfl <| zm rfl <| zm rfl <| zm rfl <| dG rfl rfl <| zm rfl <| zm rfl <| zm rfl <| za rfl <| za rfl <| za rfl ?_
    refine za rfl <| za rfl <| za rfl <| za rfl <| za rfl <| OpsW.nil <| Ex.inBlock_mk <| Ex.then_mk <| AB.rw <| dG rfl rfl <| zm rfl <| zn ?_
    exact ⟨IntKind.u32.wrap ((IntKind.u32.wrap ((IntKind.u32.wrap ((IntKind.u32.wrap ((IntKind.u32.wrap (vh_1 + (bits .xor .u32 (bits .xor .u32 x40 x42) x45))) + (bits .xor .u32 (bits .and .u32 ve_1 f_1) (bits .and .u32 (bits .xor .u32 (IntKind.max .u32) ve_1) g_1)))) + x58)) + x62)) + (IntKind.u32.wrap ((bits .xor .u32 (bits .xor .u32 x66 x68) x71) + (bits .xor .u32 (bits .xor .u32 (bits .and .u32 va_1 b_1) (bits .and .u32 va_1 c_1)) (bits .and .u32 b_1 c_1))))), va_1, b_1, c_1, IntKind.u32.wrap (d_1 + (IntKind.u32.wrap ((IntKind.u32.wrap ((IntKind.u32.wrap ((IntKind.u32.wrap (vh_1 + (bits .xor .u32 (bits .xor .u32 x40 x42) x45))) + (bits .xor .u32 (bits .and .u32 ve_1 f_1) (bits .and .u32 (bits .xor .u32 (IntKind.max .u32) ve_1) g_1)))) + x58)) + x62))), ve_1, f_1, g_1, IntKind.i64.wrap (x35 + 1), hr2, (zG [0, 1, 2])⟩
  · refine AB.exit <| Ex.then_exit_mk <| Ex.then_exit_mk <| Ex.inBlock_same_mk ?_
    obtain rfl := sj hr2
    refine Ex.then_mk ?_
    exact hG1 _ _ _ _ (zG [0, 1]) (J1 va_1 b_1 c_1 d_1 ve_1 f_1 g_1 vh_1 hr)
theorem yF (N : Nat) (b : List Int) (r : (List Int)) (hr : t9 N b = some r) :
    Vm.Fn Tryd.prog 35 [] [(.row none 1 (b.map (eI .u8)))] (.agg (r.map (eI .u8))) [] := by
  refine zf Tryd.func35 Tryd.ntmps35 ?_
  unfold t9 at hr
  refine zq <| zh (v := (.ptr 0 0)) (cK (B := some ⟨36, (List.replicate 32 0).map (eI .u8)⟩) dL rfl rfl) ?_
  refine zn <| AB.seq ?_
  obtain ⟨fF, h_1, hr⟩ := aN hr
  obtain ⟨bO, h_2, hr⟩ := aN hr
  refine AB.rw <| zm rfl <| zm rfl <| eT rfl bG <| zw (dA rfl (cE _ ⟨_, dN⟩ bV rfl)) <| wC (v := (.sl 1 0 fF.length 1 false)) rfl (zB (aIE N (IntKind.u64.wrap (b.length : Int)) fF h_1) []) ?_
  refine OpsW.ghost (zV [(0, (.row none 1 (b.map (eI .u8)))), (2, (.ptr 0 0)), (8, (.row none 1 (b.map (eI .u8)))), (9, (.row none 1 (b.map (eI .u8)))), (10, (eI .i64 (b.length : Int))), (11, (eI .u64 (IntKind.u64.wrap (b.length : Int)))), (12, (.row none 1 (fF.map (eI .u8))))] [some ⟨36, (List.replicate 32 0).map (eI .u8)⟩, none]) <| zh (v := (.sl 2 0 2 1 false)) (e9 rfl (oQ (xs := [b, fF].map (eL 1 (eI .u8))) b5 bG zl zl rfl rfl rfl rfl rfl rfl rfl)) ?_
  refine wC (v := (.sl 3 0 bO.length 1 false)) (h' := [some ⟨36, (List.replicate 32 0).map (eI .u8)⟩, none, some ⟨42, [b, fF].map (eL 1 (eI .u8))⟩, some ⟨5, bO.map (eI .u8)⟩]) rfl (zL (aD4 N [b, fF] bO h_2) [] [2]) <| za rfl <| zn <| zq <| zw (v := (.agg (xP.map (eI .u32)))) (aI rfl (aG1 (E := (eI .u32)) (l := xP) lV rfl rfl)) <| zh (v := (.ptr 4 0)) (cK (B := some ⟨95, (List.replicate 8 0).map (eI .u32)⟩) lV rfl rfl) ?_
  refine zt (aU rfl rfl (eQ (E := (eI .u32)) (l := List.replicate 8 0) lV rfl rfl (fun _ => rfl) rfl rfl rfl)) ?_
  refine zn ?_
  refine AB.seq_g fun K1 hK1 hG1 => ?_
  have J1 : ∀ (l1 : List Int), yC N l1 = some r → K1 (aV 48 [(2, (.ptr 0 0)), (4, (.ptr 1 0))]) [some ⟨36, (List.replicate 32 0).map (eI .u8)⟩, some ⟨95, l1.map (eI .u32)⟩] := by
    intro l1 hr
    unfold yC at hr
    refine hK1 _ _ <| zq <| zh (v := (.ptr 2 0)) (cK (B := some ⟨36, (List.replicate 32 0).map (eI .u8)⟩) dL rfl rfl) ?_
    refine zn ?_
    refine AB.seq_g fun K2 hK2 hG2 => ?_
    have J2 : ∀ (eJ : List Int), yO N eJ = some r → K2 (aV 48 [(2, (.ptr 0 0)), (6, (.ptr 1 0))]) [some ⟨36, (List.replicate 32 0).map (eI .u8)⟩, some ⟨36, eJ.map (eI .u8)⟩] := by
      intro eJ hr
      unfold yO at hr
      refine hK2 _ _ <| AB.seq ?_
      obtain ⟨q, h_3, hr⟩ := aN hr
      refine AB.rw <| zw (v := (.agg (eJ.map (eI .u8)))) (aI rfl (b6 (E := (eI .u8)) (l := eJ) dL rfl rfl (aP h_3))) <| zt (aU rfl rfl (eQ (E := (eI .u8)) (l := List.replicate 32 0) dL rfl rfl (fun _ => rfl) rfl (aP h_3) rfl)) ?_
      refine zn <| AB.ret ?_
      obtain rfl := sj hr
      exact bU (r1 := (.agg (eJ.map (eI .u8)))) (nH Tryd.results35 (jU rfl (b6 (E := (eI .u8)) (l := eJ) dL rfl rfl (aP h_3)))) (zG [])
    refine zq <| zI <| zn ?_
    obtain ⟨j5, hL3, hr⟩ := aN hr
    refine AB.block <| AB.loopN (fun m s h => ∃ (gX : Int) (l2 : List Int), pX N l1 m gX l2 = some j5 ∧ Ghost 0 s h (aV 48 [(2, (.ptr 0 0)), (4, (.ptr 1 0)), (6, (.ptr 2 0)), (31, (eI .i64 gX))]) [some ⟨36, (List.replicate 32 0).map (eI .u8)⟩, some ⟨95, l1.map (eI .u32)⟩, some ⟨36, l2.map (eI .u8)⟩]) (n := N) ⟨0, List.replicate 32 0, hL3, (zG [0, 1, 2])⟩ (by rintro s h ⟨_, _, h0, _⟩; simp [pX] at h0) ?_
    rintro m3 s h ⟨gX, l2, hr3, hg⟩
    refine AB.ghost hg ?_
    clear hg hL3
    rw [pX] at hr3
    refine zq <| eY rfl rfl <| zn <| AB.seq ?_
    refine zk hr3 rfl (fun h4 hr3 => ?_) (fun h4 hr3 => ?_)
    · refine AB.skip <| Ex.then_mk <| AB.seq <| AB.block <| zq <| zm rfl <| za rfl <| zn ?_
      obtain ⟨x37, h_5, hr3⟩ := aN hr3
      obtain ⟨x43, h_6, hr3⟩ := aN hr3
      obtain ⟨x45, h_7, hr3⟩ := aN hr3
      refine AB.rw <| zm rfl <| zm rfl <| zw (v := (eI .i64 (IntKind.i64.wrap (Int.tdiv gX 4)))) (a9 rfl rfl (aAp _ _ _ _ rfl)) <| zw (v := (.ptr 1 (Int.toNat (IntKind.i64.wrap (Int.tdiv gX 4))))) (bP rfl rfl (fH lV cA rfl h_5)) <| zw (v := (eI .u32 x37)) (aI rfl (gG (E := (eI .u32)) (y := x37) cA rfl rfl (bS h_5))) <| zm rfl <| zw (v := (eI .i64 (Int.tmod gX 4))) (a9 rfl rfl (zC _ _ _ _ rfl)) <| z4 rfl rfl <| vP rfl rfl <| zw (a9 rfl rfl (gZ _ _ _ _ h_6)) <| zw (dA rfl (cE _ ⟨_, cA⟩ cC rfl)) ?_
      refine zw (v := (.ptr 2 (Int.toNat gX))) (bP rfl rfl (fH dL cC rfl h_7)) <| zt (aU rfl rfl (s6 (E := (eI .u8)) (y := IntKind.u8.wrap x43) cC rfl rfl (bS h_7) rfl rfl rfl)) ?_
      refine OpsW.nil <| Ex.inBlock_mk <| Ex.then_mk <| AB.rw <| dG rfl rfl <| zm rfl <| zn ?_
      exact ⟨IntKind.i64.wrap (gX + 1), l2.set (Int.toNat gX) (IntKind.u8.wrap x43), hr3, (zG [0, 1, 2])⟩
    · refine AB.exit <| Ex.then_exit_mk <| Ex.then_exit_mk <| Ex.inBlock_same_mk ?_
      obtain rfl := sj hr3
      refine Ex.then_mk ?_
      exact hG2 _ _ _ _ (zG [0, 2]) (J2 l2 hr)
  refine zq <| zm rfl <| zw (v := (eI .i64 (bO.length : Int))) (gQ rfl (pQ bG)) <| zw (v := (eI .i64 (IntKind.i64.wrap (Int.tdiv (bO.length : Int) 64)))) (a9 rfl rfl (aAp _ _ _ _ rfl)) <| zI <| zn ?_
  refine AB.ghost (zV [(0, (.row none 1 (b.map (eI .u8)))), (2, (.ptr 0 0)), (3, (.row none 1 (bO.map (eI .u8)))), (4, (.ptr 4 0)), (8, (.row none 1 (b.map (eI .u8)))), (9, (.row none 1 (b.map (eI .u8)))), (10, (eI .i64 (b.length : Int))), (11, (eI .u64 (IntKind.u64.wrap (b.length : Int)))), (12, (.row none 1 (fF.map (eI .u8)))), (13, (.sl 2 0 2 1 false)), (14, (.row none 1 (bO.map (eI .u8)))), (15, (.agg (xP.map (eI .u32)))), (16, (.row none 1 (bO.map (eI .u8)))), (17, (eI .i64 (bO.length : Int))), (18, (eI .i64 (IntKind.i64.wrap (Int.tdiv (bO.length : Int) 64)))), (19, (eI .i64 0))] [some ⟨36, (List.replicate 32 0).map (eI .u8)⟩, none, some ⟨42, [b, fF].map (eL 1 (eI .u8))⟩, none, some ⟨95, xP.map (eI .u32)⟩]) ?_
  obtain ⟨res4, hL4, hr⟩ := aN hr
  refine AB.block <| AB.loopN (fun m s h => ∃ (x19 : Int) (l1_2 : List Int), pH N bO m x19 l1_2 = some res4 ∧ Ghost 0 s h (aV 48 [(2, (.ptr 0 0)), (3, (.row none 1 (bO.map (eI .u8)))), (4, (.ptr 1 0)), (18, (eI .i64 (IntKind.i64.wrap (Int.tdiv (bO.length : Int) 64)))), (19, (eI .i64 x19))]) [some ⟨36, (List.replicate 32 0).map (eI .u8)⟩, some ⟨95, l1_2.map (eI .u32)⟩]) (n := N) ⟨0, xP, hL4, (zG [0, 4])⟩ (by rintro s h ⟨_, _, h0, _⟩; simp [pH] at h0) ?_
  rintro m4 s h ⟨x19, l1_2, hr4, hg⟩
  refine AB.ghost hg ?_
  clear hg hL4
  rw [pH] at hr4
  refine zq <| eY rfl rfl <| zn <| AB.seq ?_
  refine zk hr4 rfl (fun h8 hr4 => ?_) (fun h8 hr4 => ?_)
  · refine AB.skip <| Ex.then_mk <| AB.seq <| AB.block <| zq <| zm rfl <| za rfl <| zn ?_
    obtain ⟨q_1, h_9, hr4⟩ := aN hr4
    obtain ⟨x26, h_10, hr4⟩ := aN hr4
    obtain ⟨x27, h_11, hr4⟩ := aN hr4
    obtain ⟨x29, h_12, hr4⟩ := aN hr4
    obtain ⟨q_2, h_14, hr4⟩ := aN hr4
    have hc13 : Vm.Fn Tryd.prog 46 [some ⟨36, (List.replicate 32 0).map (eI .u8)⟩, some ⟨95, l1_2.map (eI .u32)⟩] [(.agg (l1_2.map (eI .u32))), (.agg (x27.map (eI .u8)))] (.agg (x29.map (eI .u32))) [some ⟨36, (List.replicate 32 0).map (eI .u8)⟩, some ⟨95, l1_2.map (eI .u32)⟩] := (Vm.Fn.pure (aED N l1_2 x27 x29 h_12) zR zR)
    refine AB.rg (Env.one mixed hc13 fS (fun _ _ => rfl)) (fun _ => by show dR fS _ = true; decide +kernel) <| tS (v := (.agg (l1_2.map (eI .u32)))) (sv (aI rfl (b6 (E := (eI .u32)) (l := l1_2) lV rfl rfl (aP h_9)))) <| tS (sv (bI rfl)) <| tS (sv (bI rfl)) <| tS (v := (eI .i64 (IntKind.i64.wrap (64 * x19)))) (sv (a9 rfl rfl (aCI ..))) <| tS (v := (.row none 1 (x26.map (eI .u8)))) (sv (eC rfl rfl rfl (yA bG cC rfl rfl h_10))) <| tS (v := (.eptr [.agg (x27.map (eI .u8))] 0 0)) (sv (aBu rfl (apR (E := (eI .u8)) aI1 (fun _ => rfl) zl h_11))) ?_
    refine tS (v := (.agg (x27.map (eI .u8)))) (sv (aI rfl (aG1 (E := (eI .u8)) (l := x27) aI1 rfl (qH h_11)))) <| tS (v := (.agg (x29.map (eI .u32)))) (h' := [some ⟨36, (List.replicate 32 0).map (eI .u8)⟩, some ⟨95, l1_2.map (eI .u32)⟩]) (sv (bN rfl Env.one_O)) <| tN (h' := [some ⟨36, (List.replicate 32 0).map (eI .u8)⟩, some ⟨95, x29.map (eI .u32)⟩]) (sv (aU rfl rfl (eQ (E := (eI .u32)) (l := l1_2) lV rfl rfl (fun _ => rfl) (aP h_9) (aP h_14) rfl))) <| OpsTo.nil <| Ex.inBlock_mk <| Ex.then_mk <| AB.rw <| dG rfl rfl <| zm rfl <| zn ?_
    exact ⟨IntKind.i64.wrap (x19 + 1), x29, hr4, (zG [0, 1])⟩
  · refine AB.exit <| Ex.then_exit_mk <| Ex.then_exit_mk <| Ex.inBlock_same_mk ?_
    obtain rfl := sj hr4
    refine Ex.then_mk ?_
    exact hG1 _ _ _ _ (zG [0, 1]) (J1 l1_2 hr)
theorem vM (N : Nat) (b : List Int) (r : (List Int)) (hr : mX N b = some r) :
    Vm.Fn Tryd.prog 26 [] [(.row none 1 (b.map (eI .u8)))] (.row none 1 (r.map (eI .u8))) [] := by
  refine zf Tryd.func26 Tryd.ntmps26 ?_
  unfold mX at hr
  refine zq <| zw (v := (.row (some true) 1 [])) (bE rfl) <| zn <| AB.seq ?_
  obtain ⟨x5, h_1, hr⟩ := aN hr
  obtain ⟨q, h_2, hr⟩ := aN hr
  refine AB.rw <| zm rfl <| wC rfl (Vm.Fn.pure (yF N b x5 h_1) rfl zR) <| zh (v := (.ptr 0 0)) (cK (B := some ⟨36, (List.replicate 32 0).map (eI .u8)⟩) dL rfl rfl) ?_
  refine zt (aU rfl rfl (eQ (E := (eI .u8)) (l := List.replicate 32 0) dL rfl rfl (fun _ => rfl) rfl (aP h_2) rfl)) ?_
  refine zn <| zq <| zw (v := (.sl 0 0 32 1 false)) (eC rfl rfl rfl (slA (E := (eI .u8)) (l := x5) dL cC rfl rfl rfl (aP h_2) ⟨zl, zl⟩)) <| za rfl <| zn <| AB.ret ?_
  obtain rfl := sj hr
  exact bU (r1 := (.sl 0 0 32 1 false)) (nH Tryd.results26 (iS rfl)) (Ghost.trans (Ghost.conv (fr' := [(0, (.row none 1 (x5.map (eI .u8))))]) (h' := [none]) (FCv.cons rfl (Conv.row (aZ rfl) rfl rfl (m9 (fun _ => rfl)) (by first | rfl | (simp only [List.length_map, cN, cO]; done) | (rw [List.length_map]; exact Eq.symm (aP h_2)))) FCv.nil) (HCv.dead HCv.nil)) (zG []))
theorem aBS (N : Nat) (tag : ByteArray) (b : List Int) (r : (List Int)) (hr : sJ N tag b = some r) :
    Vm.Fn Tryd.prog 24 [] [(eS tag), (.row none 1 (b.map (eI .u8)))] (.agg (r.map (eI .u8))) [] := by
  refine zf Tryd.func24 Tryd.ntmps24 ?_
  unfold sJ at hr
  refine zq <| zh (v := (.ptr 0 0)) (cK (B := some ⟨36, (List.replicate 32 0).map (eI .u8)⟩) dL rfl rfl) ?_
  refine zn <| AB.seq ?_
  obtain ⟨x7, h_1, hr⟩ := aN hr
  obtain ⟨x8, h_2, hr⟩ := aN hr
  obtain ⟨q, h_3, hr⟩ := aN hr
  refine AB.rw <| zm rfl <| aM0 (h' := [some ⟨36, (List.replicate 32 0).map (eI .u8)⟩, some ⟨5, x7.map (eI .u8)⟩]) rfl ti9 bG cC h_1 rfl rfl <| wC (v := (.agg (x8.map (eI .u8)))) (h' := [some ⟨36, (List.replicate 32 0).map (eI .u8)⟩, some ⟨5, x7.map (eI .u8)⟩]) rfl (zL (yF N x7 x8 h_2) [] [1]) <| zh (v := (.ptr 2 0)) (cK (B := some ⟨36, (List.replicate 32 0).map (eI .u8)⟩) dL rfl rfl) ?_
  refine zt (aU rfl rfl (eQ (E := (eI .u8)) (l := List.replicate 32 0) dL rfl rfl (fun _ => rfl) rfl (aP h_3) rfl)) ?_
  refine zn <| AB.seq ?_
  obtain ⟨cJ, h_4, hr⟩ := aN hr
  obtain ⟨bO, h_6, hr⟩ := aN hr
  obtain ⟨q_1, h_8, hr⟩ := aN hr
  refine AB.rd (dQ []) (dQ [35, 36]) mixed <| zp 6 0 rfl (bH (v := (.sl 2 0 32 1 false)) (eC rfl rfl rfl (slA (E := (eI .u8)) (l := x8) dL cC rfl rfl rfl (aP h_3) ⟨zl, zl⟩))) <| zp 5 1 rfl (bH (v := (.sl 2 0 32 1 false)) (eC rfl rfl rfl (slA (E := (eI .u8)) (l := x8) dL cC rfl rfl rfl (aP h_3) ⟨zl, zl⟩))) <| dO 4 2 rfl rfl ?_
  refine DrawG.gh (n := 3) (by decide +kernel) (Ghost.conv (fr' := [(0, (eS tag)), (1, (.row none 1 (b.map (eI .u8)))), (4, (.ptr 0 0)), (5, (.ptr 2 0)), (6, (eS tag)), (7, (.sl 1 0 x7.length 1 false)), (8, (.agg (x8.map (eI .u8)))), (9, (.row none 1 (x8.map (eI .u8)))), (10, (.row none 1 (x8.map (eI .u8)))), (11, (.row none 1 (b.map (eI .u8))))]) (h' := [some ⟨36, (List.replicate 32 0).map (eI .u8)⟩, some ⟨5, x7.map (eI .u8)⟩, none]) (FCv.cons rfl (Conv.same (aZ rfl)) (FCv.cons rfl (Conv.same (aZ rfl)) (FCv.cons rfl (Conv.same (aZ rfl)) (FCv.cons rfl (Conv.same (aZ rfl)) (FCv.cons rfl (Conv.same (aZ rfl)) (FCv.cons rfl (Conv.same (aZ rfl)) (FCv.cons rfl (Conv.same (aZ rfl)) (FCv.cons rfl (Conv.row (aZ rfl) rfl rfl (m9 (fun _ => rfl)) (by first | rfl | (simp only [List.length_map, cN, cO]; done) | (rw [List.length_map]; exact Eq.symm (aP h_3)))) (FCv.cons rfl (Conv.row (aZ rfl) rfl rfl (m9 (fun _ => rfl)) (by first | rfl | (simp only [List.length_map, cN, cO]; done) | (rw [List.length_map]; exact Eq.symm (aP h_3)))) (FCv.cons rfl (Conv.same (aZ rfl)) FCv.nil)))))))))) (HCv.live (Convs.same (aZ rfl)) (all_map (fun _ => rfl) _) (HCv.live (Convs.same (aZ rfl)) (all_map (fun _ => rfl) _) (HCv.dead HCv.nil)))) ?_
  refine zp 3 3 rfl (bH (v := (.sl 3 0 3 1 false)) (h' := [some ⟨36, (List.replicate 32 0).map (eI .u8)⟩, some ⟨5, x7.map (eI .u8)⟩, none, some ⟨42, [x8, x8, b].map (eL 1 (eI .u8))⟩]) (e9 rfl (oQ (xs := [x8, x8, b].map (eL 1 (eI .u8))) b5 bG zl zl rfl rfl rfl rfl rfl rfl rfl))) ?_
  refine DrawG.pick (n := 2) (i := 4) (by decide +kernel) rfl (gC (v := (.sl 4 0 cJ.length 1 false)) (h' := [some ⟨36, (List.replicate 32 0).map (eI .u8)⟩, some ⟨5, x7.map (eI .u8)⟩, none, some ⟨42, [x8, x8, b].map (eL 1 (eI .u8))⟩, some ⟨5, cJ.map (eI .u8)⟩]) (zL (aD4 N [x8, x8, b] cJ h_4) [] [3]) rfl (fun _ => ⟨_, rfl⟩) (sv (bN rfl d5))) ?_
  refine DrawG.pick (n := 1) (i := 5) (by decide +kernel) rfl (gC (v := (.agg (bO.map (eI .u8)))) (h' := [some ⟨36, (List.replicate 32 0).map (eI .u8)⟩, some ⟨5, x7.map (eI .u8)⟩, none, some ⟨42, [x8, x8, b].map (eL 1 (eI .u8))⟩, some ⟨5, cJ.map (eI .u8)⟩]) (zL (yF N cJ bO h_6) [] [4]) rfl (fun _ => ⟨[], by simp⟩) (sv (bN rfl d5))) ?_
  refine zp 0 6 rfl (jV (h' := [some ⟨36, bO.map (eI .u8)⟩, some ⟨5, x7.map (eI .u8)⟩, none, some ⟨42, [x8, x8, b].map (eL 1 (eI .u8))⟩, some ⟨5, cJ.map (eI .u8)⟩]) (aU rfl rfl (eQ (E := (eI .u8)) (l := List.replicate 32 0) dL rfl rfl (fun _ => rfl) rfl (aP h_8) rfl))) <| DrawG.nil (by decide +kernel) <| Ex.then_mk <| AB.ret ?_
  obtain rfl := sj hr
  exact bU (r1 := (.agg (bO.map (eI .u8)))) (nH Tryd.results24 (jU rfl (b6 (E := (eI .u8)) (l := bO) dL rfl rfl (aP h_8)))) (zG [])
end Go.Proofs.YtagblcjgjlihaaaDoor
