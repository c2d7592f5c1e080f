/- Texts of ours, joined: Wk3. -/
import Derived.Test.YtagblcjgjlihaaaDoorQSpendLater6
set_option linter.unusedVariables false
set_option linter.unusedSimpArgs false
set_option maxRecDepth 20000
set_option maxHeartbeats 1000000
namespace Go.Proofs.YtagblcjgjlihaaaDoor
open Go Go.Vm
theorem aAh (N : Nat) (va : List Int) (ve : List Int) (r : (List Int)) (hr : rK N va ve = some r) :
    Vm.Fn Tryd.prog 81 [] [(.agg (va.map (eI .u64))), (.agg (ve.map (eI .u64)))] (.agg (r.map (eI .u64))) [] := by
  refine zf Tryd.func81 Tryd.ntmps81 ?_
  unfold rK at hr
  refine zq <| zh (v := (.ptr 0 0)) (b8 rfl (d9 (fun _ => rfl)) rfl rfl) ?_
  refine zh (v := (.ptr 1 0)) (b8 rfl (d9 (fun _ => rfl)) rfl rfl) ?_
  refine zh (v := (.ptr 2 0)) (cK (B := some ⟨125, (List.replicate 4 0).map (eI .u64)⟩) aT rfl rfl) ?_
  refine zn <| AB.seq ?_
  obtain ⟨x9, h_1, hr⟩ := aN hr
  obtain ⟨q, h_2, hr⟩ := aN hr
  refine AB.rw <| wC rfl (Vm.Fn.pure (nA N 1 x9 h_1) rfl zR) <| zh (v := (.ptr 3 0)) (cK (B := some ⟨125, (List.replicate 4 0).map (eI .u64)⟩) aT rfl rfl) ?_
  refine zt (aU rfl rfl (eQ (E := (eI .u64)) (l := List.replicate 4 0) aT rfl rfl (fun _ => rfl) rfl (aP h_2) rfl)) ?_
  refine zn <| AB.seq ?_
  obtain ⟨q_1, h_3, hr⟩ := aN hr
  obtain ⟨b7, h_4, hr⟩ := aN hr
  refine AB.rw <| zw (v := (.agg (ve.map (eI .u64)))) (aI rfl (b6 (E := (eI .u64)) (l := ve) aT rfl rfl (aP h_3))) <| wC rfl (Vm.Fn.pure (aHy N ve b7 h_4) zR rfl) <| za rfl <| zn ?_
  refine AB.seq_g fun K1 hK1 hG1 => ?_
  have J1 : ∀ (l1 : List Int), u5 N l1 = some r → K1 (aV 37 [(4, (.ptr 0 0)), (5, (.ptr 1 0))]) [some ⟨125, (List.replicate 4 0).map (eI .u64)⟩, some ⟨125, l1.map (eI .u64)⟩] := by
    intro l1 hr
    unfold u5 at hr
    refine hK1 _ _ <| AB.seq ?_
    obtain ⟨q_2, h_5, hr⟩ := aN hr
    refine AB.rw <| zw (v := (.agg (l1.map (eI .u64)))) (aI rfl (b6 (E := (eI .u64)) (l := l1) aT rfl rfl (aP h_5))) <| zt (aU rfl rfl (eQ (E := (eI .u64)) (l := List.replicate 4 0) aT rfl rfl (fun _ => rfl) rfl (aP h_5) rfl)) ?_
    refine zn <| AB.ret ?_
    obtain rfl := sj hr
    exact bU (r1 := (.agg (l1.map (eI .u64)))) (nH Tryd.results81 (jU rfl (b6 (E := (eI .u64)) (l := l1) aT rfl rfl (aP h_5)))) (zG [])
  refine zq <| zm rfl <| zI <| zn ?_
  obtain ⟨cL, hL2, hr⟩ := aN hr
  refine AB.block <| AB.loopN (fun m s h => ∃ (cJ : Int) (l3 : List Int), j7 N va ve b7 m cJ l3 = some cL ∧ Ghost 0 s h (aV 37 [(2, (.ptr 0 0)), (3, (.ptr 1 0)), (4, (.ptr 2 0)), (5, (.ptr 3 0)), (6, (eI .i64 b7)), (12, (eI .i64 b7)), (13, (eI .i64 cJ))]) [some ⟨125, va.map (eI .u64)⟩, some ⟨125, ve.map (eI .u64)⟩, some ⟨125, (List.replicate 4 0).map (eI .u64)⟩, some ⟨125, l3.map (eI .u64)⟩]) (n := N) ⟨0, x9, hL2, (zG [0, 1, 2, 3])⟩ (by rintro s h ⟨_, _, h0, _⟩; simp [j7] at h0) ?_
  rintro m2 s h ⟨cJ, l3, hr2, hg⟩
  refine AB.ghost hg ?_
  clear hg hL2
  rw [j7] at hr2
  refine zq <| eY rfl rfl <| zn <| AB.seq ?_
  refine zk hr2 rfl (fun h6 hr2 => ?_) (fun h6 hr2 => ?_)
  · refine AB.skip <| Ex.then_mk ?_
    refine AB.seq_g fun K3 hK3 hG3 => ?_
    have J3 : ∀ (i3 : List Int), o5 N va ve b7 cJ (j7 N va ve b7 m2) i3 = some cL → K3 (aV 37 [(2, (.ptr 0 0)), (3, (.ptr 1 0)), (4, (.ptr 2 0)), (5, (.ptr 3 0)), (6, (eI .i64 b7)), (12, (eI .i64 b7)), (13, (eI .i64 cJ))]) [some ⟨125, va.map (eI .u64)⟩, some ⟨125, ve.map (eI .u64)⟩, some ⟨125, (List.replicate 4 0).map (eI .u64)⟩, some ⟨125, i3.map (eI .u64)⟩] := by
      intro i3 hr2
      unfold o5 at hr2
      refine hK3 _ _ <| AB.rw <| dG rfl rfl <| zm rfl <| zn ?_
      exact ⟨IntKind.i64.wrap (cJ + 1), i3, hr2, (zG [0, 1, 2, 3])⟩
    refine AB.block <| zq <| zm rfl <| za rfl <| zn <| zq <| zm rfl <| vP rfl rfl <| zm rfl <| vP rfl rfl <| za rfl <| zn <| AB.seq ?_
    obtain ⟨q_3, h_7, hr2⟩ := aN hr2
    obtain ⟨d8, h_8, hr2⟩ := aN hr2
    obtain ⟨q_4, h_9, hr2⟩ := aN hr2
    refine AB.rw <| zw (v := (.agg (l3.map (eI .u64)))) (aI rfl (b6 (E := (eI .u64)) (l := l3) aT rfl rfl (aP h_7))) <| zw (v := (.agg (l3.map (eI .u64)))) (aI rfl (b6 (E := (eI .u64)) (l := l3) aT rfl rfl (aP h_7))) <| wC rfl (Vm.Fn.pure (zT N l3 l3 d8 h_8) zR zR) <| zt (aU rfl rfl (eQ (E := (eI .u64)) (l := l3) aT rfl rfl (fun _ => rfl) (aP h_7) (aP h_9) rfl)) ?_
    refine zn <| AB.seq ?_
    obtain ⟨x25, h_10, hr2⟩ := aN hr2
    obtain ⟨x29, h_11, hr2⟩ := aN hr2
    refine AB.rw <| zm rfl <| zw (v := (eI .i64 (IntKind.i64.wrap (Int.tdiv (IntKind.i64.wrap ((IntKind.i64.wrap (b7 - 1)) - cJ)) 64)))) (a9 rfl rfl (aAp _ _ _ _ rfl)) <| zw (v := (.ptr 1 (Int.toNat (IntKind.i64.wrap (Int.tdiv (IntKind.i64.wrap ((IntKind.i64.wrap (b7 - 1)) - cJ)) 64))))) (bP rfl rfl (fH aT bV rfl h_10)) <| zw (v := (eI .u64 x25)) (aI rfl (gG (E := (eI .u64)) (y := x25) bV rfl rfl (bS h_10))) <| zm rfl <| zw (v := (eI .i64 (Int.tmod (IntKind.i64.wrap ((IntKind.i64.wrap (b7 - 1)) - cJ)) 64))) (a9 rfl rfl (zC _ _ _ _ rfl)) ?_
    refine zw (a9 rfl rfl (gZ _ _ _ _ h_11)) <| zqA rfl rfl <| hZ rfl rfl <| zn ?_
    refine zk hr2 rfl (fun h12 hr2 => ?_) (fun h12 hr2 => ?_)
    · obtain ⟨q_5, h_13, hr2⟩ := aN hr2
      obtain ⟨gO, h_14, hr2⟩ := aN hr2
      obtain ⟨q_6, h_15, hr2⟩ := aN hr2
      refine AB.rw <| zw (v := (.agg (d8.map (eI .u64)))) (aI rfl (b6 (E := (eI .u64)) (l := d8) aT rfl rfl (aP h_9))) <| zw (v := (.agg (va.map (eI .u64)))) (aI rfl (b6 (E := (eI .u64)) (l := va) aT rfl rfl (aP h_13))) <| wC rfl (Vm.Fn.pure (zT N d8 va gO h_14) zR zR) <| zt (aU rfl rfl (eQ (E := (eI .u64)) (l := d8) aT rfl rfl (fun _ => rfl) (aP h_9) (aP h_15) rfl)) ?_
      refine OpsW.nil <| Ex.inBlock_mk <| Ex.then_mk ?_
      exact hG3 _ _ _ _ (zG [0, 1, 2, 3]) (J3 gO hr2)
    · refine AB.skip <| Ex.inBlock_mk <| Ex.then_mk ?_
      exact hG3 _ _ _ _ (zG [0, 1, 2, 3]) (J3 d8 hr2)
  · refine AB.exit <| Ex.then_exit_mk <| Ex.then_exit_mk <| Ex.inBlock_same_mk ?_
    obtain rfl := sj hr2
    refine Ex.then_mk ?_
    exact hG1 _ _ _ _ (zG [2, 3]) (J1 l3 hr)
theorem aEd (N : Nat) (va : List Int) (r : Bool) (hr : sD N va = some r) :
    Vm.Fn Tryd.prog 75 [] [(.agg (va.map (eI .u64)))] (eB r) [] := by
  refine zf Tryd.func75 Tryd.ntmps75 ?_
  unfold sD at hr
  refine zq <| zh (v := (.ptr 0 0)) (b8 rfl (d9 (fun _ => rfl)) rfl rfl) ?_
  refine zj <| zn <| AB.seq ?_
  refine AB.seq_g fun K1 hK1 hG1 => ?_
  have J1 : ∀ (b7 : Bool), lY N va b7 = some r → K1 (aV 17 [(1, (.ptr 0 0)), (11, (eB b7))]) [some ⟨125, va.map (eI .u64)⟩] := by
    intro b7 hr
    unfold lY at hr
    refine hK1 _ _ ?_
    refine zk hr rfl (fun h1 hr => ?_) (fun h1 hr => ?_)
    · refine zq <| zj <| zn <| AB.ret <| Ex.then_ret_mk ?_
      obtain rfl := sj hr
      exact bW Tryd.results75 []
    · refine AB.skip <| Ex.then_mk <| AB.seq ?_
      obtain ⟨q, h_2, hr⟩ := aN hr
      obtain ⟨cJ, h_3, hr⟩ := aN hr
      obtain ⟨bO, h_5, hr⟩ := aN hr
      obtain ⟨x15, h_7, hr⟩ := aN hr
      obtain ⟨q_1, h_9, hr⟩ := aN hr
      obtain ⟨q_2, h_10, hr⟩ := aN hr
      have hc4 : Vm.Fn Tryd.prog 78 [some ⟨125, va.map (eI .u64)⟩] [] (.agg (cJ.map (eI .u64))) [some ⟨125, va.map (eI .u64)⟩] := (Vm.Fn.pure (sS N cJ h_3) rfl zR)
      have hc6 : Vm.Fn Tryd.prog 81 [some ⟨125, va.map (eI .u64)⟩] [(.agg (va.map (eI .u64))), (.agg (cJ.map (eI .u64)))] (.agg (bO.map (eI .u64))) [some ⟨125, va.map (eI .u64)⟩] := (Vm.Fn.pure (aAh N va cJ bO h_5) zR zR)
      have hc8 : Vm.Fn Tryd.prog 74 [some ⟨125, va.map (eI .u64)⟩] [(eI .u64 1)] (.agg (x15.map (eI .u64))) [some ⟨125, va.map (eI .u64)⟩] := (Vm.Fn.pure (nA N 1 x15 h_7) rfl zR)
      refine AB.rg (Env.add (Env.add (Env.one mixed hc4 fS (fun _ _ => rfl)) hc6 fS (fun _ _ => rfl) (fun _ h => h)) hc8 fS (fun _ _ => rfl) (fun _ h => h)) (fun _ => by show dR fS _ = true; decide +kernel) <| tS (v := (.agg (va.map (eI .u64)))) (sv (aI rfl (b6 (E := (eI .u64)) (l := va) aT rfl rfl (aP h_2)))) <| tS (v := (.agg (cJ.map (eI .u64)))) (h' := [some ⟨125, va.map (eI .u64)⟩]) (sv (bN rfl (Env.add_M rfl (Env.add_M rfl Env.one_O)))) <| tS (v := (.agg (bO.map (eI .u64)))) (h' := [some ⟨125, va.map (eI .u64)⟩]) (sv (bN rfl (Env.add_M rfl Env.add_O))) ?_
      refine tS (v := (.agg (x15.map (eI .u64)))) (h' := [some ⟨125, va.map (eI .u64)⟩]) (sv (bN rfl Env.add_O)) <| tS (sv (a9 rfl rfl (pO _ _ aT bV rfl dep (aP h_9) (aP h_10)))) <| tS (sv (bE rfl)) <| OpsTo.nil <| Ex.then_mk <| AB.ret ?_
      obtain rfl := sj hr
      exact bW Tryd.results75 []
  obtain ⟨q_3, h_11, hr⟩ := aN hr
  rcases Bool.eq_false_or_eq_true (va == [0, 0, 0, 0]) with h12 | h12
  · replace hr := gE hr h12
    refine AB.rg E1 (fun _ => by show dR fS _ = true; decide +kernel) <| tS (v := (.agg (va.map (eI .u64)))) (sv (aI rfl (b6 (E := (eI .u64)) (l := va) aT rfl rfl (aP h_11)))) <| tS (v := (.agg ([0, 0, 0, 0].map (eI .u64)))) (sv (cI rfl (rW aT bV rfl))) <| tS (sv (a9 rfl rfl (pO _ _ aT bV rfl dep (aP h_11) rfl))) <| tS (sv (bI rfl)) <| tS (uT rfl rfl h12) <| tS (uT rfl rfl h12) <| tS (uT rfl rfl h12) <| tS (uT rfl rfl h12) <| tS (v := (eB true)) (sv (c9 rfl h12 rfl)) <| OpsTo.nil <| Ex.then_mk ?_
    exact hG1 _ _ _ _ (zG [0]) (J1 true hr)
  · replace hr := gB hr h12
    obtain ⟨x8, h_13, hr⟩ := aN hr
    obtain ⟨x9, h_15, hr⟩ := aN hr
    have hc14 : Vm.Fn Tryd.prog 84 [some ⟨125, va.map (eI .u64)⟩] [] (.agg (x8.map (eI .u64))) [some ⟨125, va.map (eI .u64)⟩] := (Vm.Fn.pure (aAl N x8 h_13) rfl zR)
    have hc16 : Vm.Fn Tryd.prog 83 [some ⟨125, va.map (eI .u64)⟩] [(.agg (va.map (eI .u64))), (.agg (x8.map (eI .u64)))] (eI .i64 x9) [some ⟨125, va.map (eI .u64)⟩] := (Vm.Fn.pure (qG N va x8 x9 h_15) zR rfl)
    refine AB.rg (Env.add (Env.one mixed hc14 fS (fun _ _ => rfl)) hc16 fS (fun _ _ => rfl) (fun _ h => h)) (fun _ => by show dR fS _ = true; decide +kernel) <| tS (v := (.agg (va.map (eI .u64)))) (sv (aI rfl (b6 (E := (eI .u64)) (l := va) aT rfl rfl (aP h_11)))) <| tS (v := (.agg ([0, 0, 0, 0].map (eI .u64)))) (sv (cI rfl (rW aT bV rfl))) <| tS (sv (a9 rfl rfl (pO _ _ aT bV rfl dep (aP h_11) rfl))) <| tS (sv (bI rfl)) ?_
    refine tS (v := (.agg (va.map (eI .u64)))) (uB rfl rfl h12 (aI rfl (b6 (E := (eI .u64)) (l := va) aT rfl rfl (aP h_11)))) <| tS (v := (.agg (x8.map (eI .u64)))) (h' := [some ⟨125, va.map (eI .u64)⟩]) (uB rfl rfl h12 (bN rfl (Env.add_M rfl Env.one_O))) <| tS (v := (eI .i64 x9)) (h' := [some ⟨125, va.map (eI .u64)⟩]) (uB rfl rfl h12 (bN rfl Env.add_O)) <| tS (v := (eB (decide (0 ≤ x9)))) (uB rfl rfl h12 (a9 rfl rfl (wJ ..))) <| tS (v := (eB (decide (0 ≤ x9)))) (sv (fV rfl h12 rfl)) <| OpsTo.nil <| Ex.then_mk ?_
    exact hG1 _ _ _ _ (zG [0]) (J1 (decide (0 ≤ x9)) hr)
theorem aBW (N : Nat) (p : List Int) (r : Bool) (hr : sI N p = some r) :
    Vm.Fn Tryd.prog 71 [] [(.agg (p.map (eI .u64)))] (eB r) [] := by
  refine zf Tryd.func71 Tryd.ntmps71 ?_
  unfold sI at hr
  refine zq <| zh (v := (.ptr 0 0)) (b8 rfl (d9 (fun _ => rfl)) rfl rfl) ?_
  refine zj <| zn ?_
  refine AB.seq_g fun K1 hK1 hG1 => ?_
  have J1 : ∀ (x2 : Bool), tQ N x2 = some r → K1 (aV 10 [(2, (eB x2))]) [] := by
    intro x2 hr
    unfold tQ at hr
    refine hK1 _ _ <| AB.ret ?_
    obtain rfl := sj hr
    exact bW Tryd.results71 []
  obtain ⟨q, h_1, hr⟩ := aN hr
  obtain ⟨x4, h_2, hr⟩ := aN hr
  obtain ⟨q_1, h_4, hr⟩ := aN hr
  rcases Bool.eq_false_or_eq_true (!(p == x4)) with h5 | h5
  · replace hr := gE hr h5
    obtain ⟨x8, h_6, hr⟩ := aN hr
    have hc3 : Vm.Fn Tryd.prog 74 [some ⟨125, p.map (eI .u64)⟩] [(eI .u64 1)] (.agg (x4.map (eI .u64))) [some ⟨125, p.map (eI .u64)⟩] := (Vm.Fn.pure (nA N 1 x4 h_2) rfl zR)
    have hc7 : Vm.Fn Tryd.prog 75 [some ⟨125, p.map (eI .u64)⟩] [(.agg (p.map (eI .u64)))] (eB x8) [some ⟨125, p.map (eI .u64)⟩] := (Vm.Fn.pure (aEd N p x8 h_6) zR rfl)
    refine AB.rg (Env.add (Env.one mixed hc3 fS (fun _ _ => rfl)) hc7 fS (fun _ _ => rfl) (fun _ h => h)) (fun _ => by show dR fS _ = true; decide +kernel) <| tS (v := (.agg (p.map (eI .u64)))) (sv (aI rfl (b6 (E := (eI .u64)) (l := p) aT rfl rfl (aP h_1)))) <| tS (v := (.agg (x4.map (eI .u64)))) (h' := [some ⟨125, p.map (eI .u64)⟩]) (sv (bN rfl (Env.add_M rfl Env.one_O))) <| tS (sv (a9 rfl rfl (aGS _ _ aT bV rfl dep (aP h_1) (aP h_4)))) <| tS (sv (bI rfl)) ?_
    refine tS (v := (.agg (p.map (eI .u64)))) (uB rfl rfl h5 (aI rfl (b6 (E := (eI .u64)) (l := p) aT rfl rfl (aP h_1)))) <| tS (v := (eB x8)) (h' := [some ⟨125, p.map (eI .u64)⟩]) (uB rfl rfl h5 (bN rfl Env.add_O)) <| tS (v := (eB x8)) (sv (c9 rfl h5 rfl)) <| tS (sv (bE rfl)) <| OpsTo.nil <| Ex.then_mk ?_
    exact hG1 _ _ _ _ (zG []) (J1 x8 hr)
  · replace hr := gB hr h5
    have hc3 : Vm.Fn Tryd.prog 74 [some ⟨125, p.map (eI .u64)⟩] [(eI .u64 1)] (.agg (x4.map (eI .u64))) [some ⟨125, p.map (eI .u64)⟩] := (Vm.Fn.pure (nA N 1 x4 h_2) rfl zR)
    refine AB.rg (Env.one mixed hc3 fS (fun _ _ => rfl)) (fun _ => by show dR fS _ = true; decide +kernel) <| tS (v := (.agg (p.map (eI .u64)))) (sv (aI rfl (b6 (E := (eI .u64)) (l := p) aT rfl rfl (aP h_1)))) <| tS (v := (.agg (x4.map (eI .u64)))) (h' := [some ⟨125, p.map (eI .u64)⟩]) (sv (bN rfl Env.one_O)) <| tS (sv (a9 rfl rfl (aGS _ _ aT bV rfl dep (aP h_1) (aP h_4)))) <| tS (sv (bI rfl)) <| tS (uT rfl rfl h5) <| tS (uT rfl rfl h5) <| tS (v := (eB false)) (sv (fV rfl h5 rfl)) <| tS (sv (bE rfl)) <| OpsTo.nil <| Ex.then_mk ?_
    exact hG1 _ _ _ _ (zG []) (J1 false hr)
theorem jP (N : Nat) (va : List Int) (r : Bool) (hr : mN N va = some r) :
    Vm.Fn Tryd.prog 76 [] [(.agg (va.map (eI .u64)))] (eB r) [] := by
  refine zf Tryd.func76 Tryd.ntmps76 ?_
  unfold mN at hr
  refine zq <| zh (v := (.ptr 0 0)) (b8 rfl (d9 (fun _ => rfl)) rfl rfl) ?_
  refine zj <| zn <| AB.seq ?_
  obtain ⟨q, h_1, hr⟩ := aN hr
  obtain ⟨x4, h_2, hr⟩ := aN hr
  obtain ⟨x5, h_4, hr⟩ := aN hr
  have hc3 : Vm.Fn Tryd.prog 78 [some ⟨125, va.map (eI .u64)⟩] [] (.agg (x4.map (eI .u64))) [some ⟨125, va.map (eI .u64)⟩] := (Vm.Fn.pure (sS N x4 h_2) rfl zR)
  have hc5 : Vm.Fn Tryd.prog 83 [some ⟨125, va.map (eI .u64)⟩] [(.agg (va.map (eI .u64))), (.agg (x4.map (eI .u64)))] (eI .i64 x5) [some ⟨125, va.map (eI .u64)⟩] := (Vm.Fn.pure (qG N va x4 x5 h_4) zR rfl)
  refine AB.rg (Env.add (Env.one mixed hc3 fS (fun _ _ => rfl)) hc5 fS (fun _ _ => rfl) (fun _ h => h)) (fun _ => by show dR fS _ = true; decide +kernel) <| tS (v := (.agg (va.map (eI .u64)))) (sv (aI rfl (b6 (E := (eI .u64)) (l := va) aT rfl rfl (aP h_1)))) <| tS (v := (.agg (x4.map (eI .u64)))) (h' := [some ⟨125, va.map (eI .u64)⟩]) (sv (bN rfl (Env.add_M rfl Env.one_O))) <| tS (v := (eI .i64 x5)) (h' := [some ⟨125, va.map (eI .u64)⟩]) (sv (bN rfl Env.add_O)) <| tS (v := (eB (decide (x5 < 0)))) (sv (a9 rfl rfl (sO ..))) <| tS (sv (bE rfl)) <| OpsTo.nil ?_
  refine Ex.then_mk <| AB.ret ?_
  obtain rfl := sj hr
  exact bW Tryd.results76 []
theorem aFa (N : Nat) (b : List Int) (r : (List Int) × (List Int) × Int) (hr : tK N b = some r) :
    Vm.Fn Tryd.prog 72 [] [(.row none 1 (b.map (eI .u8)))] (.tup [(.agg (cB (eI .u64) r.1 (cB (eI .u64) r.2.1 []))), (eI .i64 r.2.2)]) [] := by
  refine zf Tryd.func72 Tryd.ntmps72 ?_
  unfold tK at hr
  refine zq <| zh (v := (.ptr 0 0)) (cK (B := some ⟨129, (cB (eI .u64) (List.replicate 4 0) (cB (eI .u64) (List.replicate 4 0) []))⟩) nI rfl rfl) ?_
  refine zi <| zn <| AB.seq <| zq <| zm rfl <| eT rfl bG <| rE rfl rfl <| zn ?_
  refine zk hr rfl (fun h1 hr => ?_) (fun h1 hr => ?_)
  · refine zq <| zw (v := (.agg (cB (eI .u64) (List.replicate 4 0) (cB (eI .u64) (List.replicate 4 0) [])))) (cI rfl (lL nI aIk rfl)) <| zN (h' := [some ⟨129, (cB (eI .u64) (List.replicate 4 0) (cB (eI .u64) (List.replicate 4 0) []))⟩]) (aU rfl rfl (eR nI rfl rfl rfl zl rfl)) <| zi <| zn <| AB.ret <| Ex.then_ret_mk ?_
    obtain rfl := sj hr
    exact bU (r1 := (.tup [(.agg (cB (eI .u64) (List.replicate 4 0) (cB (eI .u64) (List.replicate 4 0) []))), (eI .i64 8)])) (cL Tryd.results72 (jU rfl (bZ rfl (bQ (ds := (cB (eI .u64) (List.replicate 4 0) (cB (eI .u64) (List.replicate 4 0) []))) nI rfl zl rfl))) (iS rfl)) (zG [])
  · refine AB.skip <| Ex.then_mk <| AB.seq ?_
    obtain ⟨cG, h_2, hr⟩ := aN hr
    obtain ⟨b7, h_3, hr⟩ := aN hr
    obtain ⟨cJ, h_4, hr⟩ := aN hr
    obtain ⟨x15, h_6, hr⟩ := aN hr
    obtain ⟨x16, h_7, hr⟩ := aN hr
    obtain ⟨x18, h_8, hr⟩ := aN hr
    obtain ⟨q, h_10, hr⟩ := aN hr
    obtain ⟨q_1, h_11, hr⟩ := aN hr
    refine AB.rd (dQ [70]) (dQ []) mixed <| dO 12 0 rfl rfl <| zp 11 1 rfl (bH (v := (.row none 1 (cG.map (eI .u8)))) (eC rfl rfl rfl (yA bG cC rfl rfl h_2))) <| zp 10 2 rfl (bH (v := (.eptr [.agg (b7.map (eI .u8))] 0 0)) (aBu rfl (apR (E := (eI .u8)) dL (fun _ => rfl) zl h_3))) <| zp 9 3 rfl (bH (v := (.agg (b7.map (eI .u8)))) (aI rfl (aG1 (E := (eI .u8)) (l := b7) dL rfl (qH h_3)))) <| DrawG.pick (n := 8) (i := 4) (by decide +kernel) rfl (gU (fun _ => (Vm.Fn.pure (oX N b7 cJ h_4) zR zR)) rfl (sv (bN rfl c5))) <| dO 7 5 rfl rfl ?_
    refine zp 6 6 rfl (bH (v := (.row none 1 (x15.map (eI .u8)))) (eC rfl rfl rfl (yA bG cC rfl rfl h_6))) <| zp 5 7 rfl (bH (v := (.eptr [.agg (x16.map (eI .u8))] 0 0)) (aBu rfl (apR (E := (eI .u8)) dL (fun _ => rfl) zl h_7))) <| zp 4 8 rfl (bH (v := (.agg (x16.map (eI .u8)))) (aI rfl (aG1 (E := (eI .u8)) (l := x16) dL rfl (qH h_7)))) <| DrawG.pick (n := 3) (i := 9) (by decide +kernel) rfl (gU (fun _ => (Vm.Fn.pure (oX N x16 x18 h_8) zR zR)) rfl (sv (bN rfl c5))) ?_
    refine zp 2 10 rfl (bH (v := (.agg (cB (eI .u64) cJ (cB (eI .u64) x18 [])))) (cI rfl (aL2 (ps' := [(0, (.agg (cB (eI .u64) cJ []))), (1, (.agg (cB (eI .u64) x18 [])))]) (by simp only [aFj (l := cJ) (aP h_10), aFj (l := x18) (aP h_11)]) (lL nI aIk rfl)))) <| zp 1 11 rfl (bH (v := (.ptr 1 0)) (h' := [some ⟨129, (cB (eI .u64) (List.replicate 4 0) (cB (eI .u64) (List.replicate 4 0) []))⟩, some ⟨129, (cB (eI .u64) (List.replicate 4 0) (cB (eI .u64) (List.replicate 4 0) []))⟩]) (nS nI rfl rfl rfl)) ?_
    refine zp 0 12 rfl (jV (h' := [some ⟨129, (cB (eI .u64) (List.replicate 4 0) (cB (eI .u64) (List.replicate 4 0) []))⟩, some ⟨129, (cB (eI .u64) cJ (cB (eI .u64) x18 []))⟩]) (aU rfl rfl (eR nI rfl rfl rfl zl rfl))) <| DrawG.nil (by decide +kernel) <| Ex.then_mk <| AB.seq ?_
    refine AB.seq_g fun K1 hK1 hG1 => ?_
    have J1 : ∀ (x29 : Bool), mT N cJ x18 x29 = some r → K1 (aV 32 [(2, (.ptr 0 0)), (4, (.ptr 1 0)), (29, (eB x29))]) [some ⟨129, (cB (eI .u64) (List.replicate 4 0) (cB (eI .u64) (List.replicate 4 0) []))⟩, some ⟨129, (cB (eI .u64) cJ (cB (eI .u64) x18 []))⟩] := by
      intro x29 hr
      unfold mT at hr
      refine hK1 _ _ ?_
      refine zk hr rfl (fun h12 hr => ?_) (fun h12 hr => ?_)
      · refine zq <| zw (v := (.agg (cB (eI .u64) (List.replicate 4 0) (cB (eI .u64) (List.replicate 4 0) [])))) (cI rfl (lL nI aIk rfl)) <| zN (h' := [some ⟨129, (cB (eI .u64) (List.replicate 4 0) (cB (eI .u64) (List.replicate 4 0) []))⟩, some ⟨129, (cB (eI .u64) cJ (cB (eI .u64) x18 []))⟩]) (aU rfl rfl (eR nI rfl rfl rfl zl rfl)) <| zi <| zn <| AB.ret <| Ex.then_ret_mk ?_
        obtain rfl := sj hr
        exact bU (r1 := (.tup [(.agg (cB (eI .u64) (List.replicate 4 0) (cB (eI .u64) (List.replicate 4 0) []))), (eI .i64 5)])) (cL Tryd.results72 (jU rfl (bZ rfl (bQ (ds := (cB (eI .u64) (List.replicate 4 0) (cB (eI .u64) (List.replicate 4 0) []))) nI rfl zl rfl))) (iS rfl)) (zG [])
      · refine AB.skip <| Ex.then_mk <| zq <| zw (v := (.agg (cB (eI .u64) cJ (cB (eI .u64) x18 [])))) (aI rfl (bZ rfl (bQ (ds := (cB (eI .u64) cJ (cB (eI .u64) x18 []))) nI rfl zl rfl))) <| zN (h' := [some ⟨129, (cB (eI .u64) cJ (cB (eI .u64) x18 []))⟩, some ⟨129, (cB (eI .u64) cJ (cB (eI .u64) x18 []))⟩]) (aU rfl rfl (eR nI rfl rfl rfl zl rfl)) <| zi <| zn <| AB.ret ?_
        obtain rfl := sj hr
        exact bU (r1 := (.tup [(.agg (cB (eI .u64) cJ (cB (eI .u64) x18 []))), (eI .i64 0)])) (cL Tryd.results72 (jU rfl (bZ rfl (bQ (ds := (cB (eI .u64) cJ (cB (eI .u64) x18 []))) nI rfl zl rfl))) (iS rfl)) (zG [])
    obtain ⟨d8, h_13, hr⟩ := aN hr
    rcases Bool.eq_false_or_eq_true (!d8) with h14 | h14
    · replace hr := gE hr h14
      refine AB.rw <| cQ rfl (t6 ..) <| zw (v := (.agg (cJ.map (eI .u64)))) (aI rfl (bZ rfl (to4 (aP h_10) (bQ (ds := (cB (eI .u64) cJ [])) aT rfl zl rfl)))) <| wC rfl (Vm.Fn.pure (jP N cJ d8 h_13) zR rfl) <| zw (f9 rfl (dU _ _)) <| zm rfl <| zx h14 <| zx h14 <| zx h14 <| zx h14 <| zw (v := (eB true)) (c9 rfl h14 rfl) <| zn ?_
      exact hG1 _ _ _ _ (zG [0, 1]) (J1 true hr)
    · replace hr := gB hr h14
      obtain ⟨x27, h_15, hr⟩ := aN hr
      refine AB.rw <| cQ rfl (t6 ..) <| zw (v := (.agg (cJ.map (eI .u64)))) (aI rfl (bZ rfl (to4 (aP h_10) (bQ (ds := (cB (eI .u64) cJ [])) aT rfl zl rfl)))) <| wC rfl (Vm.Fn.pure (jP N cJ d8 h_13) zR rfl) <| zw (f9 rfl (dU _ _)) <| zm rfl <| zg (v := (.ptr 1 4)) h14 (eE rfl (aBR ..)) <| zg (v := (.agg (x18.map (eI .u64)))) h14 (aI rfl (bZ rfl (to4 (aP h_11) (bQ (ds := (cB (eI .u64) x18 [])) aT rfl zl rfl)))) ?_
      refine wCG (v := (eB x27)) (h' := [some ⟨129, (cB (eI .u64) (List.replicate 4 0) (cB (eI .u64) (List.replicate 4 0) []))⟩, some ⟨129, (cB (eI .u64) cJ (cB (eI .u64) x18 []))⟩]) rfl rfl h14 rfl (Vm.Fn.pure (jP N x18 x27 h_15) zR rfl) <| zg h14 (f9 rfl (dU _ _)) <| oB rfl h14 rfl <| zn ?_
      exact hG1 _ _ _ _ (zG [0, 1]) (J1 (!x27) hr)
theorem aEI (N : Nat) (ve : List Int) (r : (List Int)) (hr : wL N ve = some r) :
    Vm.Fn Tryd.prog 80 [] [(.agg (ve.map (eI .u64)))] (.agg (r.map (eI .u64))) [] := by
  refine zf Tryd.func80 Tryd.ntmps80 ?_
  unfold wL at hr
  refine zq <| zh (v := (.ptr 0 0)) (b8 rfl (d9 (fun _ => rfl)) rfl rfl) ?_
  refine zh (v := (.ptr 1 0)) (cK (B := some ⟨125, (List.replicate 4 0).map (eI .u64)⟩) aT rfl rfl) ?_
  refine zn <| AB.seq ?_
  obtain ⟨x3, h_1, hr⟩ := aN hr
  obtain ⟨q, h_3, hr⟩ := aN hr
  obtain ⟨x5, h_4, hr⟩ := aN hr
  obtain ⟨q_1, h_6, hr⟩ := aN hr
  have hc2 : Vm.Fn Tryd.prog 74 [some ⟨125, ve.map (eI .u64)⟩, some ⟨125, (List.replicate 4 0).map (eI .u64)⟩] [(eI .u64 4)] (.agg (x3.map (eI .u64))) [some ⟨125, ve.map (eI .u64)⟩, some ⟨125, (List.replicate 4 0).map (eI .u64)⟩] := (Vm.Fn.pure (nA N 4 x3 h_1) rfl zR)
  have hc5 : Vm.Fn Tryd.prog 81 [some ⟨125, ve.map (eI .u64)⟩, some ⟨125, (List.replicate 4 0).map (eI .u64)⟩] [(.agg (x3.map (eI .u64))), (.agg (ve.map (eI .u64)))] (.agg (x5.map (eI .u64))) [some ⟨125, ve.map (eI .u64)⟩, some ⟨125, (List.replicate 4 0).map (eI .u64)⟩] := (Vm.Fn.pure (aAh N x3 ve x5 h_4) zR zR)
  refine AB.rg (Env.add (Env.one mixed hc2 fS (fun _ _ => rfl)) hc5 fS (fun _ _ => rfl) (fun _ h => h)) (fun _ => by show dR fS _ = true; decide +kernel) <| tS (v := (.agg (x3.map (eI .u64)))) (h' := [some ⟨125, ve.map (eI .u64)⟩, some ⟨125, (List.replicate 4 0).map (eI .u64)⟩]) (sv (bN rfl (Env.add_M rfl Env.one_O))) <| tS (v := (.agg (ve.map (eI .u64)))) (sv (aI rfl (b6 (E := (eI .u64)) (l := ve) aT rfl rfl (aP h_3)))) <| tS (v := (.agg (x5.map (eI .u64)))) (h' := [some ⟨125, ve.map (eI .u64)⟩, some ⟨125, (List.replicate 4 0).map (eI .u64)⟩]) (sv (bN rfl Env.add_O)) ?_
  refine tN (h' := [some ⟨125, ve.map (eI .u64)⟩, some ⟨125, x5.map (eI .u64)⟩]) (sv (aU rfl rfl (eQ (E := (eI .u64)) (l := List.replicate 4 0) aT rfl rfl (fun _ => rfl) rfl (aP h_6) rfl))) <| OpsTo.nil <| Ex.then_mk <| AB.ret ?_
  obtain rfl := sj hr
  exact bU (r1 := (.agg (x5.map (eI .u64)))) (nH Tryd.results80 (jU rfl (b6 (E := (eI .u64)) (l := x5) aT rfl rfl (aP h_6)))) (zG [])
theorem aBX (N : Nat) (va : List Int) (r : (List Int)) (hr : sV N va = some r) :
    Vm.Fn Tryd.prog 90 [] [(.agg (va.map (eI .u64)))] (.agg (r.map (eI .u8))) [] := by
  refine zf Tryd.func90 Tryd.ntmps90 ?_
  unfold sV at hr
  refine zq <| zh (v := (.ptr 0 0)) (b8 rfl (d9 (fun _ => rfl)) rfl rfl) ?_
  refine zh (v := (.ptr 1 0)) (cK (B := some ⟨36, (List.replicate 32 0).map (eI .u8)⟩) dL rfl rfl) ?_
  refine zn <| zq <| zh (v := (.ptr 2 0)) (cK (B := some ⟨36, (List.replicate 32 0).map (eI .u8)⟩) dL rfl rfl) ?_
  refine zn ?_
  refine AB.seq_g fun K1 hK1 hG1 => ?_
  have J1 : ∀ (l1 : List Int), tO N l1 = some r → K1 (aV 23 [(2, (.ptr 0 0)), (3, (.ptr 1 0))]) [some ⟨36, (List.replicate 32 0).map (eI .u8)⟩, some ⟨36, l1.map (eI .u8)⟩] := by
    intro l1 hr
    unfold tO at hr
    refine hK1 _ _ <| AB.seq ?_
    obtain ⟨q, h_1, hr⟩ := aN hr
    refine AB.rw <| zw (v := (.agg (l1.map (eI .u8)))) (aI rfl (b6 (E := (eI .u8)) (l := l1) dL rfl rfl (aP h_1))) <| zt (aU rfl rfl (eQ (E := (eI .u8)) (l := List.replicate 32 0) dL rfl rfl (fun _ => rfl) rfl (aP h_1) rfl)) ?_
    refine zn <| AB.ret ?_
    obtain rfl := sj hr
    exact bU (r1 := (.agg (l1.map (eI .u8)))) (nH Tryd.results90 (jU rfl (b6 (E := (eI .u8)) (l := l1) dL rfl rfl (aP h_1)))) (zG [])
  refine zq <| zI <| zn ?_
  obtain ⟨cL, hL2, hr⟩ := aN hr
  refine AB.block <| AB.loopN (fun m s h => ∃ (x5 : Int) (l2 : List Int), mF N va m x5 l2 = some cL ∧ Ghost 0 s h (aV 23 [(1, (.ptr 0 0)), (2, (.ptr 1 0)), (3, (.ptr 2 0)), (5, (eI .i64 x5))]) [some ⟨125, va.map (eI .u64)⟩, some ⟨36, (List.replicate 32 0).map (eI .u8)⟩, some ⟨36, l2.map (eI .u8)⟩]) (n := N) ⟨0, List.replicate 32 0, hL2, (zG [0, 1, 2])⟩ (by rintro s h ⟨_, _, h0, _⟩; simp [mF] at h0) ?_
  rintro m2 s h ⟨x5, l2, hr2, hg⟩
  refine AB.ghost hg ?_
  clear hg hL2
  rw [mF] at hr2
  refine zq <| eY rfl rfl <| zn <| AB.seq ?_
  refine zk hr2 rfl (fun h2 hr2 => ?_) (fun h2 hr2 => ?_)
  · refine AB.skip <| Ex.then_mk <| AB.seq <| AB.block <| zq <| zm rfl <| za rfl <| zn ?_
    obtain ⟨fF, h_3, hr2⟩ := aN hr2
    obtain ⟨x18, h_4, hr2⟩ := aN hr2
    obtain ⟨dD, h_5, hr2⟩ := aN hr2
    refine AB.rw <| zm rfl <| zm rfl <| zw (v := (eI .i64 (IntKind.i64.wrap (Int.tdiv x5 8)))) (a9 rfl rfl (aAp _ _ _ _ rfl)) <| vP rfl rfl <| zw (v := (.ptr 0 (Int.toNat (IntKind.i64.wrap (3 - (IntKind.i64.wrap (Int.tdiv x5 8))))))) (bP rfl rfl (fH aT bV rfl h_3)) <| zw (v := (eI .u64 fF)) (aI rfl (gG (E := (eI .u64)) (y := fF) bV rfl rfl (bS h_3))) <| zm rfl <| zw (v := (eI .i64 (Int.tmod x5 8))) (a9 rfl rfl (zC _ _ _ _ rfl)) <| z4 rfl rfl <| vP rfl rfl <| zw (a9 rfl rfl (gZ _ _ _ _ h_4)) <| zw (dA rfl (cE _ ⟨_, bV⟩ cC rfl)) ?_
    refine zw (v := (.ptr 2 (Int.toNat x5))) (bP rfl rfl (fH dL cC rfl h_5)) <| zt (aU rfl rfl (s6 (E := (eI .u8)) (y := IntKind.u8.wrap x18) cC rfl rfl (bS h_5) rfl rfl rfl)) ?_
    refine OpsW.nil <| Ex.inBlock_mk <| Ex.then_mk <| AB.rw <| dG rfl rfl <| zm rfl <| zn ?_
    exact ⟨IntKind.i64.wrap (x5 + 1), l2.set (Int.toNat x5) (IntKind.u8.wrap x18), hr2, (zG [0, 1, 2])⟩
  · refine AB.exit <| Ex.then_exit_mk <| Ex.then_exit_mk <| Ex.inBlock_same_mk ?_
    obtain rfl := sj hr2
    refine Ex.then_mk ?_
    exact hG1 _ _ _ _ (zG [1, 2]) (J1 l2 hr)
theorem aHO (N : Nat) (parts : List (List Int)) (r : (List Int)) (hr : wH N parts = some r) :
    Vm.Fn Tryd.prog 89 [] [(.row none 32 (parts.map (eA (eI .u8))))] (.sl 0 0 r.length 1 false) [some ⟨5, r.map (eI .u8)⟩] := by
  refine zf Tryd.func89 Tryd.ntmps89 ?_
  unfold wH at hr
  refine zq <| zw (v := (.row (some true) 1 [])) (bE rfl) <| zn <| zq <| zw (v := (.row (some true) 1 [])) (bE rfl) <| zn ?_
  refine AB.seq_g fun K1 hK1 hG1 => ?_
  have J1 : ∀ (l0 : List Int), aAF N l0 = some r → K1 (aV 17 [(3, (.sl 0 0 l0.length 1 false))]) [some ⟨5, l0.map (eI .u8)⟩] := by
    intro l0 hr
    unfold aAF at hr
    refine hK1 _ _ <| zq <| zm rfl <| za rfl <| zn <| AB.ret ?_
    obtain rfl := sj hr
    exact bW Tryd.results89 [0]
  refine zq <| zm rfl <| eT rfl aIR <| zI <| zn ?_
  obtain ⟨cL, hL2, hr⟩ := aN hr
  refine AB.block ?_
  refine AB.loopN (fun m s h => ∃ (x8 : Int) (bF : List Int), mO N parts m x8 bF = some cL ∧ Ghost 0 s h (aV 17 [(3, (.sl 0 0 bF.length 1 false)), (6, (.row none 32 (parts.map (eA (eI .u8))))), (7, (eI .i64 (parts.length : Int))), (8, (eI .i64 x8))]) [some ⟨5, bF.map (eI .u8)⟩]) (n := N) ⟨0, [], hL2, (Ghost.trans (Ghost.virt (fr' := [(3, (.sl 0 0 0 1 false)), (6, (.row none 32 (parts.map (eA (eI .u8))))), (7, (eI .i64 (parts.length : Int))), (8, (eI .i64 0))]) (h1 := []) 5 (FLe.le rfl (V.le_virt rfl) (FLe.same rfl (FLe.same rfl (FLe.same rfl FLe.nil)))) HLv.nil) (Ghost.rn [0] rfl rfl (FLe.le rfl (by first | exact V.le_refl _ _ | (simp only [cN, cO]; exact V.le_refl _ _)) (FLe.same rfl (FLe.same rfl (FLe.same rfl FLe.nil)))) (HLe.live rfl V.les_nil rfl HLe.nil) rfl))⟩ (by rintro s h ⟨_, _, h0, _⟩; simp [mO] at h0) ?_
  rintro m2 s h ⟨x8, bF, hr2, hg⟩
  refine AB.ghost hg ?_
  clear hg hL2
  rw [mO] at hr2
  refine zq <| eY rfl rfl <| zn <| AB.seq ?_
  refine zk hr2 rfl (fun h1 hr2 => ?_) (fun h1 hr2 => ?_)
  · refine AB.skip <| Ex.then_mk <| AB.seq <| AB.block <| AB.seq ?_
    obtain ⟨cG, h_2, hr2⟩ := aN hr2
    obtain ⟨q, h_3, hr2⟩ := aN hr2
    refine AB.rw <| zw (bP rfl rfl (kH aIR dL h_2)) <| zw (v := (.agg (cG.map (eI .u8)))) (aI rfl (aMO (E := (eI .u8)) dL rfl h_2 (aP h_3))) <| zh (v := (.ptr 1 0)) (cK (B := some ⟨36, (List.replicate 32 0).map (eI .u8)⟩) dL rfl rfl) ?_
    refine zt (aU rfl rfl (eQ (E := (eI .u8)) (l := List.replicate 32 0) dL rfl rfl (fun _ => rfl) rfl (aP h_3) rfl)) ?_
    refine zn ?_
    obtain ⟨bO, h_4, hr2⟩ := aN hr2
    refine AB.rw <| zm rfl <| zw (v := (.sl 1 0 32 1 false)) (eC rfl rfl rfl (slA (E := (eI .u8)) (l := cG) dL cC rfl rfl rfl (aP h_3) ⟨zl, zl⟩)) <| zh (v := (.sl 2 0 bO.length 1 false)) (dZ rfl rfl (nD (E := (eI .u8)) rfl bG cC ⟨rfl, rfl, zl⟩ rfl (pU (aP h_3) rfl) h_4 rfl rfl)) ?_
    refine za rfl <| OpsW.nil <| Ex.inBlock_mk <| Ex.then_mk <| AB.rw <| dG rfl rfl <| zm rfl <| zn ?_
    exact ⟨IntKind.i64.wrap (x8 + 1), bO, hr2, (zG [2])⟩
  · refine AB.exit <| Ex.then_exit_mk <| Ex.then_exit_mk <| Ex.inBlock_same_mk ?_
    obtain rfl := sj hr2
    refine Ex.then_mk ?_
    exact hG1 _ _ _ _ (zG [0]) (J1 bF hr)
theorem aHL (N : Nat) (va : List Int) (b : List Int) (r : (List Int) × Bool) (hr : vV N va b = some r) :
    Vm.Fn Tryd.prog 100 [] [(.agg (va.map (eI .u64))), (.agg (b.map (eI .u64)))] (.tup [(.agg (r.1.map (eI .u64))), (eB r.2)]) [] := by
  refine zf Tryd.func100 Tryd.ntmps100 ?_
  unfold vV at hr
  refine zq <| zh (v := (.ptr 0 0)) (b8 rfl (d9 (fun _ => rfl)) rfl rfl) ?_
  refine zh (v := (.ptr 1 0)) (b8 rfl (d9 (fun _ => rfl)) rfl rfl) ?_
  refine zh (v := (.ptr 2 0)) (cK (B := some ⟨125, (List.replicate 4 0).map (eI .u64)⟩) aT rfl rfl) ?_
  refine zj <| zn <| zq <| zh (v := (.ptr 3 0)) (cK (B := some ⟨125, (List.replicate 4 0).map (eI .u64)⟩) aT rfl rfl) ?_
  refine zn <| zq <| zi <| zn ?_
  refine AB.seq_g fun K1 hK1 hG1 => ?_
  have J1 : ∀ (q9 : Int) (l1 : List Int), xD N q9 l1 = some r → K1 (aV 29 [(4, (.ptr 0 0)), (6, (.ptr 1 0)), (7, (eI .u64 q9))]) [some ⟨125, (List.replicate 4 0).map (eI .u64)⟩, some ⟨125, l1.map (eI .u64)⟩] := by
    intro q9 l1 hr
    unfold xD at hr
    refine hK1 _ _ <| AB.seq ?_
    obtain ⟨q, h_1, hr⟩ := aN hr
    refine AB.rw <| zw (v := (.agg (l1.map (eI .u64)))) (aI rfl (b6 (E := (eI .u64)) (l := l1) aT rfl rfl (aP h_1))) <| zm rfl <| rE rfl rfl <| zt (aU rfl rfl (eQ (E := (eI .u64)) (l := List.replicate 4 0) aT rfl rfl (fun _ => rfl) rfl (aP h_1) rfl)) ?_
    refine za rfl <| zn <| AB.ret ?_
    obtain rfl := sj hr
    exact bU (r1 := (.tup [(.agg (l1.map (eI .u64))), (eB (q9 != 0))])) (cL Tryd.results100 (jU rfl (b6 (E := (eI .u64)) (l := l1) aT rfl rfl (aP h_1))) (iS rfl)) (Ghost.rn [] rfl rfl (FLe.le rfl (V.le_tup (V.les_cons (V.le_arr (fun _ => rfl)) (V.les_cons (V.le_refl _ _) V.les_nil))) FLe.nil) HLe.nil rfl)
  refine zq <| zI <| zn ?_
  obtain ⟨cL, hL2, hr⟩ := aN hr
  refine AB.block <| AB.loopN (fun m s h => ∃ (carry_1 : Int) (x9 : Int) (l3 : List Int), oL N va b m carry_1 x9 l3 = some cL ∧ Ghost 0 s h (aV 29 [(2, (.ptr 0 0)), (3, (.ptr 1 0)), (4, (.ptr 2 0)), (6, (.ptr 3 0)), (7, (eI .u64 carry_1)), (9, (eI .i64 x9))]) [some ⟨125, va.map (eI .u64)⟩, some ⟨125, b.map (eI .u64)⟩, some ⟨125, (List.replicate 4 0).map (eI .u64)⟩, some ⟨125, l3.map (eI .u64)⟩]) (n := N) ⟨0, 0, List.replicate 4 0, hL2, (zG [0, 1, 2, 3])⟩ (by rintro s h ⟨_, _, _, h0, _⟩; simp [oL] at h0) ?_
  rintro m2 s h ⟨carry_1, x9, l3, hr2, hg⟩
  refine AB.ghost hg ?_
  clear hg hL2
  rw [oL] at hr2
  refine zq <| eY rfl rfl <| zn <| AB.seq ?_
  refine zk hr2 rfl (fun h2 hr2 => ?_) (fun h2 hr2 => ?_)
  · refine AB.skip <| Ex.then_mk <| AB.seq <| AB.block <| zq <| zm rfl <| za rfl <| zn ?_
    obtain ⟨x15, h_3, hr2⟩ := aN hr2
    obtain ⟨x18, h_4, hr2⟩ := aN hr2
    obtain ⟨iH, h_5, hr2⟩ := aN hr2
    obtain ⟨fE, h_7, hr2⟩ := aN hr2
    refine AB.rd (dQ [97]) (dQ []) mixed <| dO 14 0 rfl rfl <| dO 13 1 rfl rfl <| zp 12 2 rfl (bH (v := (.ptr 0 (Int.toNat x9))) (bP rfl rfl (fH aT bV rfl h_3))) <| zp 11 3 rfl (bH (v := (eI .u64 x15)) (aI rfl (gG (E := (eI .u64)) (y := x15) bV rfl rfl (bS h_3)))) <| dO 10 4 rfl rfl <| zp 9 5 rfl (bH (v := (.ptr 1 (Int.toNat x9))) (bP rfl rfl (fH aT bV rfl h_4))) <| zp 8 6 rfl (bH (v := (eI .u64 x18)) (aI rfl (gG (E := (eI .u64)) (y := x18) bV rfl rfl (bS h_4)))) <| dO 7 7 rfl rfl ?_
    refine DrawG.pick (n := 6) (i := 8) (by decide +kernel) rfl (gU (fun _ => (Vm.Fn.pure (rH N x15 x18 carry_1 iH h_5) rfl rfl)) rfl (sv (bN rfl c5))) <| dO 5 9 rfl rfl <| zp 4 10 rfl (bH (v := (eI .u64 iH.1)) (rF rfl rfl)) <| zp 3 11 rfl (bH (v := (eI .u64 iH.2)) (rF rfl rfl)) <| zp 2 12 rfl (bH (v := (.ptr 3 (Int.toNat x9))) (bP rfl rfl (fH aT bV rfl h_7))) ?_
    refine zp 1 13 rfl (jV (h' := [some ⟨125, va.map (eI .u64)⟩, some ⟨125, b.map (eI .u64)⟩, some ⟨125, (List.replicate 4 0).map (eI .u64)⟩, some ⟨125, (l3.set (Int.toNat x9) iH.1).map (eI .u64)⟩]) (aU rfl rfl (s6 (E := (eI .u64)) (y := iH.1) bV rfl rfl (bS h_7) rfl rfl rfl))) <| nL 0 14 rfl rfl <| DrawG.nil (by decide +kernel) <| Ex.inBlock_mk <| Ex.then_mk <| AB.rw <| dG rfl rfl <| zm rfl <| zn ?_
    exact ⟨iH.2, IntKind.i64.wrap (x9 + 1), l3.set (Int.toNat x9) iH.1, hr2, (zG [0, 1, 2, 3])⟩
  · refine AB.exit <| Ex.then_exit_mk <| Ex.then_exit_mk <| Ex.inBlock_same_mk ?_
    obtain rfl := sj hr2
    refine Ex.then_mk ?_
    exact hG1 _ _ _ _ (zG [2, 3]) (J1 carry_1 l3 hr)
theorem aFf (N : Nat) (va : List Int) (b : List Int) (vm : List Int) (r : (List Int)) (hr : s9 N va b vm = some r) :
    Vm.Fn Tryd.prog 99 [] [(.agg (va.map (eI .u64))), (.agg (b.map (eI .u64))), (.agg (vm.map (eI .u64)))] (.agg (r.map (eI .u64))) [] := by
  refine zf Tryd.func99 Tryd.ntmps99 ?_
  unfold s9 at hr
  refine zq <| zh (v := (.ptr 0 0)) (b8 rfl (d9 (fun _ => rfl)) rfl rfl) ?_
  refine zh (v := (.ptr 1 0)) (b8 rfl (d9 (fun _ => rfl)) rfl rfl) ?_
  refine zh (v := (.ptr 2 0)) (b8 rfl (d9 (fun _ => rfl)) rfl rfl) ?_
  refine zh (v := (.ptr 3 0)) (cK (B := some ⟨125, (List.replicate 4 0).map (eI .u64)⟩) aT rfl rfl) ?_
  refine zn <| AB.seq <| AB.seq ?_
  obtain ⟨q, h_1, hr⟩ := aN hr
  refine AB.rw <| zw (v := (.agg (vm.map (eI .u64)))) (aI rfl (b6 (E := (eI .u64)) (l := vm) aT rfl rfl (aP h_1))) <| zw (v := (.agg ([0, 0, 0, 0].map (eI .u64)))) (cI rfl (rW aT bV rfl)) <| zw (a9 rfl rfl (pO _ _ aT bV rfl dep (aP h_1) rfl)) <| zn ?_
  refine zk hr rfl (fun h2 hr => ?_) (fun h2 hr => ?_)
  · refine zq <| zw (v := (.agg ([0, 0, 0, 0].map (eI .u64)))) (cI rfl (rW aT bV rfl)) <| zt (aU rfl rfl (eQ (E := (eI .u64)) (l := List.replicate 4 0) aT rfl rfl (fun _ => rfl) rfl rfl rfl)) ?_
    refine zn <| AB.ret <| Ex.then_ret_mk ?_
    obtain rfl := sj hr
    exact bU (r1 := (.agg ([0, 0, 0, 0].map (eI .u64)))) (nH Tryd.results99 (jU rfl (b6 (E := (eI .u64)) (l := [0, 0, 0, 0]) aT rfl rfl rfl))) (zG [])
  · refine AB.skip <| Ex.then_mk <| AB.seq ?_
    obtain ⟨q_1, h_3, hr⟩ := aN hr
    obtain ⟨x16, h_4, hr⟩ := aN hr
    obtain ⟨q_2, h_6, hr⟩ := aN hr
    obtain ⟨x19, h_7, hr⟩ := aN hr
    obtain ⟨dD, h_9, hr⟩ := aN hr
    obtain ⟨q_3, h_11, hr⟩ := aN hr
    refine AB.rd (dQ [93, 100]) (dQ []) mixed <| zp 12 0 rfl (bH (v := (.agg (va.map (eI .u64)))) (aI rfl (b6 (E := (eI .u64)) (l := va) aT rfl rfl (aP h_3)))) <| zp 11 1 rfl (bH (v := (.agg (vm.map (eI .u64)))) (aI rfl (b6 (E := (eI .u64)) (l := vm) aT rfl rfl (aP h_1)))) <| DrawG.pick (n := 10) (i := 2) (by decide +kernel) rfl (gU (fun _ => (Vm.Fn.pure (vY N va vm x16 h_4) zR zR)) rfl (sv (bN rfl c5))) <| zp 9 3 rfl (bH (v := (.agg (b.map (eI .u64)))) (aI rfl (b6 (E := (eI .u64)) (l := b) aT rfl rfl (aP h_6)))) ?_
    refine zp 8 4 rfl (bH (v := (.agg (vm.map (eI .u64)))) (aI rfl (b6 (E := (eI .u64)) (l := vm) aT rfl rfl (aP h_1)))) <| DrawG.pick (n := 7) (i := 5) (by decide +kernel) rfl (gU (fun _ => (Vm.Fn.pure (vY N b vm x19 h_7) zR zR)) rfl (sv (bN rfl c5))) <| DrawG.pick (n := 6) (i := 6) (by decide +kernel) rfl (gU (fun _ => (Vm.Fn.pure (aHL N x16 x19 dD h_9) zR zR)) rfl (sv (bN rfl c5))) <| dO 5 7 rfl rfl <| zp 4 8 rfl (bH (v := (.agg (dD.1.map (eI .u64)))) (rF rfl rfl)) <| zp 3 9 rfl (bH (v := (eB dD.2)) (rF rfl rfl)) ?_
    refine zp 2 10 rfl (bH (v := (.ptr 4 0)) (h' := [some ⟨125, va.map (eI .u64)⟩, some ⟨125, b.map (eI .u64)⟩, some ⟨125, vm.map (eI .u64)⟩, some ⟨125, (List.replicate 4 0).map (eI .u64)⟩, some ⟨125, (List.replicate 4 0).map (eI .u64)⟩]) (nS aT rfl rfl rfl)) <| zp 1 11 rfl (jV (h' := [some ⟨125, va.map (eI .u64)⟩, some ⟨125, b.map (eI .u64)⟩, some ⟨125, vm.map (eI .u64)⟩, some ⟨125, (List.replicate 4 0).map (eI .u64)⟩, some ⟨125, dD.1.map (eI .u64)⟩]) (aU rfl rfl (eQ (E := (eI .u64)) (l := List.replicate 4 0) aT rfl rfl (fun _ => rfl) rfl (aP h_11) rfl))) <| nL 0 12 rfl rfl ?_
    refine DrawG.nil (by decide +kernel) <| Ex.then_mk ?_
    refine AB.seq_g fun K1 hK1 hG1 => ?_
    have J1 : ∀ (l1 : List Int), k8 N l1 = some r → K1 (aV 37 [(6, (.ptr 0 0)), (7, (.ptr 1 0))]) [some ⟨125, (List.replicate 4 0).map (eI .u64)⟩, some ⟨125, l1.map (eI .u64)⟩] := by
      intro l1 hr
      unfold k8 at hr
      refine hK1 _ _ <| AB.seq ?_
      obtain ⟨q_4, h_12, hr⟩ := aN hr
      refine AB.rw <| zw (v := (.agg (l1.map (eI .u64)))) (aI rfl (b6 (E := (eI .u64)) (l := l1) aT rfl rfl (aP h_12))) <| zt (aU rfl rfl (eQ (E := (eI .u64)) (l := List.replicate 4 0) aT rfl rfl (fun _ => rfl) rfl (aP h_12) rfl)) ?_
      refine zn <| AB.ret ?_
      obtain rfl := sj hr
      exact bU (r1 := (.agg (l1.map (eI .u64)))) (nH Tryd.results99 (jU rfl (b6 (E := (eI .u64)) (l := l1) aT rfl rfl (aP h_12)))) (zG [])
    refine AB.seq_g fun K2 hK2 hG2 => ?_
    have J2 : ∀ (x29 : Bool), lA N vm dD x29 = some r → K2 (aV 37 [(5, (.ptr 0 0)), (6, (.ptr 1 0)), (7, (.ptr 2 0)), (29, (eB x29))]) [some ⟨125, vm.map (eI .u64)⟩, some ⟨125, (List.replicate 4 0).map (eI .u64)⟩, some ⟨125, dD.1.map (eI .u64)⟩] := by
      intro x29 hr
      unfold lA at hr
      refine hK2 _ _ ?_
      refine zk hr rfl (fun h13 hr => ?_) (fun h13 hr => ?_)
      · obtain ⟨gH, h_14, hr⟩ := aN hr
        obtain ⟨q_5, h_15, hr⟩ := aN hr
        refine AB.rw <| zw (v := (.agg (dD.1.map (eI .u64)))) (aI rfl (b6 (E := (eI .u64)) (l := dD.1) aT rfl rfl (aP h_11))) <| zw (v := (.agg (vm.map (eI .u64)))) (aI rfl (b6 (E := (eI .u64)) (l := vm) aT rfl rfl (aP h_1))) <| wC rfl (Vm.Fn.pure (aAQ N dD.1 vm gH h_14) zR zR) <| zm rfl <| iW rfl rfl <| iW rfl rfl <| zt (aU rfl rfl (eQ (E := (eI .u64)) (l := dD.1) aT rfl rfl (fun _ => rfl) (aP h_11) (aP h_15) rfl)) ?_
        refine zn ?_
        exact hG1 _ _ _ _ (zG [1, 2]) (J1 gH.1 hr)
      · refine AB.skip <| Ex.then_mk ?_
        exact hG1 _ _ _ _ (zG [1, 2]) (J1 dD.1 hr)
    rcases Bool.eq_false_or_eq_true dD.2 with h16 | h16
    · replace hr := gE hr h16
      refine AB.rw <| zm rfl <| zm rfl <| zx h16 <| zx h16 <| zx h16 <| zx h16 <| zw (v := (eB true)) (c9 rfl h16 rfl) <| zn ?_
      exact hG2 _ _ _ _ (zG [2, 3, 4]) (J2 true hr)
    · replace hr := gB hr h16
      obtain ⟨x27, h_17, hr⟩ := aN hr
      refine AB.rw <| zm rfl <| zm rfl <| zg (v := (.agg (dD.1.map (eI .u64)))) h16 (aI rfl (b6 (E := (eI .u64)) (l := dD.1) aT rfl rfl (aP h_11))) <| zg (v := (.agg (vm.map (eI .u64)))) h16 (aI rfl (b6 (E := (eI .u64)) (l := vm) aT rfl rfl (aP h_1))) <| wCG (v := (eI .i64 x27)) (h' := [some ⟨125, va.map (eI .u64)⟩, some ⟨125, b.map (eI .u64)⟩, some ⟨125, vm.map (eI .u64)⟩, some ⟨125, (List.replicate 4 0).map (eI .u64)⟩, some ⟨125, dD.1.map (eI .u64)⟩]) rfl rfl h16 rfl (Vm.Fn.pure (qG N dD.1 vm x27 h_17) zR rfl) <| zg h16 (a9 rfl rfl (wJ ..)) ?_
      refine oB rfl h16 rfl <| zn ?_
      exact hG2 _ _ _ _ (zG [2, 3, 4]) (J2 (decide (0 ≤ x27)) hr)
theorem aCk (N : Nat) (va : List Int) (b : List Int) (r : (List Int)) (hr : nW N va b = some r) :
    Vm.Fn Tryd.prog 95 [] [(.agg (va.map (eI .u64))), (.agg (b.map (eI .u64)))] (.agg (r.map (eI .u64))) [] := by
  refine zf Tryd.func95 Tryd.ntmps95 ?_
  unfold nW at hr
  refine zq <| zh (v := (.ptr 0 0)) (b8 rfl (d9 (fun _ => rfl)) rfl rfl) ?_
  refine zh (v := (.ptr 1 0)) (b8 rfl (d9 (fun _ => rfl)) rfl rfl) ?_
  refine zh (v := (.ptr 2 0)) (cK (B := some ⟨125, (List.replicate 4 0).map (eI .u64)⟩) aT rfl rfl) ?_
  refine zn <| AB.seq ?_
  obtain ⟨q, h_1, hr⟩ := aN hr
  obtain ⟨q_1, h_2, hr⟩ := aN hr
  obtain ⟨x7, h_3, hr⟩ := aN hr
  obtain ⟨x8, h_5, hr⟩ := aN hr
  obtain ⟨q_2, h_7, hr⟩ := aN hr
  have hc4 : Vm.Fn Tryd.prog 78 [some ⟨125, va.map (eI .u64)⟩, some ⟨125, b.map (eI .u64)⟩, some ⟨125, (List.replicate 4 0).map (eI .u64)⟩] [] (.agg (x7.map (eI .u64))) [some ⟨125, va.map (eI .u64)⟩, some ⟨125, b.map (eI .u64)⟩, some ⟨125, (List.replicate 4 0).map (eI .u64)⟩] := (Vm.Fn.pure (sS N x7 h_3) rfl zR)
  have hc6 : Vm.Fn Tryd.prog 99 [some ⟨125, va.map (eI .u64)⟩, some ⟨125, b.map (eI .u64)⟩, some ⟨125, (List.replicate 4 0).map (eI .u64)⟩] [(.agg (va.map (eI .u64))), (.agg (b.map (eI .u64))), (.agg (x7.map (eI .u64)))] (.agg (x8.map (eI .u64))) [some ⟨125, va.map (eI .u64)⟩, some ⟨125, b.map (eI .u64)⟩, some ⟨125, (List.replicate 4 0).map (eI .u64)⟩] := (Vm.Fn.pure (aFf N va b x7 x8 h_5) zR zR)
  refine AB.rg (Env.add (Env.one mixed hc4 fS (fun _ _ => rfl)) hc6 fS (fun _ _ => rfl) (fun _ h => h)) (fun _ => by show dR fS _ = true; decide +kernel) <| tS (v := (.agg (va.map (eI .u64)))) (sv (aI rfl (b6 (E := (eI .u64)) (l := va) aT rfl rfl (aP h_1)))) <| tS (v := (.agg (b.map (eI .u64)))) (sv (aI rfl (b6 (E := (eI .u64)) (l := b) aT rfl rfl (aP h_2)))) <| tS (v := (.agg (x7.map (eI .u64)))) (h' := [some ⟨125, va.map (eI .u64)⟩, some ⟨125, b.map (eI .u64)⟩, some ⟨125, (List.replicate 4 0).map (eI .u64)⟩]) (sv (bN rfl (Env.add_M rfl Env.one_O))) ?_
  refine tS (v := (.agg (x8.map (eI .u64)))) (h' := [some ⟨125, va.map (eI .u64)⟩, some ⟨125, b.map (eI .u64)⟩, some ⟨125, (List.replicate 4 0).map (eI .u64)⟩]) (sv (bN rfl Env.add_O)) <| tN (h' := [some ⟨125, va.map (eI .u64)⟩, some ⟨125, b.map (eI .u64)⟩, some ⟨125, x8.map (eI .u64)⟩]) (sv (aU rfl rfl (eQ (E := (eI .u64)) (l := List.replicate 4 0) aT rfl rfl (fun _ => rfl) rfl (aP h_7) rfl))) <| OpsTo.nil <| Ex.then_mk <| AB.ret ?_
  obtain rfl := sj hr
  exact bU (r1 := (.agg (x8.map (eI .u64)))) (nH Tryd.results95 (jU rfl (b6 (E := (eI .u64)) (l := x8) aT rfl rfl (aP h_7)))) (zG [])
theorem aD3 (N : Nat) (vh : List Int) (r : (List Int)) (hr : rQ N vh = some r) :
    Vm.Fn Tryd.prog 88 [] [(.agg (vh.map (eI .u8)))] (.agg (r.map (eI .u64))) [] := by
  refine zf Tryd.func88 Tryd.ntmps88 ?_
  unfold rQ at hr
  refine zq <| zh (v := (.ptr 0 0)) (b8 rfl (d9 (fun _ => rfl)) rfl rfl) ?_
  refine zh (v := (.ptr 1 0)) (cK (B := some ⟨125, (List.replicate 4 0).map (eI .u64)⟩) aT rfl rfl) ?_
  refine zn <| AB.seq ?_
  obtain ⟨q, h_1, hr⟩ := aN hr
  obtain ⟨x4, h_2, hr⟩ := aN hr
  obtain ⟨x6, h_3, hr⟩ := aN hr
  obtain ⟨q_1, h_4, hr⟩ := aN hr
  refine AB.rw <| zw (v := (.agg (vh.map (eI .u8)))) (aI rfl (b6 (E := (eI .u8)) (l := vh) dL rfl rfl (aP h_1))) <| wC rfl (Vm.Fn.pure (oX N vh x4 h_2) zR zR) <| zw (v := (.agg ([0, 0, 0, 0].map (eI .u64)))) (cI rfl (rW aT bV rfl)) <| wC rfl (Vm.Fn.pure (aCk N x4 [0, 0, 0, 0] x6 h_3) zR zR) <| zt (aU rfl rfl (eQ (E := (eI .u64)) (l := List.replicate 4 0) aT rfl rfl (fun _ => rfl) rfl (aP h_4) rfl)) ?_
  refine zn <| AB.ret ?_
  obtain rfl := sj hr
  exact bU (r1 := (.agg (x6.map (eI .u64)))) (nH Tryd.results88 (jU rfl (b6 (E := (eI .u64)) (l := x6) aT rfl rfl (aP h_4)))) (zG [])
theorem aCS (N : Nat) (vr : List Int) (p : List Int) (vm : List Int) (r : (List Int)) (hr : oY N vr p vm = some r) :
    Vm.Fn Tryd.prog 82 [] [(.agg (vr.map (eI .u64))), (.agg (p.map (eI .u64))), (.agg (vm.map (eI .u8)))] (.agg (r.map (eI .u64))) [] := by
  refine zf Tryd.func82 Tryd.ntmps82 ?_
  unfold oY at hr
  refine zq <| zh (v := (.ptr 0 0)) (b8 rfl (d9 (fun _ => rfl)) rfl rfl) ?_
  refine zh (v := (.ptr 1 0)) (b8 rfl (d9 (fun _ => rfl)) rfl rfl) ?_
  refine zh (v := (.ptr 2 0)) (b8 rfl (d9 (fun _ => rfl)) rfl rfl) ?_
  refine zh (v := (.ptr 3 0)) (cK (B := some ⟨125, (List.replicate 4 0).map (eI .u64)⟩) aT rfl rfl) ?_
  refine zn <| AB.seq ?_
  obtain ⟨q, h_1, hr⟩ := aN hr
  obtain ⟨x8, h_2, hr⟩ := aN hr
  obtain ⟨q_1, h_4, hr⟩ := aN hr
  obtain ⟨cG, h_5, hr⟩ := aN hr
  obtain ⟨q_2, h_7, hr⟩ := aN hr
  obtain ⟨q_3, h_8, hr⟩ := aN hr
  obtain ⟨q_4, h_9, hr⟩ := aN hr
  obtain ⟨cJ, h_10, hr⟩ := aN hr
  obtain ⟨bO, h_12, hr⟩ := aN hr
  obtain ⟨x15, h_14, hr⟩ := aN hr
  obtain ⟨q_5, h_16, hr⟩ := aN hr
  refine AB.rd (dQ [88, 90]) (dQ [24, 89]) mixed <| zp 9 0 rfl (bH (v := (.agg (vr.map (eI .u64)))) (aI rfl (b6 (E := (eI .u64)) (l := vr) aT rfl rfl (aP h_1)))) <| DrawG.pick (n := 8) (i := 1) (by decide +kernel) rfl (gU (fun _ => (Vm.Fn.pure (aBX N vr x8 h_2) zR zR)) rfl (sv (bN rfl c5))) <| zp 7 2 rfl (bH (v := (.agg (p.map (eI .u64)))) (aI rfl (b6 (E := (eI .u64)) (l := p) aT rfl rfl (aP h_4)))) <| DrawG.pick (n := 6) (i := 3) (by decide +kernel) rfl (gU (fun _ => (Vm.Fn.pure (aBX N p cG h_5) zR zR)) rfl (sv (bN rfl c5))) ?_
  refine zp 5 4 rfl (bH (v := (.agg (vm.map (eI .u8)))) (aI rfl (b6 (E := (eI .u8)) (l := vm) dL rfl rfl (aP h_7)))) ?_
  refine zp 4 5 rfl (bH (v := (.sl 4 0 3 32 true)) (h' := [some ⟨125, vr.map (eI .u64)⟩, some ⟨125, p.map (eI .u64)⟩, some ⟨36, vm.map (eI .u8)⟩, some ⟨125, (List.replicate 4 0).map (eI .u64)⟩, some ⟨36, [x8, cG, vm].flatMap (aBE (eI .u8))⟩]) (e9 rfl (aMr (ps' := [(0, .agg (aBE (eI .u8) x8)), (1, .agg (aBE (eI .u8) cG)), (2, .agg (aBE (eI .u8) vm))]) (by simp only [aBE, rV (l := x8) (aP h_8), rV (l := cG) (aP h_9), rV (l := vm) (aP h_7)]) (aBo (len := 3) (C := (aBE (eI .u8))) (xs := [x8, cG, vm]) (K := 32) (fun _ => rfl) (fun _ => rfl) aIR dL ⟨zl, zl, zl⟩ rfl rfl rfl rfl rfl rfl)))) ?_
  refine DrawG.gh (n := 3) (by decide +kernel) (Ghost.conv (fr' := [(0, (.agg (vr.map (eI .u64)))), (1, (.agg (p.map (eI .u64)))), (2, (.agg (vm.map (eI .u8)))), (3, (.ptr 0 0)), (4, (.ptr 1 0)), (5, (.ptr 2 0)), (6, (.ptr 3 0)), (7, (.agg (vr.map (eI .u64)))), (8, (.agg (x8.map (eI .u8)))), (9, (.agg (p.map (eI .u64)))), (10, (.agg (cG.map (eI .u8)))), (11, (.agg (vm.map (eI .u8)))), (12, (.row none 32 ([x8, cG, vm].map (eA (eI .u8)))))]) (h' := [some ⟨125, vr.map (eI .u64)⟩, some ⟨125, p.map (eI .u64)⟩, some ⟨36, vm.map (eI .u8)⟩, some ⟨125, (List.replicate 4 0).map (eI .u64)⟩, none]) (FCv.cons rfl (Conv.same (aZ rfl)) (FCv.cons rfl (Conv.same (aZ rfl)) (FCv.cons rfl (Conv.same (aZ rfl)) (FCv.cons rfl (Conv.same (aZ rfl)) (FCv.cons rfl (Conv.same (aZ rfl)) (FCv.cons rfl (Conv.same (aZ rfl)) (FCv.cons rfl (Conv.same (aZ rfl)) (FCv.cons rfl (Conv.same (aZ rfl)) (FCv.cons rfl (Conv.same (aZ rfl)) (FCv.cons rfl (Conv.same (aZ rfl)) (FCv.cons rfl (Conv.same (aZ rfl)) (FCv.cons rfl (Conv.same (aZ rfl)) (FCv.cons rfl (Conv.rowKA (C := (aBE (eI .u8))) (E := (eI .u8)) (fun _ => rfl) (fun _ => rfl) (fun _ => rfl) (List.forall_mem_cons.2 ⟨rV (aP h_8), List.forall_mem_cons.2 ⟨rV (aP h_9), List.forall_mem_cons.2 ⟨rV (aP h_7), List.forall_mem_nil _⟩⟩⟩) (aZ rfl) rfl rfl rfl) FCv.nil))))))))))))) (HCv.live (Convs.same (aZ rfl)) (all_map (fun _ => rfl) _) (HCv.live (Convs.same (aZ rfl)) (all_map (fun _ => rfl) _) (HCv.live (Convs.same (aZ rfl)) (all_map (fun _ => rfl) _) (HCv.live (Convs.same (aZ rfl)) (all_map (fun _ => rfl) _) (HCv.dead HCv.nil)))))) ?_
  refine DrawG.pick (n := 3) (i := 6) (by decide +kernel) rfl (gC (v := (.sl 5 0 cJ.length 1 false)) (h' := [some ⟨125, vr.map (eI .u64)⟩, some ⟨125, p.map (eI .u64)⟩, some ⟨36, vm.map (eI .u8)⟩, some ⟨125, (List.replicate 4 0).map (eI .u64)⟩, none, some ⟨5, cJ.map (eI .u8)⟩]) (zB (aHO N [x8, cG, vm] cJ h_10) []) rfl (fun _ => ⟨_, rfl⟩) (sv (bN rfl d5))) ?_
  refine DrawG.pick (n := 2) (i := 7) (by decide +kernel) rfl (gC (v := (.agg (bO.map (eI .u8)))) (h' := [some ⟨125, vr.map (eI .u64)⟩, some ⟨125, p.map (eI .u64)⟩, some ⟨36, vm.map (eI .u8)⟩, some ⟨125, (List.replicate 4 0).map (eI .u64)⟩, none, some ⟨5, cJ.map (eI .u8)⟩]) (zL (aBS N (⟨#[108, 105, 103, 104, 116, 99, 108, 105, 101, 110, 116, 47, 99, 104, 97, 108, 108, 101, 110, 103, 101]⟩) cJ bO h_12) [] [5]) rfl (fun _ => ⟨[], by simp⟩) (sv (bN rfl d5))) ?_
  refine DrawG.pick (n := 1) (i := 8) (by decide +kernel) rfl (gU (fun _ => (Vm.Fn.pure (aD3 N bO x15 h_14) zR zR)) rfl (sv (bN rfl c5))) <| zp 0 9 rfl (jV (h' := [some ⟨125, vr.map (eI .u64)⟩, some ⟨125, p.map (eI .u64)⟩, some ⟨36, vm.map (eI .u8)⟩, some ⟨125, x15.map (eI .u64)⟩, none, some ⟨5, cJ.map (eI .u8)⟩]) (aU rfl rfl (eQ (E := (eI .u64)) (l := List.replicate 4 0) aT rfl rfl (fun _ => rfl) rfl (aP h_16) rfl))) <| DrawG.nil (by decide +kernel) <| Ex.then_mk <| AB.ret ?_
  obtain rfl := sj hr
  exact bU (r1 := (.agg (x15.map (eI .u64)))) (nH Tryd.results82 (jU rfl (b6 (E := (eI .u64)) (l := x15) aT rfl rfl (aP h_16)))) (zG [])
theorem aEY (N : Nat) (p : List Int) (vm : List Int) (s_E : List Int) (s_S : List Int) (r : Bool) (hr : tJ N p vm s_E s_S = some r) :
    Vm.Fn Tryd.prog 73 [] [(.agg (p.map (eI .u64))), (.agg (vm.map (eI .u8))), (.agg (cB (eI .u64) s_E (cB (eI .u64) s_S [])))] (eB r) [] := by
  refine zf Tryd.func73 Tryd.ntmps73 ?_
  unfold tJ at hr
  refine zq <| zh (v := (.ptr 0 0)) (b8 rfl (d9 (fun _ => rfl)) rfl rfl) ?_
  refine zh (v := (.ptr 1 0)) (b8 rfl (d9 (fun _ => rfl)) rfl rfl) ?_
  refine zh (v := (.ptr 2 0)) (b8 rfl rfl rfl rfl) ?_
  refine zj <| zn <| AB.seq ?_
  refine AB.seq_g fun K1 hK1 hG1 => ?_
  have J1 : ∀ (fE : Bool), lB N p vm s_E s_S fE = some r → K1 (aV 46 [(3, (.ptr 0 0)), (4, (.ptr 1 0)), (5, (.ptr 2 0)), (24, (eB fE))]) [some ⟨125, p.map (eI .u64)⟩, some ⟨36, vm.map (eI .u8)⟩, some ⟨129, (cB (eI .u64) s_E (cB (eI .u64) s_S []))⟩] := by
    intro fE hr
    unfold lB at hr
    refine hK1 _ _ ?_
    refine zk hr rfl (fun h1 hr => ?_) (fun h1 hr => ?_)
    · refine zq <| zj <| zn <| AB.ret <| Ex.then_ret_mk ?_
      obtain rfl := sj hr
      exact bW Tryd.results73 []
    · refine AB.skip <| Ex.then_mk <| AB.seq ?_
      obtain ⟨x26, h_2, hr⟩ := aN hr
      obtain ⟨q, h_4, hr⟩ := aN hr
      obtain ⟨x29, h_5, hr⟩ := aN hr
      obtain ⟨q_1, h_7, hr⟩ := aN hr
      refine AB.rd (dQ [77, 78]) (dQ []) mixed <| DrawG.pick (n := 9) (i := 0) (by decide +kernel) rfl (gU (fun _ => (Vm.Fn.pure (sS N x26 h_2) rfl zR)) rfl (sv (bN rfl c5))) <| kP 8 1 rfl rfl (t6 ..) <| zp 7 2 rfl (bH (v := (.agg (s_E.map (eI .u64)))) (aI rfl (bZ rfl (to4 (aP h_4) (bQ (ds := (cB (eI .u64) s_E [])) aT rfl zl rfl))))) <| DrawG.pick (n := 6) (i := 3) (by decide +kernel) rfl (gU (fun _ => (Vm.Fn.pure (aAQ N x26 s_E x29 h_5) zR zR)) rfl (sv (bN rfl c5))) <| dO 5 4 rfl rfl ?_
      refine zp 4 5 rfl (bH (v := (.agg (x29.1.map (eI .u64)))) (rF rfl rfl)) <| zp 3 6 rfl (bH (v := (eB x29.2)) (rF rfl rfl)) <| zp 2 7 rfl (bH (v := (.ptr 3 0)) (h' := [some ⟨125, p.map (eI .u64)⟩, some ⟨36, vm.map (eI .u8)⟩, some ⟨129, (cB (eI .u64) s_E (cB (eI .u64) s_S []))⟩, some ⟨125, (List.replicate 4 0).map (eI .u64)⟩]) (nS aT rfl rfl rfl)) ?_
      refine zp 1 8 rfl (jV (h' := [some ⟨125, p.map (eI .u64)⟩, some ⟨36, vm.map (eI .u8)⟩, some ⟨129, (cB (eI .u64) s_E (cB (eI .u64) s_S []))⟩, some ⟨125, x29.1.map (eI .u64)⟩]) (aU rfl rfl (eQ (E := (eI .u64)) (l := List.replicate 4 0) aT rfl rfl (fun _ => rfl) rfl (aP h_7) rfl))) <| nL 0 9 rfl rfl <| DrawG.nil (by decide +kernel) <| Ex.then_mk <| AB.seq ?_
      obtain ⟨q_2, h_8, hr⟩ := aN hr
      obtain ⟨gO, h_9, hr⟩ := aN hr
      obtain ⟨q_3, h_11, hr⟩ := aN hr
      obtain ⟨x37, h_12, hr⟩ := aN hr
      obtain ⟨x38, h_14, hr⟩ := aN hr
      obtain ⟨q_4, h_16, hr⟩ := aN hr
      refine AB.rd (dQ [79, 80, 81]) (dQ []) mixed <| kP 8 0 rfl rfl (aBR ..) <| zp 7 1 rfl (bH (v := (.agg (s_S.map (eI .u64)))) (aI rfl (bZ rfl (to4 (aP h_8) (bQ (ds := (cB (eI .u64) s_S [])) aT rfl zl rfl))))) <| DrawG.pick (n := 6) (i := 2) (by decide +kernel) rfl (gU (fun _ => (Vm.Fn.pure (aEI N s_S gO h_9) zR zR)) rfl (sv (bN rfl c5))) <| zp 5 3 rfl (bH (v := (.agg (p.map (eI .u64)))) (aI rfl (b6 (E := (eI .u64)) (l := p) aT rfl rfl (aP h_11)))) ?_
      refine zp 4 4 rfl (bH (v := (.agg (x29.1.map (eI .u64)))) (aI rfl (b6 (E := (eI .u64)) (l := x29.1) aT rfl rfl (aP h_7)))) <| DrawG.pick (n := 3) (i := 5) (by decide +kernel) rfl (gU (fun _ => (Vm.Fn.pure (aAh N p x29.1 x37 h_12) zR zR)) rfl (sv (bN rfl c5))) <| DrawG.pick (n := 2) (i := 6) (by decide +kernel) rfl (gU (fun _ => (Vm.Fn.pure (zT N gO x37 x38 h_14) zR zR)) rfl (sv (bN rfl c5))) ?_
      refine zp 1 7 rfl (bH (v := (.ptr 4 0)) (h' := [some ⟨125, p.map (eI .u64)⟩, some ⟨36, vm.map (eI .u8)⟩, some ⟨129, (cB (eI .u64) s_E (cB (eI .u64) s_S []))⟩, some ⟨125, x29.1.map (eI .u64)⟩, some ⟨125, (List.replicate 4 0).map (eI .u64)⟩]) (nS aT rfl rfl rfl)) <| zp 0 8 rfl (jV (h' := [some ⟨125, p.map (eI .u64)⟩, some ⟨36, vm.map (eI .u8)⟩, some ⟨129, (cB (eI .u64) s_E (cB (eI .u64) s_S []))⟩, some ⟨125, x29.1.map (eI .u64)⟩, some ⟨125, x38.map (eI .u64)⟩]) (aU rfl rfl (eQ (E := (eI .u64)) (l := List.replicate 4 0) aT rfl rfl (fun _ => rfl) rfl (aP h_16) rfl))) ?_
      refine DrawG.nil (by decide +kernel) <| Ex.then_mk <| AB.seq ?_
      obtain ⟨q_5, h_17, hr⟩ := aN hr
      obtain ⟨x44, h_18, hr⟩ := aN hr
      obtain ⟨q_6, h_20, hr⟩ := aN hr
      have hc19 : Vm.Fn Tryd.prog 82 [some ⟨125, p.map (eI .u64)⟩, some ⟨36, vm.map (eI .u8)⟩, some ⟨129, (cB (eI .u64) s_E (cB (eI .u64) s_S []))⟩, some ⟨125, x29.1.map (eI .u64)⟩, some ⟨125, x38.map (eI .u64)⟩] [(.agg (x38.map (eI .u64))), (.agg (p.map (eI .u64))), (.agg (vm.map (eI .u8)))] (.agg (x44.map (eI .u64))) [some ⟨125, p.map (eI .u64)⟩, some ⟨36, vm.map (eI .u8)⟩, some ⟨129, (cB (eI .u64) s_E (cB (eI .u64) s_S []))⟩, some ⟨125, x29.1.map (eI .u64)⟩, some ⟨125, x38.map (eI .u64)⟩] := (Vm.Fn.pure (aCS N x38 p vm x44 h_18) zR zR)
      refine AB.rg (Env.one mixed hc19 fS (fun _ _ => rfl)) (fun _ => by show dR fS _ = true; decide +kernel) <| tS (v := (.ptr 2 0)) (sv (eE rfl (t6 ..))) <| tS (v := (.agg (s_E.map (eI .u64)))) (sv (aI rfl (bZ rfl (to4 (aP h_4) (bQ (ds := (cB (eI .u64) s_E [])) aT rfl zl rfl))))) <| tS (v := (.agg (x38.map (eI .u64)))) (sv (aI rfl (b6 (E := (eI .u64)) (l := x38) aT rfl rfl (aP h_16)))) <| tS (v := (.agg (p.map (eI .u64)))) (sv (aI rfl (b6 (E := (eI .u64)) (l := p) aT rfl rfl (aP h_11)))) ?_
      refine tS (v := (.agg (vm.map (eI .u8)))) (sv (aI rfl (b6 (E := (eI .u8)) (l := vm) dL rfl rfl (aP h_17)))) <| tS (v := (.agg (x44.map (eI .u64)))) (h' := [some ⟨125, p.map (eI .u64)⟩, some ⟨36, vm.map (eI .u8)⟩, some ⟨129, (cB (eI .u64) s_E (cB (eI .u64) s_S []))⟩, some ⟨125, x29.1.map (eI .u64)⟩, some ⟨125, x38.map (eI .u64)⟩]) (sv (bN rfl Env.one_O)) <| tS (sv (a9 rfl rfl (pO _ _ aT bV rfl dep (aP h_4) (aP h_20)))) <| tS (sv (bE rfl)) <| OpsTo.nil <| Ex.then_mk <| AB.ret ?_
      obtain rfl := sj hr
      exact bW Tryd.results73 []
  obtain ⟨q_7, h_21, hr⟩ := aN hr
  obtain ⟨fF, h_22, hr⟩ := aN hr
  rcases Bool.eq_false_or_eq_true (!fF) with h23 | h23
  · replace hr := gE hr h23
    refine AB.rw <| cQ rfl (t6 ..) <| zw (v := (.agg (s_E.map (eI .u64)))) (aI rfl (bZ rfl (to4 (aP h_21) (bQ (ds := (cB (eI .u64) s_E [])) aT rfl zl rfl)))) <| wC rfl (Vm.Fn.pure (jP N s_E fF h_22) zR rfl) <| zw (f9 rfl (dU _ _)) <| zm rfl <| zx h23 <| zx h23 <| zx h23 <| zx h23 <| zw (v := (eB true)) (c9 rfl h23 rfl) <| zm rfl <| zx rfl <| zx rfl <| zx rfl <| zw (v := (eB true)) (c9 rfl rfl rfl) <| zn ?_
    exact hG1 _ _ _ _ (zG [0, 1, 2]) (J1 true hr)
  · replace hr := gB hr h23
    obtain ⟨q_8, h_24, hr⟩ := aN hr
    obtain ⟨x17, h_25, hr⟩ := aN hr
    rcases Bool.eq_false_or_eq_true (!x17) with h26 | h26
    · replace hr := gE hr h26
      refine AB.rw <| cQ rfl (t6 ..) <| zw (v := (.agg (s_E.map (eI .u64)))) (aI rfl (bZ rfl (to4 (aP h_21) (bQ (ds := (cB (eI .u64) s_E [])) aT rfl zl rfl)))) <| wC rfl (Vm.Fn.pure (jP N s_E fF h_22) zR rfl) <| zw (f9 rfl (dU _ _)) <| zm rfl <| zg (v := (.ptr 2 4)) h23 (eE rfl (aBR ..)) <| zg (v := (.agg (s_S.map (eI .u64)))) h23 (aI rfl (bZ rfl (to4 (aP h_24) (bQ (ds := (cB (eI .u64) s_S [])) aT rfl zl rfl)))) ?_
      refine wCG (v := (eB x17)) (h' := [some ⟨125, p.map (eI .u64)⟩, some ⟨36, vm.map (eI .u8)⟩, some ⟨129, (cB (eI .u64) s_E (cB (eI .u64) s_S []))⟩]) rfl rfl h23 rfl (Vm.Fn.pure (jP N s_S x17 h_25) zR rfl) <| zg h23 (f9 rfl (dU _ _)) <| oB rfl h23 rfl <| zm rfl <| zx h26 <| zx h26 <| zx h26 <| zw (v := (eB true)) (c9 rfl h26 rfl) <| zn ?_
      exact hG1 _ _ _ _ (zG [0, 1, 2]) (J1 true hr)
    · replace hr := gB hr h26
      obtain ⟨q_9, h_27, hr⟩ := aN hr
      obtain ⟨d8, h_28, hr⟩ := aN hr
      refine AB.rw <| cQ rfl (t6 ..) <| zw (v := (.agg (s_E.map (eI .u64)))) (aI rfl (bZ rfl (to4 (aP h_21) (bQ (ds := (cB (eI .u64) s_E [])) aT rfl zl rfl)))) <| wC rfl (Vm.Fn.pure (jP N s_E fF h_22) zR rfl) <| zw (f9 rfl (dU _ _)) <| zm rfl <| zg (v := (.ptr 2 4)) h23 (eE rfl (aBR ..)) <| zg (v := (.agg (s_S.map (eI .u64)))) h23 (aI rfl (bZ rfl (to4 (aP h_24) (bQ (ds := (cB (eI .u64) s_S [])) aT rfl zl rfl)))) ?_
      refine wCG (v := (eB x17)) (h' := [some ⟨125, p.map (eI .u64)⟩, some ⟨36, vm.map (eI .u8)⟩, some ⟨129, (cB (eI .u64) s_E (cB (eI .u64) s_S []))⟩]) rfl rfl h23 rfl (Vm.Fn.pure (jP N s_S x17 h_25) zR rfl) <| zg h23 (f9 rfl (dU _ _)) <| oB rfl h23 rfl <| zm rfl <| zg (v := (.agg (p.map (eI .u64)))) h26 (aI rfl (b6 (E := (eI .u64)) (l := p) aT rfl rfl (aP h_27))) <| wCG (v := (eB d8)) (h' := [some ⟨125, p.map (eI .u64)⟩, some ⟨36, vm.map (eI .u8)⟩, some ⟨129, (cB (eI .u64) s_E (cB (eI .u64) s_S []))⟩]) rfl rfl h26 rfl (Vm.Fn.pure (aBW N p d8 h_28) zR rfl) ?_
      refine zg h26 (f9 rfl (dU _ _)) <| oB rfl h26 rfl <| zn ?_
      exact hG1 _ _ _ _ (zG [0, 1, 2]) (J1 (!d8) hr)
theorem aAd (N : Nat) (aE : List Int) (aF : Int) (aJ : Int) (aG : List (List Int)) (aD : List aS) (aW : Int) (key : List Int) (uD : List Int) (r : Int) (hr : eN N aE aF aJ aG aD aW key uD = some r) :
    Vm.Fn Tryd.prog 68 [some ⟨88, (aX (eI .u8) aE [(eI .i64 aF), (eI .i64 aJ), (.sl 1 0 aG.length 1 false), (.sl 2 0 aD.length 2 true), (eI .i64 aW)])⟩, some ⟨42, aG.map (eL 1 (eI .u8))⟩, some ⟨103, aD.flatMap aQ⟩] [(.ptr 0 0), (.row none 1 (key.map (eI .u8))), (.row none 1 (uD.map (eI .u8)))] (eI .i64 r) [some ⟨88, (aX (eI .u8) aE [(eI .i64 aF), (eI .i64 aJ), (.sl 1 0 aG.length 1 false), (.sl 2 0 aD.length 2 true), (eI .i64 aW)])⟩, some ⟨42, aG.map (eL 1 (eI .u8))⟩, some ⟨103, aD.flatMap aQ⟩] := by
  refine zf Tryd.func68 Tryd.ntmps68 ?_
  unfold eN at hr
  refine zq <| zi <| zn <| AB.seq <| zq <| zm rfl <| eT rfl bG <| rE rfl rfl <| zn ?_
  refine zk hr rfl (fun h1 hr => ?_) (fun h1 hr => ?_)
  · refine zq <| zi <| zn <| AB.ret <| Ex.then_ret_mk ?_
    obtain rfl := sj hr
    exact bW Tryd.results68 [0, 1, 2]
  · refine AB.skip <| Ex.then_mk <| AB.seq ?_
    obtain ⟨bO, h_2, hr⟩ := aN hr
    obtain ⟨x16, h_3, hr⟩ := aN hr
    obtain ⟨q, h_4, hr⟩ := aN hr
    refine AB.rw <| zm rfl <| zw (v := (.eptr [.agg (bO.map (eI .u8))] 0 0)) (aBu rfl (apR (E := (eI .u8)) dL (fun _ => rfl) zl h_2)) <| zw (v := (.agg (bO.map (eI .u8)))) (aI rfl (aG1 (E := (eI .u8)) (l := bO) dL rfl (qH h_2))) <| wC rfl (Vm.Fn.pure (oX N bO x16 h_3) zR zR) <| zh (v := (.ptr 3 0)) (cK (B := some ⟨125, (List.replicate 4 0).map (eI .u64)⟩) aT rfl rfl) ?_
    refine zt (aU rfl rfl (eQ (E := (eI .u64)) (l := List.replicate 4 0) aT rfl rfl (fun _ => rfl) rfl (aP h_4) rfl)) ?_
    refine zn <| AB.seq <| AB.seq ?_
    obtain ⟨x18, h_5, hr⟩ := aN hr
    refine AB.rw <| zw (v := (.agg (x16.map (eI .u64)))) (aI rfl (b6 (E := (eI .u64)) (l := x16) aT rfl rfl (aP h_4))) <| wC rfl (Vm.Fn.pure (aBW N x16 x18 h_5) zR rfl) <| zw (f9 rfl (dU _ _)) <| zn ?_
    refine zk hr rfl (fun h6 hr => ?_) (fun h6 hr => ?_)
    · refine zq <| zi <| zn <| AB.ret <| Ex.then_ret_mk ?_
      obtain rfl := sj hr
      exact bW Tryd.results68 [0, 1, 2]
    · refine AB.skip <| Ex.then_mk <| AB.seq <| zq <| zm rfl <| eT rfl bG <| hZ rfl rfl <| zn ?_
      refine zk hr rfl (fun h7 hr => ?_) (fun h7 hr => ?_)
      · refine zq <| zi <| zn <| AB.ret <| Ex.then_ret_mk ?_
        obtain rfl := sj hr
        exact bW Tryd.results68 [0, 1, 2]
      · refine AB.skip <| Ex.then_mk <| AB.seq ?_
        obtain ⟨x25, h_8, hr⟩ := aN hr
        refine AB.rw <| zm rfl <| wC rfl (Vm.Fn.pure (aFa N uD x25 h_8) rfl rfl) <| zm rfl <| iW rfl rfl <| iW rfl rfl <| zh (v := (.ptr 4 0)) (cK (B := some ⟨129, (cB (eI .u64) (List.replicate 4 0) (cB (eI .u64) (List.replicate 4 0) []))⟩) nI rfl rfl) ?_
        refine zN (h' := [some ⟨88, (aX (eI .u8) aE [(eI .i64 aF), (eI .i64 aJ), (.sl 1 0 aG.length 1 false), (.sl 2 0 aD.length 2 true), (eI .i64 aW)])⟩, some ⟨42, aG.map (eL 1 (eI .u8))⟩, some ⟨103, aD.flatMap aQ⟩, some ⟨125, x16.map (eI .u64)⟩, some ⟨129, (cB (eI .u64) x25.1 (cB (eI .u64) x25.2.1 []))⟩]) (aU rfl rfl (eR nI rfl rfl rfl zl rfl)) <| za rfl <| zn <| AB.seq ?_
        refine AB.seq_g fun K1 hK1 hG1 => ?_
        have J1 : ∀ (x40 : Bool), iG N aE aF aJ aG aD aW x40 = some r → K1 (aV 41 [(40, (eB x40))]) [some ⟨88, (aX (eI .u8) aE [(eI .i64 aF), (eI .i64 aJ), (.sl 1 0 aG.length 1 false), (.sl 2 0 aD.length 2 true), (eI .i64 aW)])⟩, some ⟨42, aG.map (eL 1 (eI .u8))⟩, some ⟨103, aD.flatMap aQ⟩] := by
          intro x40 hr
          unfold iG at hr
          refine hK1 _ _ ?_
          refine zk hr rfl (fun h9 hr => ?_) (fun h9 hr => ?_)
          · refine zq <| zi <| zn <| AB.ret <| Ex.then_ret_mk ?_
            obtain rfl := sj hr
            exact bW Tryd.results68 [0, 1, 2]
          · refine AB.skip <| Ex.then_mk <| zq <| zi <| zn <| AB.ret ?_
            obtain rfl := sj hr
            exact bW Tryd.results68 [0, 1, 2]
        rcases Bool.eq_false_or_eq_true (x25.2.2 != 0) with h10 | h10
        · replace hr := gE hr h10
          refine AB.rg E1 (fun _ => by show dR fS _ = true; decide +kernel) <| tS (sv (bI rfl)) <| tS (v := (eB (x25.2.2 != 0))) (sv (a9 rfl rfl (aEX ..))) <| tS (sv (bI rfl)) <| tS (uT rfl rfl h10) <| tS (uT rfl rfl h10) <| tS (uT rfl rfl h10) <| tS (uT rfl rfl h10) <| tS (uT rfl rfl h10) <| tS (uT rfl rfl h10) <| tS (uT rfl rfl h10) <| tS (uT rfl rfl h10) <| tS (uT rfl rfl h10) <| tS (v := (eB true)) (sv (c9 rfl h10 rfl)) <| OpsTo.nil <| Ex.then_mk ?_
          exact hG1 _ _ _ _ (zG [0, 1, 2]) (J1 true hr)
        · replace hr := gB hr h10
          obtain ⟨q_1, h_11, hr⟩ := aN hr
          obtain ⟨x38, h_12, hr⟩ := aN hr
          have hc13 : Vm.Fn Tryd.prog 73 [some ⟨88, (aX (eI .u8) aE [(eI .i64 aF), (eI .i64 aJ), (.sl 1 0 aG.length 1 false), (.sl 2 0 aD.length 2 true), (eI .i64 aW)])⟩, some ⟨42, aG.map (eL 1 (eI .u8))⟩, some ⟨103, aD.flatMap aQ⟩, some ⟨125, x16.map (eI .u64)⟩, some ⟨129, (cB (eI .u64) x25.1 (cB (eI .u64) x25.2.1 []))⟩] [(.agg (x16.map (eI .u64))), (.agg (aE.map (eI .u8))), (.agg (cB (eI .u64) x25.1 (cB (eI .u64) x25.2.1 [])))] (eB x38) [some ⟨88, (aX (eI .u8) aE [(eI .i64 aF), (eI .i64 aJ), (.sl 1 0 aG.length 1 false), (.sl 2 0 aD.length 2 true), (eI .i64 aW)])⟩, some ⟨42, aG.map (eL 1 (eI .u8))⟩, some ⟨103, aD.flatMap aQ⟩, some ⟨125, x16.map (eI .u64)⟩, some ⟨129, (cB (eI .u64) x25.1 (cB (eI .u64) x25.2.1 []))⟩] := (Vm.Fn.pure (aEY N x16 aE x25.1 x25.2.1 x38 h_12) zR rfl)
          refine AB.rg (Env.one mixed hc13 fS (fun _ _ => rfl)) (fun _ => by show dR fS _ = true; decide +kernel) <| tS (sv (bI rfl)) <| tS (v := (eB (x25.2.2 != 0))) (sv (a9 rfl rfl (aEX ..))) <| tS (sv (bI rfl)) <| tS (v := (.agg (x16.map (eI .u64)))) (uB rfl rfl h10 (aI rfl (b6 (E := (eI .u64)) (l := x16) aT rfl rfl (aP h_4)))) <| tS (uB rfl rfl h10 (bI rfl)) <| tS (v := (.ptr 0 0)) (uB rfl rfl h10 (c6 rfl)) <| tS (v := (.ptr 0 0)) (uB rfl rfl h10 (eE rfl (aEE ..))) <| tS (v := (.ptr 0 0)) (uB rfl rfl h10 (eE rfl (aK4 ..))) ?_
          refine tS (v := (.agg (aE.map (eI .u8)))) (uB rfl rfl h10 (aI rfl (bZ rfl (aLZ (aP h_11) (bQ (ds := (aX (eI .u8) aE [])) dL rfl zl rfl))))) <| tS (v := (.agg (cB (eI .u64) x25.1 (cB (eI .u64) x25.2.1 [])))) (uB rfl rfl h10 (aI rfl (bZ rfl (bQ (ds := (cB (eI .u64) x25.1 (cB (eI .u64) x25.2.1 []))) nI rfl zl rfl)))) ?_
          refine tS (v := (eB x38)) (h' := [some ⟨88, (aX (eI .u8) aE [(eI .i64 aF), (eI .i64 aJ), (.sl 1 0 aG.length 1 false), (.sl 2 0 aD.length 2 true), (eI .i64 aW)])⟩, some ⟨42, aG.map (eL 1 (eI .u8))⟩, some ⟨103, aD.flatMap aQ⟩, some ⟨125, x16.map (eI .u64)⟩, some ⟨129, (cB (eI .u64) x25.1 (cB (eI .u64) x25.2.1 []))⟩]) (uB rfl rfl h10 (bN rfl Env.one_O)) <| tS (uB rfl rfl h10 (f9 rfl (dU _ _))) <| tS (v := (eB (!x38))) (sv (fV rfl h10 rfl)) <| OpsTo.nil <| Ex.then_mk ?_
          exact hG1 _ _ _ _ (zG [0, 1, 2]) (J1 (!x38) hr)
theorem rZ (N : Nat) (aE : List Int) (aF : Int) (aJ : Int) (aG : List (List Int)) (aD : List aS) (aW : Int) (eH : Int) (vn : Int) (r : Int × (List Int) × Int × Int × (List (List Int)) × (List aS) × Int) (hr : iA N aE aF aJ aG aD aW eH vn = some r) :
    Vm.Fn Tryd.prog 65 [some ⟨88, (aX (eI .u8) aE [(eI .i64 aF), (eI .i64 aJ), (.sl 1 0 aG.length 1 false), (.sl 2 0 aD.length 2 true), (eI .i64 aW)])⟩, some ⟨42, aG.map (eL 1 (eI .u8))⟩, some ⟨103, aD.flatMap aQ⟩] [(.ptr 0 0), (eI .i64 eH), (eI .i64 vn)] (eI .i64 r.1) [some ⟨88, (aX (eI .u8) r.2.1 [(eI .i64 r.2.2.1), (eI .i64 r.2.2.2.1), (.sl 3 0 r.2.2.2.2.1.length 1 false), (.sl 4 0 r.2.2.2.2.2.1.length 2 true), (eI .i64 r.2.2.2.2.2.2)])⟩, none, none, some ⟨42, r.2.2.2.2.1.map (eL 1 (eI .u8))⟩, some ⟨103, r.2.2.2.2.2.1.flatMap aQ⟩] := by
  refine zf Tryd.func65 Tryd.ntmps65 ?_
  unfold iA at hr
  refine zq <| zi <| zn <| AB.seq ?_
  obtain ⟨kX, h_1, hr⟩ := aN hr
  refine AB.rg E0 (fun _ => by show dR (fun _ => false) _ = true; decide +kernel) <| tS (sv (bI rfl)) <| tS (v := (.ptr 0 0)) (sv (c6 rfl)) <| tS (v := (.ptr 0 34)) (sv (eE rfl (fL ..))) <| tS (v := (.sl 1 0 aG.length 1 false)) (sv (aI rfl (bZ rfl (bX b5 rfl rfl)))) <| tS (sv (bI rfl)) <| tS (v := (.ptr 0 0)) (sv (c6 rfl)) <| tS (v := (.ptr 0 34)) (sv (eE rfl (fL ..))) <| tS (v := (.sl 1 0 aG.length 1 false)) (sv (aI rfl (bZ rfl (bX b5 rfl rfl)))) <| tS (v := (eI .i64 (aG.length : Int))) (sv (gQ rfl (pQ b5))) ?_
  refine tS (sv (bI rfl)) <| tS (sv (a9 rfl rfl (fM ..))) <| tS (v := (.sl 1 (Int.toNat (IntKind.i64.wrap ((aG.length : Int) - vn)) * 1) kX.length 1 false)) (sv (eC rfl rfl rfl (aMa (l := aG) rfl b5 bG rfl rfl rfl h_1))) <| tS (sv (bE rfl)) <| OpsTo.nil <| Ex.then_mk <| AB.seq ?_
  obtain ⟨x43, h_2, hr⟩ := aN hr
  refine AB.rg E0 (fun _ => by show dR (fun _ => false) _ = true; decide +kernel) <| tS (sv (bI rfl)) <| tS (v := (.ptr 0 0)) (sv (c6 rfl)) <| tS (v := (.ptr 0 34)) (sv (eE rfl (fL ..))) <| tS (v := (.sl 1 0 aG.length 1 false)) (sv (aI rfl (bZ rfl (bX b5 rfl rfl)))) <| tS (sv (bI rfl)) <| tS (v := (.ptr 0 0)) (sv (c6 rfl)) <| tS (v := (.ptr 0 34)) (sv (eE rfl (fL ..))) <| tS (v := (.sl 1 0 aG.length 1 false)) (sv (aI rfl (bZ rfl (bX b5 rfl rfl)))) <| tS (v := (eI .i64 (aG.length : Int))) (sv (gQ rfl (pQ b5))) ?_
  refine tS (sv (bI rfl)) <| tS (v := (eI .i64 (IntKind.i64.wrap (2 * vn)))) (sv (a9 rfl rfl (aCI ..))) <| tS (sv (a9 rfl rfl (fM ..))) <| tS (sv (bI rfl)) <| tS (v := (.ptr 0 0)) (sv (c6 rfl)) <| tS (v := (.ptr 0 34)) (sv (eE rfl (fL ..))) <| tS (v := (.sl 1 0 aG.length 1 false)) (sv (aI rfl (bZ rfl (bX b5 rfl rfl)))) <| tS (v := (eI .i64 (aG.length : Int))) (sv (gQ rfl (pQ b5))) <| tS (sv (bI rfl)) <| tS (sv (a9 rfl rfl (fM ..))) ?_
  refine tS (v := (.sl 1 (Int.toNat (IntKind.i64.wrap ((aG.length : Int) - (IntKind.i64.wrap (2 * vn)))) * 1) x43.length 1 false)) (sv (eC rfl rfl rfl (aMa (l := aG) rfl b5 bG rfl rfl rfl h_2))) <| tS (sv (bE rfl)) <| OpsTo.nil <| Ex.then_mk <| zq <| zi <| zn ?_
  refine AB.seq_g fun K1 hK1 hG1 => ?_
  have J1 : ∀ (count : Int), kC N aE aF aJ aG aD aW eH vn count = some r → K1 (aV 78 [(0, (.ptr 0 0)), (1, (eI .i64 eH)), (2, (eI .i64 vn)), (9, (eI .i64 count))]) [some ⟨88, (aX (eI .u8) aE [(eI .i64 aF), (eI .i64 aJ), (.sl 1 0 aG.length 1 false), (.sl 2 0 aD.length 2 true), (eI .i64 aW)])⟩, some ⟨42, aG.map (eL 1 (eI .u8))⟩, some ⟨103, aD.flatMap aQ⟩] := by
    intro count hr
    unfold kC at hr
    refine hK1 _ _ <| AB.seq ?_
    obtain ⟨x76, h_3, hr⟩ := aN hr
    obtain ⟨x77, h_4, hr⟩ := aN hr
    refine AB.rw <| zm rfl <| zm rfl <| z4 rfl rfl <| zm rfl <| zm rfl <| zY rfl rfl <| wC (v := (.sl 3 0 x76.length 1 false)) rfl (zB (wE N (decide (eH ≤ count)) x76 h_3) []) ?_
    refine OpsW.ghost (zV [(0, (.ptr 0 0)), (1, (eI .i64 eH)), (2, (eI .i64 vn)), (9, (eI .i64 count)), (70, (.ptr 0 0)), (71, (eI .i64 vn)), (72, (eI .i64 (IntKind.i64.wrap (2 * vn)))), (73, (eI .i64 count)), (74, (eI .i64 eH)), (75, (eB (decide (eH ≤ count)))), (76, (.row none 1 (x76.map (eI .u8))))] [some ⟨88, (aX (eI .u8) aE [(eI .i64 aF), (eI .i64 aJ), (.sl 1 0 aG.length 1 false), (.sl 2 0 aD.length 2 true), (eI .i64 aW)])⟩, some ⟨42, aG.map (eL 1 (eI .u8))⟩, some ⟨103, aD.flatMap aQ⟩, none]) ?_
    refine wC (v := (.tup [])) rfl (zB (jW N aE aF aJ aG aD aW (IntKind.i64.wrap (2 * vn)) x76 x77 h_4) [0, 1, 2]) ?_
    refine zn <| zq <| zi <| zn <| AB.ret ?_
    obtain rfl := sj hr
    exact bW Tryd.results65 [0, 1, 2, 4, 5]
  refine zq <| zm rfl <| zI <| zn ?_
  obtain ⟨cL, hL2, hr⟩ := aN hr
  refine AB.block ?_
  refine AB.loopN (fun m s h => ∃ (count_1 : Int) (x45 : Int), dM N aE aF aJ aG aD aW eH vn kX x43 m count_1 x45 = some cL ∧ Ghost 3 s h (aV 78 [(0, (.ptr 0 0)), (1, (eI .i64 eH)), (2, (eI .i64 vn)), (7, (.sl 1 (Int.toNat (IntKind.i64.wrap ((aG.length : Int) - vn)) * 1) kX.length 1 false)), (8, (.sl 1 (Int.toNat (IntKind.i64.wrap ((aG.length : Int) - (IntKind.i64.wrap (2 * vn)))) * 1) x43.length 1 false)), (9, (eI .i64 count_1)), (44, (eI .i64 vn)), (45, (eI .i64 x45))]) [some ⟨88, (aX (eI .u8) aE [(eI .i64 aF), (eI .i64 aJ), (.sl 1 0 aG.length 1 false), (.sl 2 0 aD.length 2 true), (eI .i64 aW)])⟩, some ⟨42, aG.map (eL 1 (eI .u8))⟩, some ⟨103, aD.flatMap aQ⟩]) (n := N) ⟨0, 0, hL2, (zG [0, 1, 2])⟩ (by rintro s h ⟨_, _, h0, _⟩; simp [dM] at h0) ?_
  rintro m2 s h ⟨count_1, x45, hr2, hg⟩
  refine AB.ghost hg ?_
  clear hg hL2
  rw [dM] at hr2
  refine zq <| eY rfl rfl <| zn <| AB.seq ?_
  refine zk hr2 rfl (fun h5 hr2 => ?_) (fun h5 hr2 => ?_)
  · refine AB.skip <| Ex.then_mk ?_
    refine AB.seq_g fun K3 hK3 hG3 => ?_
    have J3 : ∀ (y7 : Int), iF N aE aF aJ aG aD aW eH vn kX x43 x45 (dM N aE aF aJ aG aD aW eH vn kX x43 m2) y7 = some cL → K3 (aV 78 [(0, (.ptr 0 0)), (1, (eI .i64 eH)), (2, (eI .i64 vn)), (7, (.sl 1 (Int.toNat (IntKind.i64.wrap ((aG.length : Int) - vn)) * 1) kX.length 1 false)), (8, (.sl 1 (Int.toNat (IntKind.i64.wrap ((aG.length : Int) - (IntKind.i64.wrap (2 * vn)))) * 1) x43.length 1 false)), (9, (eI .i64 y7)), (44, (eI .i64 vn)), (45, (eI .i64 x45))]) [some ⟨88, (aX (eI .u8) aE [(eI .i64 aF), (eI .i64 aJ), (.sl 1 0 aG.length 1 false), (.sl 2 0 aD.length 2 true), (eI .i64 aW)])⟩, some ⟨42, aG.map (eL 1 (eI .u8))⟩, some ⟨103, aD.flatMap aQ⟩] := by
      intro y7 hr2
      unfold iF at hr2
      refine hK3 _ _ <| AB.rw <| dG rfl rfl <| zm rfl <| zn ?_
      exact ⟨y7, IntKind.i64.wrap (x45 + 1), hr2, (zG [0, 1, 2])⟩
    refine AB.block <| zq <| zm rfl <| za rfl <| zn <| AB.seq <| AB.seq ?_
    obtain ⟨x51, h_6, hr2⟩ := aN hr2
    obtain ⟨x55, h_7, hr2⟩ := aN hr2
    obtain ⟨x57, h_8, hr2⟩ := aN hr2
    have hc9 : Vm.Fn Tryd.prog 68 [some ⟨88, (aX (eI .u8) aE [(eI .i64 aF), (eI .i64 aJ), (.sl 1 0 aG.length 1 false), (.sl 2 0 aD.length 2 true), (eI .i64 aW)])⟩, some ⟨42, aG.map (eL 1 (eI .u8))⟩, some ⟨103, aD.flatMap aQ⟩] [(.ptr 0 0), (.row none 1 (x51.map (eI .u8))), (.row none 1 (x55.map (eI .u8)))] (eI .i64 x57) [some ⟨88, (aX (eI .u8) aE [(eI .i64 aF), (eI .i64 aJ), (.sl 1 0 aG.length 1 false), (.sl 2 0 aD.length 2 true), (eI .i64 aW)])⟩, some ⟨42, aG.map (eL 1 (eI .u8))⟩, some ⟨103, aD.flatMap aQ⟩] := (zB (aAd N aE aF aJ aG aD aW x51 x55 x57 h_8) [0, 1, 2])
    refine AB.rg (Env.one mixed hc9 noF (fun _ h => by cases h)) (fun _ => by show dR noF _ = true; decide +kernel) <| tS (sv (bI rfl)) <| tS (sv (bI rfl)) <| tS (sv (bI rfl)) <| tS (v := (.ptr 1 (Int.toNat (IntKind.i64.wrap ((aG.length : Int) - vn)) + Int.toNat x45))) (sv (bP rfl rfl (iaY rfl b5 bG rfl h_6))) <| tS (v := (.row none 1 (x51.map (eI .u8)))) (sv (aI rfl (ldY (E := (eL 1 (eI .u8))) (l := aG) (y := x51) bG rfl rfl h_1 h_6))) <| tS (sv (bI rfl)) <| tS (sv (bI rfl)) ?_
    refine tS (v := (.ptr 1 (Int.toNat (IntKind.i64.wrap ((aG.length : Int) - (IntKind.i64.wrap (2 * vn)))) + Int.toNat x45))) (sv (bP rfl rfl (iaY rfl b5 bG rfl h_7))) <| tS (v := (.row none 1 (x55.map (eI .u8)))) (sv (aI rfl (ldY (E := (eL 1 (eI .u8))) (l := aG) (y := x55) bG rfl rfl h_2 h_7))) ?_
    refine tS (v := (eI .i64 x57)) (h' := [some ⟨88, (aX (eI .u8) aE [(eI .i64 aF), (eI .i64 aJ), (.sl 1 0 aG.length 1 false), (.sl 2 0 aD.length 2 true), (eI .i64 aW)])⟩, some ⟨42, aG.map (eL 1 (eI .u8))⟩, some ⟨103, aD.flatMap aQ⟩]) (sv (bN rfl Env.one_O)) <| tS (sv (bE rfl)) <| OpsTo.nil <| Ex.then_mk <| zq <| zm rfl <| rE rfl rfl <| zn ?_
    refine zk hr2 rfl (fun h10 hr2 => ?_) (fun h10 hr2 => ?_)
    · refine zq <| zm rfl <| za rfl <| zn <| AB.ret <| Ex.then_ret_mk <| Ex.inBlock_ret_mk <| Ex.then_ret_mk <| Ex.then_ret_mk <| Ex.inBlock_ret_mk <| Ex.then_ret_mk ?_
      obtain rfl := sj hr2
      obtain rfl := sj hr
      exact bW Tryd.results65 [0, 1, 2, 1, 2]
    · refine AB.skip <| Ex.then_mk <| zq <| zm rfl <| zm rfl <| zw (v := (.ptr 1 (Int.toNat (IntKind.i64.wrap ((aG.length : Int) - (IntKind.i64.wrap (2 * vn)))) + Int.toNat x45))) (bP rfl rfl (iaY rfl b5 bG rfl h_7)) <| zw (v := (.row none 1 (x55.map (eI .u8)))) (aI rfl (ldY (E := (eL 1 (eI .u8))) (l := aG) (y := x55) bG rfl rfl h_2 h_7)) <| eT rfl bG <| sC rfl rfl <| zn ?_
      refine zk hr2 rfl (fun h11 hr2 => ?_) (fun h11 hr2 => ?_)
      · refine AB.rw <| zm rfl <| dG rfl rfl <| za rfl <| OpsW.nil <| Ex.inBlock_mk <| Ex.then_mk ?_
        exact hG3 _ _ _ _ (zG [0, 1, 2]) (J3 (IntKind.i64.wrap (count_1 + 1)) hr2)
      · refine AB.skip <| Ex.inBlock_mk <| Ex.then_mk ?_
        exact hG3 _ _ _ _ (zG [0, 1, 2]) (J3 count_1 hr2)
  · refine AB.exit <| Ex.then_exit_mk <| Ex.then_exit_mk <| Ex.inBlock_same_mk ?_
    obtain rfl := sj hr2
    refine Ex.then_mk ?_
    exact hG1 _ _ _ _ (zG [0, 1, 2]) (J1 count_1 hr)
theorem aDt (N : Nat) (b : List Int) (r : Int × Int) (hr : mG N b = some r) :
    Vm.Fn Tryd.prog 69 [] [(.row none 1 (b.map (eI .u8)))] (.tup [(eI .u32 r.1), (eI .i64 r.2)]) [] := by
  refine zf Tryd.func69 Tryd.ntmps69 ?_
  unfold mG at hr
  refine zq <| zi <| zi <| zn <| AB.seq ?_
  refine AB.seq_g fun K1 hK1 hG1 => ?_
  have J1 : ∀ (kX : Bool), iK N b kX = some r → K1 (aV 40 [(0, (.row none 1 (b.map (eI .u8)))), (23, (eB kX))]) [] := by
    intro kX hr
    unfold iK at hr
    refine hK1 _ _ ?_
    refine zk hr rfl (fun h1 hr => ?_) (fun h1 hr => ?_)
    · refine zq <| zi <| zi <| zn <| AB.ret <| Ex.then_ret_mk ?_
      obtain rfl := sj hr
      exact vO Tryd.results69 []
    · refine AB.skip <| Ex.then_mk <| zq <| zi <| zn ?_
      refine AB.seq_g fun K2 hK2 hG2 => ?_
      have J2 : ∀ (vn : Int), pT N vn = some r → K2 (aV 40 [(4, (eI .u32 vn))]) [] := by
        intro vn hr
        unfold pT at hr
        refine hK2 _ _ <| zq <| zm rfl <| za rfl <| zi <| zn <| AB.ret ?_
        obtain rfl := sj hr
        exact vO Tryd.results69 []
      refine zq <| zm rfl <| eT rfl bG <| zI <| zn ?_
      obtain ⟨j5, hL3, hr⟩ := aN hr
      refine AB.block <| AB.loopN (fun m s h => ∃ (lR : Int) (x26 : Int), jL N b m lR x26 = some j5 ∧ Ghost 0 s h (aV 40 [(4, (eI .u32 lR)), (24, (.row none 1 (b.map (eI .u8)))), (25, (eI .i64 (b.length : Int))), (26, (eI .i64 x26))]) []) (n := N) ⟨0, 0, hL3, (zG [])⟩ (by rintro s h ⟨_, _, h0, _⟩; simp [jL] at h0) ?_
      rintro m3 s h ⟨lR, x26, hr3, hg⟩
      refine AB.ghost hg ?_
      clear hg hL3
      rw [jL] at hr3
      refine zq <| eY rfl rfl <| zn <| AB.seq ?_
      refine zk hr3 rfl (fun h2 hr3 => ?_) (fun h2 hr3 => ?_)
      · refine AB.skip <| Ex.then_mk <| AB.seq <| AB.block <| AB.seq ?_
        obtain ⟨x29, h_3, hr3⟩ := aN hr3
        refine AB.rw <| zm rfl <| zw (bP rfl rfl (kH bG cC h_3)) <| zw (v := (eI .u8 x29)) (aI rfl (jM h_3 (bX cC rfl rfl))) <| za rfl <| za rfl <| zn ?_
        obtain ⟨x36, h_4, hr3⟩ := aN hr3
        refine AB.rw <| zm rfl <| zm rfl <| zw (dA rfl (cE _ ⟨_, cC⟩ cA rfl)) <| zm rfl <| z4 rfl rfl <| zw (a9 rfl rfl (v5 _ _ _ _ h_4)) <| zqO rfl rfl <| za rfl <| OpsW.nil <| Ex.inBlock_mk <| Ex.then_mk <| AB.rw <| dG rfl rfl <| zm rfl <| zn ?_
        exact ⟨bits .or .u32 lR x36, IntKind.i64.wrap (x26 + 1), hr3, (zG [])⟩
      · refine AB.exit <| Ex.then_exit_mk <| Ex.then_exit_mk <| Ex.inBlock_same_mk ?_
        obtain rfl := sj hr3
        refine Ex.then_mk ?_
        exact hG2 _ _ _ _ (zG []) (J2 lR hr)
  rcases Bool.eq_false_or_eq_true (decide (4 < (b.length : Int))) with h5 | h5
  · replace hr := gE hr h5
    refine AB.rw <| zm rfl <| eT rfl bG <| sC rfl rfl <| zm rfl <| zx h5 <| zx h5 <| zx h5 <| zx h5 <| zu <| zu <| zu <| zu <| zu <| zu <| zu <| zx h5 <| zw (v := (eB true)) (c9 rfl h5 rfl) <| zn ?_
    exact hG1 _ _ _ _ (zG []) (J1 true hr)
  · replace hr := gB hr h5
    rcases Bool.eq_false_or_eq_true (decide (0 < (b.length : Int))) with h6 | h6
    · replace hr := gE hr h6
      obtain ⟨x19, h_7, hr⟩ := aN hr
      refine AB.rw <| zm rfl <| eT rfl bG <| sC rfl rfl <| zm rfl <| zg h5 (bI rfl) <| zg (v := (eI .i64 (b.length : Int))) h5 (gQ rfl (zP bG)) <| zg h5 (a9 rfl rfl (mS ..)) <| zg h5 (bI rfl) <| zg h6 (bI rfl) <| zg h6 (bI rfl) <| zg (v := (eI .i64 (b.length : Int))) h6 (gQ rfl (zP bG)) <| zg h6 (a9 rfl rfl (fM ..)) <| zg h6 (bP rfl rfl (kH bG cC h_7)) <| zg (v := (eI .u8 x19)) h6 (aI rfl (jM h_7 (bX cC rfl rfl))) <| zg h6 (a9 rfl rfl (qQ ..)) <| zg (v := (eB (x19 == 0))) h5 (c9 rfl h6 rfl) <| oB rfl h5 rfl <| zn ?_
      exact hG1 _ _ _ _ (zG []) (J1 (x19 == 0) hr)
    · replace hr := gB hr h6
      refine AB.rw <| zm rfl <| eT rfl bG <| sC rfl rfl <| zm rfl <| zg h5 (bI rfl) <| zg (v := (eI .i64 (b.length : Int))) h5 (gQ rfl (zP bG)) <| zg h5 (a9 rfl rfl (mS ..)) <| zg h5 (bI rfl) <| zx h6 <| zx h6 <| zx h6 <| zx h6 <| zx h6 <| zx h6 <| zx h6 <| zg (v := (eB false)) h5 (fV rfl h6 rfl) <| zw (v := (eB false)) (fV rfl h5 rfl) <| zn ?_
      exact hG1 _ _ _ _ (zG []) (J1 false hr)
theorem zX (N : Nat) (gP : List Int) (now : Int) (r : Int) (hr : nR N gP now = some r) :
    Vm.Fn Tryd.prog 66 [] [(.row none 1 (gP.map (eI .u8))), (eI .i64 now)] (eI .i64 r) [] := by
  refine zf Tryd.func66 Tryd.ntmps66 ?_
  unfold nR at hr
  refine zq <| zi <| zn <| AB.seq ?_
  obtain ⟨x9, h_1, hr⟩ := aN hr
  refine AB.rw <| zm rfl <| wC rfl (Vm.Fn.pure (aDt N gP x9 h_1) rfl rfl) <| zm rfl <| iW rfl rfl <| iW rfl rfl <| za rfl <| za rfl <| zn <| AB.seq <| zq <| zm rfl <| rE rfl rfl <| zn ?_
  refine zk hr rfl (fun h2 hr => ?_) (fun h2 hr => ?_)
  · refine zq <| zm rfl <| za rfl <| zn <| AB.ret <| Ex.then_ret_mk ?_
    obtain rfl := sj hr
    exact bW Tryd.results66 []
  · refine AB.skip <| Ex.then_mk <| AB.seq <| zq <| zm rfl <| zw (dA rfl (cE _ ⟨_, cA⟩ uQ rfl)) <| zm rfl <| sC rfl rfl <| zn ?_
    refine zk hr rfl (fun h3 hr => ?_) (fun h3 hr => ?_)
    · refine zq <| zi <| zn <| AB.ret <| Ex.then_ret_mk ?_
      obtain rfl := sj hr
      exact bW Tryd.results66 []
    · refine AB.skip <| Ex.then_mk <| zq <| zi <| zn <| AB.ret ?_
      obtain rfl := sj hr
      exact bW Tryd.results66 []
theorem aAq (N : Nat) (aE : List Int) (aF : Int) (aJ : Int) (aG : List (List Int)) (aD : List aS) (aW : Int) (aR : Int) (bC : List Int) (b4 : Int) (bY : Int) (r : Int × (List Int) × Int × Int × (List (List Int)) × (List aS) × Int) (hr : kK N aE aF aJ aG aD aW aR bC b4 bY = some r) :
    Vm.Fn Tryd.prog 54 [some ⟨88, (aX (eI .u8) aE [(eI .i64 aF), (eI .i64 aJ), (.sl 1 0 aG.length 1 false), (.sl 2 0 aD.length 2 true), (eI .i64 aW)])⟩, some ⟨42, aG.map (eL 1 (eI .u8))⟩, some ⟨103, aD.flatMap aQ⟩] [(.ptr 0 0), (.agg [(eI .i64 aR), (.row none 1 (bC.map (eI .u8))), (eI .i64 b4), (eI .i64 bY)])] (eI .i64 r.1) [some ⟨88, (aX (eI .u8) r.2.1 [(eI .i64 r.2.2.1), (eI .i64 r.2.2.2.1), (.sl 3 0 r.2.2.2.2.1.length 1 false), (.sl 4 0 r.2.2.2.2.2.1.length 2 true), (eI .i64 r.2.2.2.2.2.2)])⟩, none, none, some ⟨42, r.2.2.2.2.1.map (eL 1 (eI .u8))⟩, some ⟨103, r.2.2.2.2.2.1.flatMap aQ⟩] := by
  refine zf Tryd.func54 Tryd.ntmps54 ?_
  unfold kK at hr
  refine zq <| zh (v := (.ptr 3 0)) (b8 rfl rfl rfl rfl) ?_
  refine zi <| zn ?_
  refine AB.seq_g fun K1 hK1 hG1 => ?_
  have J1 : ∀ (c0 : List Int) (qT : Int) (qU : Int) (o4 : Int) (l3 : List (List Int)) (l4 : List aS), dW N c0 qT qU o4 l3 l4 = some r → K1 (aV 150 []) [some ⟨88, (aX (eI .u8) c0 [(eI .i64 qT), (eI .i64 qU), (.sl 3 0 l3.length 1 false), (.sl 4 0 l4.length 2 true), (eI .i64 o4)])⟩, none, none, some ⟨42, l3.map (eL 1 (eI .u8))⟩, some ⟨103, l4.flatMap aQ⟩] := by
    intro c0 qT qU o4 l3 l4 hr
    unfold dW at hr
    refine hK1 _ _ <| zq <| zi <| zn <| AB.ret ?_
    obtain rfl := sj hr
    exact bW Tryd.results54 [0, 1, 2, 3, 4]
  refine zq <| cQ rfl (qI ..) <| dP rfl rfl dN rfl <| zn <| AB.block <| zq <| hZ rfl rfl <| za rfl <| zn ?_
  refine zk hr rfl (fun h1 hr => ?_) (fun h1 hr => ?_)
  · refine AB.seq ?_
    obtain ⟨bO, h_2, hr⟩ := aN hr
    refine AB.rw <| zm rfl <| cQ rfl (aIb ..) <| dP rfl rfl bG rfl <| wC (v := (eI .i64 bO.1)) rfl (zB (oK N aE aF aJ aG aD aW bC bO h_2) [0, 1, 2]) ?_
    refine za rfl <| zn <| AB.ret <| Ex.inBlock_ret_mk <| Ex.then_ret_mk ?_
    obtain rfl := sj hr
    exact bW Tryd.results54 [0, 1, 2, 4, 5]
  · refine zq <| hZ rfl rfl <| za rfl <| zn ?_
    refine zk hr rfl (fun h3 hr => ?_) (fun h3 hr => ?_)
    · refine AB.seq ?_
      obtain ⟨x19, h_4, hr⟩ := aN hr
      obtain ⟨dD, h_5, hr⟩ := aN hr
      refine AB.rw <| zm rfl <| zm rfl <| wC (v := (.row none 1 (x19.map (eI .u8)))) rfl (zB (eM N aE aF aJ aG aD aW x19 h_4) [0, 1, 2]) ?_
      refine wC (v := (eI .i64 dD.1)) rfl (zB (oK N aE aF aJ aG aD aW x19 dD h_5) [0, 1, 2]) ?_
      refine za rfl <| zn <| AB.ret <| Ex.inBlock_ret_mk <| Ex.then_ret_mk ?_
      obtain rfl := sj hr
      exact bW Tryd.results54 [0, 1, 2, 4, 5]
    · refine zq <| hZ rfl rfl <| za rfl <| zn ?_
      refine zk hr rfl (fun h6 hr => ?_) (fun h6 hr => ?_)
      · obtain ⟨fE, h_7, hr⟩ := aN hr
        refine AB.rw <| zm rfl <| wC (v := (.tup [])) rfl (zB (lK N aE aF aJ aG aD aW 1 fE h_7) [0, 1, 2]) ?_
        refine OpsW.nil <| Ex.inBlock_mk <| Ex.then_mk ?_
        exact hG1 _ _ _ _ (zG [0, 1, 2, 4, 5]) (J1 fE.1 fE.2.1 fE.2.2.1 fE.2.2.2.2.2 fE.2.2.2.1 fE.2.2.2.2.1 hr)
      · refine zq <| hZ rfl rfl <| za rfl <| zn ?_
        refine zk hr rfl (fun h8 hr => ?_) (fun h8 hr => ?_)
        · refine zq <| zm rfl <| zw (v := (.ptr 0 0)) (c6 rfl) <| cQ rfl (fL ..) <| dP rfl rfl b5 rfl <| zw (v := (eI .i64 (aG.length : Int))) (gQ rfl (pQ b5)) <| za rfl <| zn ?_
          obtain ⟨x50, h_9, hr⟩ := aN hr
          obtain ⟨x58, h_10, hr⟩ := aN hr
          obtain ⟨x61, h_11, hr⟩ := aN hr
          refine AB.rd (dQ []) (dQ []) mixed <| dO 31 0 rfl rfl <| zp 30 1 rfl (bH (v := (.ptr 0 0)) (c6 rfl)) <| kP 29 2 rfl rfl (fL ..) <| zp 28 3 rfl (bH (v := (.sl 1 0 aG.length 1 false)) (aI rfl (bZ rfl (bX b5 rfl rfl)))) <| dO 27 4 rfl rfl <| zp 26 5 rfl (bH (v := (eI .i64 (IntKind.i64.wrap ((aG.length : Int) - 1)))) (a9 rfl rfl (fM ..))) <| dO 25 6 rfl rfl <| zp 24 7 rfl (bH (v := (.ptr 0 0)) (c6 rfl)) <| kP 23 8 rfl rfl (fL ..) <| zp 22 9 rfl (bH (v := (.sl 1 0 aG.length 1 false)) (aI rfl (bZ rfl (bX b5 rfl rfl)))) ?_
          refine dO 21 10 rfl rfl <| zp 20 11 rfl (bH (v := (eI .i64 (IntKind.i64.wrap ((aG.length : Int) - 2)))) (a9 rfl rfl (fM ..))) <| dO 19 12 rfl rfl <| zp 18 13 rfl (bH (v := (.ptr 0 0)) (c6 rfl)) <| kP 17 14 rfl rfl (fL ..) <| zp 16 15 rfl (bH (v := (.sl 1 0 aG.length 1 false)) (aI rfl (bZ rfl (bX b5 rfl rfl)))) <| dO 15 16 rfl rfl <| zp 14 17 rfl (bH (v := (eI .i64 (IntKind.i64.wrap ((aG.length : Int) - 2)))) (a9 rfl rfl (fM ..))) ?_
          refine zp 13 18 rfl (bH (v := (.ptr 1 (Int.toNat (IntKind.i64.wrap ((aG.length : Int) - 2))))) (bP rfl rfl (iaS rfl b5 bG rfl h_9))) <| zp 12 19 rfl (bH (v := (.row none 1 (x50.map (eI .u8)))) (aI rfl (gG (E := (eL 1 (eI .u8))) (y := x50) bG rfl rfl h_9))) <| dO 11 20 rfl rfl <| zp 10 21 rfl (bH (v := (.ptr 0 0)) (c6 rfl)) <| kP 9 22 rfl rfl (fL ..) <| zp 8 23 rfl (bH (v := (.sl 1 0 aG.length 1 false)) (aI rfl (bZ rfl (bX b5 rfl rfl)))) <| dO 7 24 rfl rfl ?_
          refine zp 6 25 rfl (bH (v := (eI .i64 (IntKind.i64.wrap ((aG.length : Int) - 1)))) (a9 rfl rfl (fM ..))) <| zp 5 26 rfl (bH (v := (.ptr 1 (Int.toNat (IntKind.i64.wrap ((aG.length : Int) - 1))))) (bP rfl rfl (iaS rfl b5 bG rfl h_10))) <| zp 4 27 rfl (bH (v := (.row none 1 (x58.map (eI .u8)))) (aI rfl (gG (E := (eL 1 (eI .u8))) (y := x58) bG rfl rfl h_10))) <| zp 3 28 rfl (bH (v := (.ptr 1 (Int.toNat (IntKind.i64.wrap ((aG.length : Int) - 1))))) (bP rfl rfl (iaS rfl b5 bG rfl h_10))) ?_
          refine zp 2 29 rfl (jV (h' := [some ⟨88, (aX (eI .u8) aE [(eI .i64 aF), (eI .i64 aJ), (.sl 1 0 aG.length 1 false), (.sl 2 0 aD.length 2 true), (eI .i64 aW)])⟩, some ⟨42, (aG.set (Int.toNat (IntKind.i64.wrap ((aG.length : Int) - 1))) x50).map (eL 1 (eI .u8))⟩, some ⟨103, aD.flatMap aQ⟩, some ⟨90, [(eI .i64 aR), (.row none 1 (bC.map (eI .u8))), (eI .i64 b4), (eI .i64 bY)]⟩]) (aU rfl rfl (s6 (E := (eL 1 (eI .u8))) (y := x50) bG rfl rfl h_10 rfl rfl rfl))) ?_
          refine zp 1 30 rfl (bH (v := (.ptr 1 (Int.toNat (IntKind.i64.wrap ((aG.length : Int) - 2))))) (bP rfl rfl (iaS (by simp only [cN, cO]) b5 bG rfl h_11))) ?_
          refine zp 0 31 rfl (jV (h' := [some ⟨88, (aX (eI .u8) aE [(eI .i64 aF), (eI .i64 aJ), (.sl 1 0 aG.length 1 false), (.sl 2 0 aD.length 2 true), (eI .i64 aW)])⟩, some ⟨42, ((aG.set (Int.toNat (IntKind.i64.wrap ((aG.length : Int) - 1))) x50).set (Int.toNat (IntKind.i64.wrap ((aG.length : Int) - 2))) x58).map (eL 1 (eI .u8))⟩, some ⟨103, aD.flatMap aQ⟩, some ⟨90, [(eI .i64 aR), (.row none 1 (bC.map (eI .u8))), (eI .i64 b4), (eI .i64 bY)]⟩]) (aU rfl rfl (s6 (E := (eL 1 (eI .u8))) (y := x58) bG rfl rfl h_11 rfl rfl rfl))) ?_
          refine DrawG.nil (by decide +kernel) <| Ex.inBlock_mk <| Ex.then_mk ?_
          exact hG1 _ _ _ _ (Ghost.rn [0, 1, 2, 1, 2] rfl rfl FLe.nil (HLe.live rfl (r6 (V.les_cons (V.le_refl _ _) (V.les_cons (V.le_refl _ _) (V.les_cons (by first | exact V.le_refl _ _ | (simp only [cN, cO]; exact V.le_refl _ _)) (V.les_cons (V.le_refl _ _) (V.les_cons (V.le_refl _ _) V.les_nil)))))) rfl (HLe.dead (HLe.dead (HLe.live rfl (mC (fun _ => rfl) _) (all_map (fun _ => rfl) _) (HLe.live rfl (t8 (fun _ => rfl) _) (fT (fun _ => rfl) _) HLe.nil))))) rfl) (J1 aE aF aJ aW ((aG.set (Int.toNat (IntKind.i64.wrap ((aG.length : Int) - 1))) x50).set (Int.toNat (IntKind.i64.wrap ((aG.length : Int) - 2))) x58) aD hr)
        · refine zq <| hZ rfl rfl <| za rfl <| zn ?_
          refine zk hr rfl (fun h12 hr => ?_) (fun h12 hr => ?_)
          · obtain ⟨x66, h_13, hr⟩ := aN hr
            obtain ⟨x77, h_15, hr⟩ := aN hr
            obtain ⟨x79, h_16, hr⟩ := aN hr
            obtain ⟨x80, h_18, hr⟩ := aN hr
            obtain ⟨x81, h_20, hr⟩ := aN hr
            refine AB.rd (dQ [63]) (dQ [52, 62]) mixed <| dO 17 0 rfl rfl <| dO 16 1 rfl rfl ?_
            refine DrawG.pick (n := 15) (i := 2) (by decide +kernel) rfl (gC (v := (.row none 1 (x66.map (eI .u8)))) (h' := [some ⟨88, (aX (eI .u8) aE [(eI .i64 aF), (eI .i64 aJ), (.sl 1 0 aG.length 1 false), (.sl 2 0 aD.length 2 true), (eI .i64 aW)])⟩, some ⟨42, aG.map (eL 1 (eI .u8))⟩, some ⟨103, aD.flatMap aQ⟩, some ⟨90, [(eI .i64 aR), (.row none 1 (bC.map (eI .u8))), (eI .i64 b4), (eI .i64 bY)]⟩]) (zB (eM N aE aF aJ aG aD aW x66 h_13) [0, 1, 2]) rfl (fun _ => ⟨[], by simp⟩) (sv (bN rfl d5))) ?_
            refine dO 14 3 rfl rfl <| zp 13 4 rfl (bH (v := (.ptr 0 0)) (c6 rfl)) <| kP 12 5 rfl rfl (fL ..) <| zp 11 6 rfl (bH (v := (.sl 1 0 aG.length 1 false)) (aI rfl (bZ rfl (bX b5 rfl rfl)))) <| dO 10 7 rfl rfl <| zp 9 8 rfl (bH (v := (.ptr 0 0)) (c6 rfl)) <| kP 8 9 rfl rfl (fL ..) <| zp 7 10 rfl (bH (v := (.sl 1 0 aG.length 1 false)) (aI rfl (bZ rfl (bX b5 rfl rfl)))) <| zp 6 11 rfl (bH (v := (eI .i64 (aG.length : Int))) (gQ rfl (pQ b5))) ?_
            refine zp 5 12 rfl (bH (v := (eI .i64 (IntKind.i64.wrap ((aG.length : Int) - 2)))) (a9 rfl rfl (fM ..))) <| zp 4 13 rfl (bH (v := (.ptr 1 (Int.toNat (IntKind.i64.wrap ((aG.length : Int) - 2))))) (bP rfl rfl (iaS rfl b5 bG rfl h_15))) <| zp 3 14 rfl (bH (v := (.row none 1 (x77.map (eI .u8)))) (aI rfl (gG (E := (eL 1 (eI .u8))) (y := x77) bG rfl rfl h_15))) <| DrawG.pick (n := 2) (i := 15) (by decide +kernel) rfl (gU (fun _ => (Vm.Fn.pure (aFc N x66 x77 x79 h_16) rfl rfl)) rfl (sv (bN rfl c5))) ?_
            refine DrawG.pick (n := 1) (i := 16) (by decide +kernel) rfl (gC (v := (.sl 4 0 x80.length 1 false)) (h' := [some ⟨88, (aX (eI .u8) aE [(eI .i64 aF), (eI .i64 aJ), (.sl 1 0 aG.length 1 false), (.sl 2 0 aD.length 2 true), (eI .i64 aW)])⟩, some ⟨42, aG.map (eL 1 (eI .u8))⟩, some ⟨103, aD.flatMap aQ⟩, some ⟨90, [(eI .i64 aR), (.row none 1 (bC.map (eI .u8))), (eI .i64 b4), (eI .i64 bY)]⟩, some ⟨5, x80.map (eI .u8)⟩]) (zB (wE N x79 x80 h_18) []) rfl (fun _ => ⟨_, rfl⟩) (sv (bN rfl d5))) ?_
            refine DrawG.gh (n := 0) (by decide +kernel) (zV [(0, (.ptr 0 0)), (1, (.agg [(eI .i64 aR), (.row none 1 (bC.map (eI .u8))), (eI .i64 b4), (eI .i64 bY)])), (3, (.ptr 3 0)), (4, (eI .i64 0)), (7, (.ptr 3 0)), (8, (eI .i64 aR)), (9, (eB (aR == 1))), (10, (eB (aR == 1))), (15, (eB (aR == 2))), (16, (eB (aR == 2))), (21, (eB (aR == 3))), (22, (eB (aR == 3))), (25, (eB (aR == 4))), (26, (eB (aR == 4))), (62, (eB (aR == 5))), (63, (eB (aR == 5))), (64, (.ptr 0 0)), (65, (.ptr 0 0)), (66, (.row none 1 (x66.map (eI .u8)))), (67, (.ptr 0 0)), (68, (.ptr 0 0)), (69, (.ptr 0 34)), (70, (.sl 1 0 aG.length 1 false)), (71, (.ptr 0 0)), (72, (.ptr 0 0)), (73, (.ptr 0 34)), (74, (.sl 1 0 aG.length 1 false)), (75, (eI .i64 (aG.length : Int))), (76, (eI .i64 (IntKind.i64.wrap ((aG.length : Int) - 2)))), (77, (.ptr 1 (Int.toNat (IntKind.i64.wrap ((aG.length : Int) - 2))))), (78, (.row none 1 (x77.map (eI .u8)))), (79, (eB x79)), (80, (.row none 1 (x80.map (eI .u8))))] [some ⟨88, (aX (eI .u8) aE [(eI .i64 aF), (eI .i64 aJ), (.sl 1 0 aG.length 1 false), (.sl 2 0 aD.length 2 true), (eI .i64 aW)])⟩, some ⟨42, aG.map (eL 1 (eI .u8))⟩, some ⟨103, aD.flatMap aQ⟩, some ⟨90, [(eI .i64 aR), (.row none 1 (bC.map (eI .u8))), (eI .i64 b4), (eI .i64 bY)]⟩, none]) ?_
            refine DrawG.pick (n := 0) (i := 17) (by decide +kernel) rfl (gC (v := (.tup [])) (h' := [some ⟨88, (aX (eI .u8) x81.1 [(eI .i64 x81.2.1), (eI .i64 x81.2.2.1), (.sl 5 0 x81.2.2.2.1.length 1 false), (.sl 6 0 x81.2.2.2.2.1.length 2 true), (eI .i64 x81.2.2.2.2.2)])⟩, none, none, some ⟨90, [(eI .i64 aR), (.row none 1 (bC.map (eI .u8))), (eI .i64 b4), (eI .i64 bY)]⟩, none, some ⟨42, x81.2.2.2.1.map (eL 1 (eI .u8))⟩, some ⟨103, x81.2.2.2.2.1.flatMap aQ⟩]) (zB (jW N aE aF aJ aG aD aW 2 x80 x81 h_20) [0, 1, 2]) rfl (fun h => absurd h (by decide)) (sv (bN rfl d5))) ?_
            refine DrawG.nil (by decide +kernel) <| Ex.inBlock_mk <| Ex.then_mk ?_
            exact hG1 _ _ _ _ (zG [0, 1, 2, 5, 6]) (J1 x81.1 x81.2.1 x81.2.2.1 x81.2.2.2.2.2 x81.2.2.2.1 x81.2.2.2.2.1 hr)
          · refine zq <| hZ rfl rfl <| za rfl <| zn ?_
            refine zk hr rfl (fun h22 hr => ?_) (fun h22 hr => ?_)
            · obtain ⟨x86, h_23, hr⟩ := aN hr
              obtain ⟨x87, h_24, hr⟩ := aN hr
              obtain ⟨x89, h_25, hr⟩ := aN hr
              obtain ⟨x90, h_26, hr⟩ := aN hr
              refine AB.rw <| zm rfl <| zm rfl <| wC (v := (.row none 1 (x86.map (eI .u8)))) rfl (zB (eM N aE aF aJ aG aD aW x86 h_23) [0, 1, 2]) ?_
              refine wC rfl (Vm.Fn.pure (q6 N x86 x87 h_24) rfl rfl) <| zw (f9 rfl (dU _ _)) <| wC (v := (.sl 4 0 x89.length 1 false)) rfl (zB (wE N (!x87) x89 h_25) []) ?_
              refine OpsW.ghost (zV [(0, (.ptr 0 0)), (1, (.agg [(eI .i64 aR), (.row none 1 (bC.map (eI .u8))), (eI .i64 b4), (eI .i64 bY)])), (3, (.ptr 3 0)), (4, (eI .i64 0)), (7, (.ptr 3 0)), (8, (eI .i64 aR)), (9, (eB (aR == 1))), (10, (eB (aR == 1))), (15, (eB (aR == 2))), (16, (eB (aR == 2))), (21, (eB (aR == 3))), (22, (eB (aR == 3))), (25, (eB (aR == 4))), (26, (eB (aR == 4))), (62, (eB (aR == 5))), (63, (eB (aR == 5))), (82, (eB (aR == 6))), (83, (eB (aR == 6))), (84, (.ptr 0 0)), (85, (.ptr 0 0)), (86, (.row none 1 (x86.map (eI .u8)))), (87, (eB x87)), (88, (eB (!x87))), (89, (.row none 1 (x89.map (eI .u8))))] [some ⟨88, (aX (eI .u8) aE [(eI .i64 aF), (eI .i64 aJ), (.sl 1 0 aG.length 1 false), (.sl 2 0 aD.length 2 true), (eI .i64 aW)])⟩, some ⟨42, aG.map (eL 1 (eI .u8))⟩, some ⟨103, aD.flatMap aQ⟩, some ⟨90, [(eI .i64 aR), (.row none 1 (bC.map (eI .u8))), (eI .i64 b4), (eI .i64 bY)]⟩, none]) ?_
              refine wC (v := (.tup [])) rfl (zB (jW N aE aF aJ aG aD aW 1 x89 x90 h_26) [0, 1, 2]) ?_
              refine OpsW.nil <| Ex.inBlock_mk <| Ex.then_mk ?_
              exact hG1 _ _ _ _ (zG [0, 1, 2, 5, 6]) (J1 x90.1 x90.2.1 x90.2.2.1 x90.2.2.2.2.2 x90.2.2.2.1 x90.2.2.2.2.1 hr)
            · refine zq <| hZ rfl rfl <| za rfl <| zn ?_
              refine zk hr rfl (fun h27 hr => ?_) (fun h27 hr => ?_)
              · refine AB.seq <| AB.seq ?_
                obtain ⟨x94, h_28, hr⟩ := aN hr
                obtain ⟨x95, h_29, hr⟩ := aN hr
                refine AB.rw <| zm rfl <| wC (v := (.row none 1 (x94.map (eI .u8)))) rfl (zB (eM N aE aF aJ aG aD aW x94 h_28) [0, 1, 2]) ?_
                refine wC rfl (Vm.Fn.pure (q6 N x94 x95 h_29) rfl rfl) <| zw (f9 rfl (dU _ _)) <| zn ?_
                refine zk hr rfl (fun h30 hr => ?_) (fun h30 hr => ?_)
                · refine zq <| zi <| zn <| AB.ret <| Ex.then_ret_mk <| Ex.inBlock_ret_mk <| Ex.then_ret_mk ?_
                  obtain rfl := sj hr
                  exact bW Tryd.results54 [0, 1, 2, 1, 2]
                · refine AB.skip <| Ex.then_mk ?_
                  obtain ⟨x98, h_31, hr⟩ := aN hr
                  refine AB.rw <| zm rfl <| wC (v := (.tup [])) rfl (zB (lK N aE aF aJ aG aD aW 1 x98 h_31) [0, 1, 2]) ?_
                  refine OpsW.nil <| Ex.inBlock_mk <| Ex.then_mk ?_
                  exact hG1 _ _ _ _ (zG [0, 1, 2, 4, 5]) (J1 x98.1 x98.2.1 x98.2.2.1 x98.2.2.2.2.2 x98.2.2.2.1 x98.2.2.2.2.1 hr)
              · refine zq <| hZ rfl rfl <| za rfl <| zn ?_
                refine zk hr rfl (fun h32 hr => ?_) (fun h32 hr => ?_)
                · refine AB.seq ?_
                  obtain ⟨u4, h_33, hr⟩ := aN hr
                  obtain ⟨aCi, h_34, hr⟩ := aN hr
                  obtain ⟨q, h_35, hr⟩ := aN hr
                  refine AB.rw <| zm rfl <| wC (v := (.row none 1 (u4.map (eI .u8)))) rfl (zB (eM N aE aF aJ aG aD aW u4 h_33) [0, 1, 2]) ?_
                  refine wC rfl (Vm.Fn.pure (yF N u4 aCi h_34) rfl zR) <| zh (v := (.ptr 4 0)) (cK (B := some ⟨36, (List.replicate 32 0).map (eI .u8)⟩) dL rfl rfl) ?_
                  refine zt (aU rfl rfl (eQ (E := (eI .u8)) (l := List.replicate 32 0) dL rfl rfl (fun _ => rfl) rfl (aP h_35) rfl)) ?_
                  refine zn ?_
                  obtain ⟨nO, h_36, hr⟩ := aN hr
                  refine AB.rw <| zm rfl <| zw (v := (.sl 4 0 32 1 false)) (eC rfl rfl rfl (slA (E := (eI .u8)) (l := aCi) dL cC rfl rfl rfl (aP h_35) ⟨zl, zl⟩)) ?_
                  refine OpsW.ghost (Ghost.conv (fr' := [(0, (.ptr 0 0)), (1, (.agg [(eI .i64 aR), (.row none 1 (bC.map (eI .u8))), (eI .i64 b4), (eI .i64 bY)])), (3, (.ptr 3 0)), (4, (eI .i64 0)), (6, (.ptr 4 0)), (7, (.ptr 3 0)), (8, (eI .i64 aR)), (9, (eB (aR == 1))), (10, (eB (aR == 1))), (15, (eB (aR == 2))), (16, (eB (aR == 2))), (21, (eB (aR == 3))), (22, (eB (aR == 3))), (25, (eB (aR == 4))), (26, (eB (aR == 4))), (62, (eB (aR == 5))), (63, (eB (aR == 5))), (82, (eB (aR == 6))), (83, (eB (aR == 6))), (91, (eB (aR == 7))), (92, (eB (aR == 7))), (99, (eB (aR == 8))), (100, (eB (aR == 8))), (101, (.ptr 0 0)), (102, (.row none 1 (u4.map (eI .u8)))), (103, (.agg (aCi.map (eI .u8)))), (104, (.ptr 0 0)), (105, (.row none 1 (aCi.map (eI .u8))))]) (h' := [some ⟨88, (aX (eI .u8) aE [(eI .i64 aF), (eI .i64 aJ), (.sl 1 0 aG.length 1 false), (.sl 2 0 aD.length 2 true), (eI .i64 aW)])⟩, some ⟨42, aG.map (eL 1 (eI .u8))⟩, some ⟨103, aD.flatMap aQ⟩, some ⟨90, [(eI .i64 aR), (.row none 1 (bC.map (eI .u8))), (eI .i64 b4), (eI .i64 bY)]⟩, none]) (FCv.cons rfl (Conv.same (aZ rfl)) (FCv.cons rfl (Conv.same (aZ rfl)) (FCv.cons rfl (Conv.same (aZ rfl)) (FCv.cons rfl (Conv.same (aZ rfl)) (FCv.cons rfl (Conv.same (aZ rfl)) (FCv.cons rfl (Conv.same (aZ rfl)) (FCv.cons rfl (Conv.same (aZ rfl)) (FCv.cons rfl (Conv.same (aZ rfl)) (FCv.cons rfl (Conv.same (aZ rfl)) (FCv.cons rfl (Conv.same (aZ rfl)) (FCv.cons rfl (Conv.same (aZ rfl)) (FCv.cons rfl (Conv.same (aZ rfl)) (FCv.cons rfl (Conv.same (aZ rfl)) (FCv.cons rfl (Conv.same (aZ rfl)) (FCv.cons rfl (Conv.same (aZ rfl)) (FCv.cons rfl (Conv.same (aZ rfl)) (FCv.cons rfl (Conv.same (aZ rfl)) (FCv.cons rfl (Conv.same (aZ rfl)) (FCv.cons rfl (Conv.same (aZ rfl)) (FCv.cons rfl (Conv.same (aZ rfl)) (FCv.cons rfl (Conv.same (aZ rfl)) (FCv.cons rfl (Conv.same (aZ rfl)) (FCv.cons rfl (Conv.same (aZ rfl)) (FCv.cons rfl (Conv.same (aZ rfl)) (FCv.cons rfl (Conv.same (aZ rfl)) (FCv.cons rfl (Conv.same (aZ rfl)) (FCv.cons rfl (Conv.same (aZ rfl)) (FCv.cons rfl (Conv.row (aZ rfl) rfl rfl (m9 (fun _ => rfl)) (by first | rfl | (simp only [List.length_map, cN, cO]; done) | (rw [List.length_map]; exact Eq.symm (aP h_35)))) FCv.nil)))))))))))))))))))))))))))) (HCv.live (Convs.same (aZ rfl)) rfl (HCv.live (Convs.same (aZ rfl)) (all_map (fun _ => rfl) _) (HCv.live (Convs.same (aZ rfl)) (fT (fun _ => rfl) _) (HCv.live (Convs.same (aZ rfl)) rfl (HCv.dead HCv.nil)))))) ?_
                  refine wC (v := (.tup [])) rfl (zB (jW N aE aF aJ aG aD aW 1 aCi nO h_36) [0, 1, 2]) ?_
                  refine OpsW.nil <| Ex.inBlock_mk <| Ex.then_mk ?_
                  exact hG1 _ _ _ _ (zG [0, 1, 2, 5, 6]) (J1 nO.1 nO.2.1 nO.2.2.1 nO.2.2.2.2.2 nO.2.2.2.1 nO.2.2.2.2.1 hr)
                · refine zq <| hZ rfl rfl <| za rfl <| zn ?_
                  refine zk hr rfl (fun h37 hr => ?_) (fun h37 hr => ?_)
                  · refine AB.seq ?_
                    obtain ⟨aCa, h_38, hr⟩ := aN hr
                    obtain ⟨uV, h_39, hr⟩ := aN hr
                    obtain ⟨aAC, h_40, hr⟩ := aN hr
                    refine AB.rw <| zm rfl <| zm rfl <| wC (v := (.row none 1 (aCa.map (eI .u8)))) rfl (zB (eM N aE aF aJ aG aD aW aCa h_38) [0, 1, 2]) ?_
                    refine eT rfl bG <| zw (dA rfl (cE _ ⟨_, dN⟩ cA rfl)) <| wC (v := (.sl 4 0 uV.length 1 false)) rfl (zB (vS N (IntKind.u32.wrap (aCa.length : Int)) uV h_39) []) ?_
                    refine OpsW.ghost (zV [(0, (.ptr 0 0)), (1, (.agg [(eI .i64 aR), (.row none 1 (bC.map (eI .u8))), (eI .i64 b4), (eI .i64 bY)])), (3, (.ptr 3 0)), (4, (eI .i64 0)), (7, (.ptr 3 0)), (8, (eI .i64 aR)), (9, (eB (aR == 1))), (10, (eB (aR == 1))), (15, (eB (aR == 2))), (16, (eB (aR == 2))), (21, (eB (aR == 3))), (22, (eB (aR == 3))), (25, (eB (aR == 4))), (26, (eB (aR == 4))), (62, (eB (aR == 5))), (63, (eB (aR == 5))), (82, (eB (aR == 6))), (83, (eB (aR == 6))), (91, (eB (aR == 7))), (92, (eB (aR == 7))), (99, (eB (aR == 8))), (100, (eB (aR == 8))), (107, (eB (aR == 9))), (108, (eB (aR == 9))), (109, (.ptr 0 0)), (110, (.ptr 0 0)), (111, (.row none 1 (aCa.map (eI .u8)))), (112, (eI .i64 (aCa.length : Int))), (113, (eI .u32 (IntKind.u32.wrap (aCa.length : Int)))), (114, (.row none 1 (uV.map (eI .u8))))] [some ⟨88, (aX (eI .u8) aE [(eI .i64 aF), (eI .i64 aJ), (.sl 1 0 aG.length 1 false), (.sl 2 0 aD.length 2 true), (eI .i64 aW)])⟩, some ⟨42, aG.map (eL 1 (eI .u8))⟩, some ⟨103, aD.flatMap aQ⟩, some ⟨90, [(eI .i64 aR), (.row none 1 (bC.map (eI .u8))), (eI .i64 b4), (eI .i64 bY)]⟩, none]) ?_
                    refine wC (v := (eI .i64 aAC.1)) rfl (zB (oK N aE aF aJ aG aD aW uV aAC h_40) [0, 1, 2]) ?_
                    refine za rfl <| zn <| AB.ret <| Ex.inBlock_ret_mk <| Ex.then_ret_mk ?_
                    obtain rfl := sj hr
                    exact bW Tryd.results54 [0, 1, 2, 5, 6]
                  · refine zq <| hZ rfl rfl <| za rfl <| zn ?_
                    refine zk hr rfl (fun h41 hr => ?_) (fun h41 hr => ?_)
                    · refine AB.seq ?_
                      obtain ⟨aAW, h_42, hr⟩ := aN hr
                      refine AB.rw <| zm rfl <| wC (v := (eI .i64 aAW.1)) rfl (zB (rZ N aE aF aJ aG aD aW 1 1 aAW h_42) [0, 1, 2]) ?_
                      refine za rfl <| zn <| AB.ret <| Ex.inBlock_ret_mk <| Ex.then_ret_mk ?_
                      obtain rfl := sj hr
                      exact bW Tryd.results54 [0, 1, 2, 4, 5]
                    · refine zq <| hZ rfl rfl <| za rfl <| zn ?_
                      refine zk hr rfl (fun h43 hr => ?_) (fun h43 hr => ?_)
                      · refine AB.seq ?_
                        obtain ⟨aAA, h_44, hr⟩ := aN hr
                        refine AB.rw <| zm rfl <| cQ rfl (aET ..) <| dP rfl rfl dN rfl <| cQ rfl (mR ..) <| dP rfl rfl dN rfl <| wC (v := (eI .i64 aAA.1)) rfl (zB (rZ N aE aF aJ aG aD aW b4 bY aAA h_44) [0, 1, 2]) ?_
                        refine za rfl <| zn <| AB.ret <| Ex.inBlock_ret_mk <| Ex.then_ret_mk ?_
                        obtain rfl := sj hr
                        exact bW Tryd.results54 [0, 1, 2, 4, 5]
                      · refine zq <| hZ rfl rfl <| za rfl <| zn ?_
                        refine zk hr rfl (fun h45 hr => ?_) (fun h45 hr => ?_)
                        · refine AB.seq ?_
                          obtain ⟨aHa, h_46, hr⟩ := aN hr
                          obtain ⟨aKB, h_48, hr⟩ := aN hr
                          refine AB.rd (dQ [66]) (dQ [52]) mixed <| dO 8 0 rfl rfl ?_
                          refine DrawG.pick (n := 7) (i := 1) (by decide +kernel) rfl (gC (v := (.row none 1 (aHa.map (eI .u8)))) (h' := [some ⟨88, (aX (eI .u8) aE [(eI .i64 aF), (eI .i64 aJ), (.sl 1 0 aG.length 1 false), (.sl 2 0 aD.length 2 true), (eI .i64 aW)])⟩, some ⟨42, aG.map (eL 1 (eI .u8))⟩, some ⟨103, aD.flatMap aQ⟩, some ⟨90, [(eI .i64 aR), (.row none 1 (bC.map (eI .u8))), (eI .i64 b4), (eI .i64 bY)]⟩]) (zB (eM N aE aF aJ aG aD aW aHa h_46) [0, 1, 2]) rfl (fun _ => ⟨[], by simp⟩) (sv (bN rfl d5))) ?_
                          refine dO 6 2 rfl rfl <| zp 5 3 rfl (bH (v := (.ptr 0 0)) (c6 rfl)) <| kP 4 4 rfl rfl (aEE ..) <| kP 3 5 rfl rfl (aK1 ..) <| zp 2 6 rfl (bH (v := (eI .i64 aF)) (aI rfl (bZ rfl (bX dN rfl rfl)))) <| DrawG.pick (n := 1) (i := 7) (by decide +kernel) rfl (gU (fun _ => (Vm.Fn.pure (zX N aHa aF aKB h_48) rfl rfl)) rfl (sv (bN rfl c5))) <| nL 0 8 rfl rfl <| DrawG.nil (by decide +kernel) <| Ex.then_mk <| AB.ret <| Ex.inBlock_ret_mk <| Ex.then_ret_mk ?_
                          obtain rfl := sj hr
                          exact bW Tryd.results54 [0, 1, 2, 1, 2]
                        · refine zq <| hZ rfl rfl <| za rfl <| zn ?_
                          refine zk hr rfl (fun h50 hr => ?_) (fun h50 hr => ?_)
                          · refine AB.seq ?_
                            obtain ⟨aGv, h_51, hr⟩ := aN hr
                            obtain ⟨aJM, h_53, hr⟩ := aN hr
                            refine AB.rd (dQ [66]) (dQ [52]) mixed <| dO 8 0 rfl rfl ?_
                            refine DrawG.pick (n := 7) (i := 1) (by decide +kernel) rfl (gC (v := (.row none 1 (aGv.map (eI .u8)))) (h' := [some ⟨88, (aX (eI .u8) aE [(eI .i64 aF), (eI .i64 aJ), (.sl 1 0 aG.length 1 false), (.sl 2 0 aD.length 2 true), (eI .i64 aW)])⟩, some ⟨42, aG.map (eL 1 (eI .u8))⟩, some ⟨103, aD.flatMap aQ⟩, some ⟨90, [(eI .i64 aR), (.row none 1 (bC.map (eI .u8))), (eI .i64 b4), (eI .i64 bY)]⟩]) (zB (eM N aE aF aJ aG aD aW aGv h_51) [0, 1, 2]) rfl (fun _ => ⟨[], by simp⟩) (sv (bN rfl d5))) ?_
                            refine dO 6 2 rfl rfl <| zp 5 3 rfl (bH (v := (.ptr 0 0)) (c6 rfl)) <| kP 4 4 rfl rfl (aEE ..) <| kP 3 5 rfl rfl (aLb ..) <| zp 2 6 rfl (bH (v := (eI .i64 aJ)) (aI rfl (bZ rfl (bX dN rfl rfl)))) <| DrawG.pick (n := 1) (i := 7) (by decide +kernel) rfl (gU (fun _ => (Vm.Fn.pure (zX N aGv aJ aJM h_53) rfl rfl)) rfl (sv (bN rfl c5))) <| nL 0 8 rfl rfl <| DrawG.nil (by decide +kernel) <| Ex.then_mk <| AB.ret <| Ex.inBlock_ret_mk <| Ex.then_ret_mk ?_
                            obtain rfl := sj hr
                            exact bW Tryd.results54 [0, 1, 2, 1, 2]
                          · refine zq <| hZ rfl rfl <| za rfl <| zn ?_
                            refine zk hr rfl (fun h55 hr => ?_) (fun h55 hr => ?_)
                            · refine zq <| zi <| zn <| AB.ret <| Ex.inBlock_ret_mk <| Ex.then_ret_mk ?_
                              obtain rfl := sj hr
                              exact bW Tryd.results54 [0, 1, 2, 1, 2]
                            · refine AB.skip <| Ex.inBlock_mk <| Ex.then_mk ?_
                              exact hG1 _ _ _ _ (zG [0, 1, 2, 1, 2]) (J1 aE aF aJ aW aG aD hr)
theorem aAP (N : Nat) (aE : List Int) (aF : Int) (aJ : Int) (aG : List (List Int)) (aD : List aS) (aW : Int) (aR : Int) (bC : List Int) (b4 : Int) (bY : Int) (r : Int × (List Int) × Int × Int × (List (List Int)) × (List aS) × Int) (hr : g7 N aE aF aJ aG aD aW aR bC b4 bY = some r) :
    Vm.Fn Tryd.prog 41 [some ⟨88, (aX (eI .u8) aE [(eI .i64 aF), (eI .i64 aJ), (.sl 1 0 aG.length 1 false), (.sl 2 0 aD.length 2 true), (eI .i64 aW)])⟩, some ⟨42, aG.map (eL 1 (eI .u8))⟩, some ⟨103, aD.flatMap aQ⟩] [(.ptr 0 0), (.agg [(eI .i64 aR), (.row none 1 (bC.map (eI .u8))), (eI .i64 b4), (eI .i64 bY)])] (eI .i64 r.1) [some ⟨88, (aX (eI .u8) r.2.1 [(eI .i64 r.2.2.1), (eI .i64 r.2.2.2.1), (.sl 3 0 r.2.2.2.2.1.length 1 false), (.sl 4 0 r.2.2.2.2.2.1.length 2 true), (eI .i64 r.2.2.2.2.2.2)])⟩, none, none, some ⟨42, r.2.2.2.2.1.map (eL 1 (eI .u8))⟩, some ⟨103, r.2.2.2.2.2.1.flatMap aQ⟩] := by
  refine zf Tryd.func41 Tryd.ntmps41 ?_
  unfold g7 at hr
  refine zq <| zh (v := (.ptr 3 0)) (b8 rfl rfl rfl rfl) ?_
  refine zi <| zn <| AB.seq ?_
  obtain ⟨x8, h_1, hr⟩ := aN hr
  refine AB.rw <| zm rfl <| wC (v := (eB x8)) rfl (zB (z8 N aE aF aJ aG aD aW x8 h_1) [0, 1, 2]) ?_
  refine za rfl <| zn ?_
  refine AB.seq_g fun K1 hK1 hG1 => ?_
  have J1 : ∀ (counted : Bool), gT N aE aF aJ aG aD aW aR bC b4 bY counted = some r → K1 (aV 116 [(0, (.ptr 0 0)), (3, (.ptr 3 0)), (5, (eB counted))]) [some ⟨88, (aX (eI .u8) aE [(eI .i64 aF), (eI .i64 aJ), (.sl 1 0 aG.length 1 false), (.sl 2 0 aD.length 2 true), (eI .i64 aW)])⟩, some ⟨42, aG.map (eL 1 (eI .u8))⟩, some ⟨103, aD.flatMap aQ⟩, some ⟨90, [(eI .i64 aR), (.row none 1 (bC.map (eI .u8))), (eI .i64 b4), (eI .i64 bY)]⟩] := by
    intro counted hr
    unfold gT at hr
    refine hK1 _ _ ?_
    refine AB.seq_g fun K2 hK2 hG2 => ?_
    have J2 : ∀ (c0 : Int), gV N aE aF aJ aG aD aR bC b4 bY counted c0 = some r → K2 (aV 116 [(0, (.ptr 0 0)), (3, (.ptr 3 0)), (5, (eB counted))]) [some ⟨88, (aX (eI .u8) aE [(eI .i64 aF), (eI .i64 aJ), (.sl 1 0 aG.length 1 false), (.sl 2 0 aD.length 2 true), (eI .i64 c0)])⟩, some ⟨42, aG.map (eL 1 (eI .u8))⟩, some ⟨103, aD.flatMap aQ⟩, some ⟨90, [(eI .i64 aR), (.row none 1 (bC.map (eI .u8))), (eI .i64 b4), (eI .i64 bY)]⟩] := by
      intro c0 hr
      unfold gV at hr
      refine hK2 _ _ <| zq <| zm rfl <| zw (v := (.ptr 0 0)) (c6 rfl) <| cQ rfl (mB ..) <| dP rfl rfl kV rfl <| zw (v := (eI .i64 (aD.length : Int))) (gQ rfl (pQ kV)) <| vP rfl rfl <| za rfl <| zn ?_
      refine AB.seq_g fun K3 hK3 hG3 => ?_
      have J3 : ∀ (qT : List Int) (qU : Int) (o4 : Int) (t7 : Int) (l3 : List (List Int)) (l4 : List aS), fJ N qT qU o4 t7 l3 l4 = some r → K3 (aV 116 []) [some ⟨88, (aX (eI .u8) qT [(eI .i64 qU), (eI .i64 o4), (.sl 3 0 l3.length 1 false), (.sl 4 0 l4.length 2 true), (eI .i64 t7)])⟩, none, none, some ⟨42, l3.map (eL 1 (eI .u8))⟩, some ⟨103, l4.flatMap aQ⟩] := by
        intro qT qU o4 t7 l3 l4 hr
        unfold fJ at hr
        refine hK3 _ _ <| zq <| zi <| zn <| AB.ret ?_
        obtain rfl := sj hr
        exact bW Tryd.results41 [0, 1, 2, 3, 4]
      refine zq <| cQ rfl (qI ..) <| dP rfl rfl dN rfl <| zn <| AB.block <| zq <| hZ rfl rfl <| za rfl <| zn ?_
      refine zk hr rfl (fun h2 hr => ?_) (fun h2 hr => ?_)
      · refine AB.seq_g fun K4 hK4 hG4 => ?_
        have J4 : ∀ (i3 : List aS), jC N aE aF aJ aG counted c0 i3 = some r → K4 (aV 116 [(0, (.ptr 0 0)), (5, (eB counted))]) [some ⟨88, (aX (eI .u8) aE [(eI .i64 aF), (eI .i64 aJ), (.sl 1 0 aG.length 1 false), (.sl 3 0 i3.length 2 true), (eI .i64 c0)])⟩, some ⟨42, aG.map (eL 1 (eI .u8))⟩, none, some ⟨103, i3.flatMap aQ⟩] := by
          intro i3 hr
          unfold jC at hr
          refine hK4 _ _ <| zq <| zm rfl <| zn ?_
          refine zk hr rfl (fun h3 hr => ?_) (fun h3 hr => ?_)
          · obtain ⟨x86, h_4, hr⟩ := aN hr
            refine AB.rw <| zm rfl <| wC (v := (.tup [])) rfl (zB (lK N aE aF aJ aG i3 c0 1 x86 h_4) [0, 1, 3]) ?_
            refine OpsW.nil <| Ex.inBlock_mk <| Ex.then_mk ?_
            exact hG3 _ _ _ _ (zG [0, 1, 2, 4, 5]) (J3 x86.1 x86.2.1 x86.2.2.1 x86.2.2.2.2.2 x86.2.2.2.1 x86.2.2.2.2.1 hr)
          · refine AB.skip <| Ex.inBlock_mk <| Ex.then_mk ?_
            exact hG3 _ _ _ _ (zG [0, 1, 2, 1, 3]) (J3 aE aF aJ c0 aG i3 hr)
        rcases Bool.eq_false_or_eq_true counted with h5 | h5
        · replace hr := gE hr h5
          obtain ⟨x76, h_6, hr⟩ := aN hr
          obtain ⟨x77, h_8, hr⟩ := aN hr
          obtain ⟨x81, h_10, hr⟩ := aN hr
          refine AB.rd (dQ [28]) (dQ [52]) mixed <| dO 17 0 rfl rfl <| dO 16 1 rfl rfl <| zp 15 2 rfl (bH (v := (.ptr 0 0)) (c6 rfl)) <| kP 14 3 rfl rfl (mB ..) <| zp 13 4 rfl (bH (v := (.sl 2 0 aD.length 2 true)) (aI rfl (bZ rfl (bX kV rfl rfl)))) <| dO 12 5 rfl rfl <| dO 11 6 rfl rfl <| dO 10 7 rfl rfl <| zp 9 8 rfl (gS (v := (.ptr 0 0)) (uB rfl rfl h5 (bI rfl))) ?_
          refine DrawG.pick (n := 8) (i := 9) (by decide +kernel) rfl (gC (v := (.row none 1 (x76.map (eI .u8)))) (h' := [some ⟨88, (aX (eI .u8) aE [(eI .i64 aF), (eI .i64 aJ), (.sl 1 0 aG.length 1 false), (.sl 2 0 aD.length 2 true), (eI .i64 c0)])⟩, some ⟨42, aG.map (eL 1 (eI .u8))⟩, some ⟨103, aD.flatMap aQ⟩, some ⟨90, [(eI .i64 aR), (.row none 1 (bC.map (eI .u8))), (eI .i64 b4), (eI .i64 bY)]⟩]) (zB (eM N aE aF aJ aG aD c0 x76 h_6) [0, 1, 2]) rfl (fun _ => ⟨[], by simp⟩) (uB rfl rfl h5 (bN rfl d5))) ?_
          refine DrawG.pick (n := 7) (i := 10) (by decide +kernel) rfl (gU (fun _ => (Vm.Fn.pure (q6 N x76 x77 h_8) rfl rfl)) rfl (uB rfl rfl h5 (bN rfl c5))) <| zp 6 11 rfl (bH (v := (eB x77)) (c9 rfl h5 rfl)) <| zp 5 12 rfl (bH (v := (.agg [(eB counted), (eB x77)])) (cI rfl (lL oR aKN rfl))) ?_
          refine zp 4 13 rfl (bH (v := (.sl 4 0 1 2 true)) (h' := [some ⟨88, (aX (eI .u8) aE [(eI .i64 aF), (eI .i64 aJ), (.sl 1 0 aG.length 1 false), (.sl 2 0 aD.length 2 true), (eI .i64 c0)])⟩, some ⟨42, aG.map (eL 1 (eI .u8))⟩, some ⟨103, aD.flatMap aQ⟩, some ⟨90, [(eI .i64 aR), (.row none 1 (bC.map (eI .u8))), (eI .i64 b4), (eI .i64 bY)]⟩, some ⟨103, [(aS.mk counted x77)].flatMap aQ⟩]) (e9 rfl (aBo (C := aQ) (xs := [(aS.mk counted x77)]) (K := 2) (fun _ => rfl) (fun _ => rfl) kV oR ⟨zl, zl, zl⟩ rfl rfl rfl rfl rfl rfl))) ?_
          refine zp 3 14 rfl (bH (v := (.sl 5 0 x81.length 2 true)) (h' := [some ⟨88, (aX (eI .u8) aE [(eI .i64 aF), (eI .i64 aJ), (.sl 1 0 aG.length 1 false), (.sl 2 0 aD.length 2 true), (eI .i64 c0)])⟩, some ⟨42, aG.map (eL 1 (eI .u8))⟩, none, some ⟨90, [(eI .i64 aR), (.row none 1 (bC.map (eI .u8))), (eI .i64 b4), (eI .i64 bY)]⟩, some ⟨103, [(aS.mk counted x77)].flatMap aQ⟩, some ⟨103, x81.flatMap aQ⟩]) (dZ rfl rfl (aI5 (C := aQ) (K := 2) (fun _ => rfl) rfl kV oR ⟨rfl, rfl, zl, zl⟩ rfl (aIv (C := aQ) (fun _ => rfl) rfl rfl) h_10 rfl rfl))) ?_
          refine zp 2 15 rfl (bH (v := (.ptr 0 0)) (c6 rfl)) <| kP 1 16 rfl rfl (mB ..) <| zp 0 17 rfl (jV (h' := [some ⟨88, (aX (eI .u8) aE [(eI .i64 aF), (eI .i64 aJ), (.sl 1 0 aG.length 1 false), (.sl 5 0 x81.length 2 true), (eI .i64 c0)])⟩, some ⟨42, aG.map (eL 1 (eI .u8))⟩, none, some ⟨90, [(eI .i64 aR), (.row none 1 (bC.map (eI .u8))), (eI .i64 b4), (eI .i64 bY)]⟩, some ⟨103, [(aS.mk counted x77)].flatMap aQ⟩, some ⟨103, x81.flatMap aQ⟩]) (aU rfl rfl (eR kV rfl rfl rfl zl rfl))) ?_
          refine DrawG.nil (by decide +kernel) <| Ex.then_mk ?_
          exact hG4 _ _ _ _ (zG [0, 1, 2, 5]) (J4 x81 hr)
        · replace hr := gB hr h5
          obtain ⟨aBM, h_11, hr⟩ := aN hr
          refine AB.rd (dQ [28]) (dQ [52]) mixed <| dO 17 0 rfl rfl <| dO 16 1 rfl rfl <| zp 15 2 rfl (bH (v := (.ptr 0 0)) (c6 rfl)) <| kP 14 3 rfl rfl (mB ..) <| zp 13 4 rfl (bH (v := (.sl 2 0 aD.length 2 true)) (aI rfl (bZ rfl (bX kV rfl rfl)))) <| dO 12 5 rfl rfl <| dO 11 6 rfl rfl <| dO 10 7 rfl rfl <| zp 9 8 rfl (gS (uT rfl rfl h5)) <| zp 8 9 rfl (gS (uT rfl rfl h5)) <| zp 7 10 rfl (gS (uT rfl rfl h5)) <| zp 6 11 rfl (bH (v := (eB false)) (fV rfl h5 rfl)) <| zp 5 12 rfl (bH (v := (.agg [(eB counted), (eB false)])) (cI rfl (lL oR aKN rfl))) ?_
          refine zp 4 13 rfl (bH (v := (.sl 4 0 1 2 true)) (h' := [some ⟨88, (aX (eI .u8) aE [(eI .i64 aF), (eI .i64 aJ), (.sl 1 0 aG.length 1 false), (.sl 2 0 aD.length 2 true), (eI .i64 c0)])⟩, some ⟨42, aG.map (eL 1 (eI .u8))⟩, some ⟨103, aD.flatMap aQ⟩, some ⟨90, [(eI .i64 aR), (.row none 1 (bC.map (eI .u8))), (eI .i64 b4), (eI .i64 bY)]⟩, some ⟨103, [(aS.mk counted false)].flatMap aQ⟩]) (e9 rfl (aBo (C := aQ) (xs := [(aS.mk counted false)]) (K := 2) (fun _ => rfl) (fun _ => rfl) kV oR ⟨zl, zl, zl⟩ rfl rfl rfl rfl rfl rfl))) ?_
          refine zp 3 14 rfl (bH (v := (.sl 5 0 aBM.length 2 true)) (h' := [some ⟨88, (aX (eI .u8) aE [(eI .i64 aF), (eI .i64 aJ), (.sl 1 0 aG.length 1 false), (.sl 2 0 aD.length 2 true), (eI .i64 c0)])⟩, some ⟨42, aG.map (eL 1 (eI .u8))⟩, none, some ⟨90, [(eI .i64 aR), (.row none 1 (bC.map (eI .u8))), (eI .i64 b4), (eI .i64 bY)]⟩, some ⟨103, [(aS.mk counted false)].flatMap aQ⟩, some ⟨103, aBM.flatMap aQ⟩]) (dZ rfl rfl (aI5 (C := aQ) (K := 2) (fun _ => rfl) rfl kV oR ⟨rfl, rfl, zl, zl⟩ rfl (aIv (C := aQ) (fun _ => rfl) rfl rfl) h_11 rfl rfl))) ?_
          refine zp 2 15 rfl (bH (v := (.ptr 0 0)) (c6 rfl)) <| kP 1 16 rfl rfl (mB ..) <| zp 0 17 rfl (jV (h' := [some ⟨88, (aX (eI .u8) aE [(eI .i64 aF), (eI .i64 aJ), (.sl 1 0 aG.length 1 false), (.sl 5 0 aBM.length 2 true), (eI .i64 c0)])⟩, some ⟨42, aG.map (eL 1 (eI .u8))⟩, none, some ⟨90, [(eI .i64 aR), (.row none 1 (bC.map (eI .u8))), (eI .i64 b4), (eI .i64 bY)]⟩, some ⟨103, [(aS.mk counted false)].flatMap aQ⟩, some ⟨103, aBM.flatMap aQ⟩]) (aU rfl rfl (eR kV rfl rfl rfl zl rfl))) ?_
          refine DrawG.nil (by decide +kernel) <| Ex.then_mk ?_
          exact hG4 _ _ _ _ (zG [0, 1, 2, 5]) (J4 aBM hr)
      · refine zq <| hZ rfl rfl <| za rfl <| zn ?_
        refine zk hr rfl (fun h12 hr => ?_) (fun h12 hr => ?_)
        · obtain ⟨x99, h_13, hr⟩ := aN hr
          refine AB.rg E0 (fun _ => by show dR (fun _ => false) _ = true; decide +kernel) <| tS (sv (bI rfl)) <| tS (v := (.ptr 0 0)) (sv (c6 rfl)) <| tS (v := (.ptr 0 35)) (sv (eE rfl (mB ..))) <| tS (v := (.sl 2 0 aD.length 2 true)) (sv (aI rfl (bZ rfl (bX kV rfl rfl)))) <| tS (sv (bI rfl)) <| tS (sv (bI rfl)) <| tS (v := (.ptr 0 0)) (sv (c6 rfl)) <| tS (v := (.ptr 0 35)) (sv (eE rfl (mB ..))) <| tS (v := (.sl 2 0 aD.length 2 true)) (sv (aI rfl (bZ rfl (bX kV rfl rfl)))) <| tS (sv (bI rfl)) ?_
          refine tS (v := (.ptr 2 (0 + Int.toNat (IntKind.i64.wrap ((aD.length : Int) - 1)) * 2))) (sv (bP rfl rfl (aE1 (K := 2) rfl kV oR rfl h_13))) <| tS (v := (.ptr 2 (0 + Int.toNat (IntKind.i64.wrap ((aD.length : Int) - 1)) * 2 + 1))) (sv (eE rfl (aDD ..))) <| tS (v := (eB x99.taken)) (sv (aI rfl (aJT (C := aQ) (K := 2) (off := 1) (fun _ => rfl) rfl h_13 zl (bX ti4 rfl rfl)))) <| tS (sv (f9 rfl (dU _ _))) ?_
          refine tS (v := (.ptr 2 (0 + Int.toNat (IntKind.i64.wrap ((aD.length : Int) - 1)) * 2))) (sv (bP rfl rfl (aE1 (K := 2) rfl kV oR rfl h_13))) <| tS (v := (.ptr 2 (0 + Int.toNat (IntKind.i64.wrap ((aD.length : Int) - 1)) * 2 + 1))) (sv (eE rfl (aDD ..))) ?_
          refine tN (h' := [some ⟨88, (aX (eI .u8) aE [(eI .i64 aF), (eI .i64 aJ), (.sl 1 0 aG.length 1 false), (.sl 2 0 aD.length 2 true), (eI .i64 c0)])⟩, some ⟨42, aG.map (eL 1 (eI .u8))⟩, some ⟨103, (aD.set (Int.toNat (IntKind.i64.wrap ((aD.length : Int) - 1))) (aS.mk x99.outer (!x99.taken))).flatMap aQ⟩, some ⟨90, [(eI .i64 aR), (.row none 1 (bC.map (eI .u8))), (eI .i64 b4), (eI .i64 bY)]⟩]) (sv (aU rfl rfl (aLP (C := aQ) (K := 2) (off := 1) (fun _ => rfl) ti4 rfl h_13 rfl rfl zl rfl rfl))) ?_
          refine OpsTo.nil <| Ex.inBlock_mk <| Ex.then_mk ?_
          exact hG3 _ _ _ _ (Ghost.rn [0, 1, 2, 1, 2] rfl rfl FLe.nil (HLe.live rfl (r6 (V.les_cons (V.le_refl _ _) (V.les_cons (V.le_refl _ _) (V.les_cons (V.le_refl _ _) (V.les_cons (by first | exact V.le_refl _ _ | (simp only [cN, cO]; exact V.le_refl _ _)) (V.les_cons (V.le_refl _ _) V.les_nil)))))) rfl (HLe.dead (HLe.dead (HLe.live rfl (mC (fun _ => rfl) _) (all_map (fun _ => rfl) _) (HLe.live rfl (t8 (fun _ => rfl) _) (fT (fun _ => rfl) _) HLe.nil))))) rfl) (J3 aE aF aJ c0 aG (aD.set (Int.toNat (IntKind.i64.wrap ((aD.length : Int) - 1))) (aS.mk x99.outer (!x99.taken))) hr)
        · refine zq <| hZ rfl rfl <| za rfl <| zn ?_
          refine zk hr rfl (fun h14 hr => ?_) (fun h14 hr => ?_)
          · obtain ⟨aDH, h_15, hr⟩ := aN hr
            refine AB.rw <| zm rfl <| zm rfl <| zw (v := (.ptr 0 0)) (c6 rfl) <| cQ rfl (mB ..) <| dP rfl rfl kV rfl <| zm rfl <| zw (v := (.sl 2 0 aDH.length 2 true)) (eC rfl rfl rfl (aI3 (l := aD) rfl kV oR rfl rfl rfl h_15)) ?_
            refine OpsW.ghost (Ghost.cutF (t := 113) (C := aQ) (l := aD) (K := 2) (h' := [some ⟨88, (aX (eI .u8) aE [(eI .i64 aF), (eI .i64 aJ), (.sl 1 0 aG.length 1 false), (.sl 2 0 aD.length 2 true), (eI .i64 c0)])⟩, some ⟨42, aG.map (eL 1 (eI .u8))⟩, some ⟨103, aDH.flatMap aQ⟩, some ⟨90, [(eI .i64 aR), (.row none 1 (bC.map (eI .u8))), (eI .i64 b4), (eI .i64 bY)]⟩]) (fun _ => rfl) rfl rfl h_15 rfl) <| zw (v := (.ptr 0 0)) (c6 rfl) <| cQ rfl (mB ..) ?_
            refine zN (h' := [some ⟨88, (aX (eI .u8) aE [(eI .i64 aF), (eI .i64 aJ), (.sl 1 0 aG.length 1 false), (.sl 2 0 aDH.length 2 true), (eI .i64 c0)])⟩, some ⟨42, aG.map (eL 1 (eI .u8))⟩, some ⟨103, aDH.flatMap aQ⟩, some ⟨90, [(eI .i64 aR), (.row none 1 (bC.map (eI .u8))), (eI .i64 b4), (eI .i64 bY)]⟩]) (aU rfl rfl (eR kV rfl rfl rfl zl rfl)) <| OpsW.nil <| Ex.inBlock_mk <| Ex.then_mk ?_
            exact hG3 _ _ _ _ (zG [0, 1, 2, 1, 2]) (J3 aE aF aJ c0 aG aDH hr)
          · refine zq <| zm rfl <| zn ?_
            refine zk hr rfl (fun h16 hr => ?_) (fun h16 hr => ?_)
            · refine AB.seq ?_
              obtain ⟨x64, h_17, hr⟩ := aN hr
              refine AB.rw <| zm rfl <| zw (v := (.agg [(eI .i64 aR), (.row none 1 (bC.map (eI .u8))), (eI .i64 b4), (eI .i64 bY)])) (aI rfl (bZ rfl (bQ (ds := [(eI .i64 aR), (.row none 1 (bC.map (eI .u8))), (eI .i64 b4), (eI .i64 bY)]) gF rfl zl rfl))) <| wC (v := (eI .i64 x64.1)) rfl (zB (aAq N aE aF aJ aG aD c0 aR bC b4 bY x64 h_17) [0, 1, 2]) ?_
              refine za rfl <| zn <| AB.ret <| Ex.inBlock_ret_mk <| Ex.then_ret_mk ?_
              obtain rfl := sj hr
              exact bW Tryd.results41 [0, 1, 2, 4, 5]
            · refine AB.skip <| Ex.inBlock_mk <| Ex.then_mk ?_
              exact hG3 _ _ _ _ (zG [0, 1, 2, 1, 2]) (J3 aE aF aJ c0 aG aD hr)
    refine zq <| zm rfl <| zn ?_
    refine zk hr rfl (fun h18 hr => ?_) (fun h18 hr => ?_)
    · refine AB.seq ?_
      obtain ⟨x36, h_19, hr⟩ := aN hr
      have hc20 : Vm.Fn Tryd.prog 50 [some ⟨88, (aX (eI .u8) aE [(eI .i64 aF), (eI .i64 aJ), (.sl 1 0 aG.length 1 false), (.sl 2 0 aD.length 2 true), (eI .i64 aW)])⟩, some ⟨42, aG.map (eL 1 (eI .u8))⟩, some ⟨103, aD.flatMap aQ⟩, some ⟨90, [(eI .i64 aR), (.row none 1 (bC.map (eI .u8))), (eI .i64 b4), (eI .i64 bY)]⟩] [(.agg [(eI .i64 aR), (.row none 1 (bC.map (eI .u8))), (eI .i64 b4), (eI .i64 bY)])] (eI .i64 x36) [some ⟨88, (aX (eI .u8) aE [(eI .i64 aF), (eI .i64 aJ), (.sl 1 0 aG.length 1 false), (.sl 2 0 aD.length 2 true), (eI .i64 aW)])⟩, some ⟨42, aG.map (eL 1 (eI .u8))⟩, some ⟨103, aD.flatMap aQ⟩, some ⟨90, [(eI .i64 aR), (.row none 1 (bC.map (eI .u8))), (eI .i64 b4), (eI .i64 bY)]⟩] := (Vm.Fn.pure (aDT N aR bC b4 bY x36 h_19) rfl rfl)
      refine AB.rg (Env.one mixed hc20 fS (fun _ _ => rfl)) (fun _ => by show dR fS _ = true; decide +kernel) <| tS (sv (bI rfl)) <| tS (v := (.ptr 0 0)) (sv (c6 rfl)) <| tS (v := (.ptr 0 36)) (sv (eE rfl (aCQ ..))) <| tS (v := (eI .i64 aW)) (sv (aI rfl (bZ rfl (bX dN rfl rfl)))) <| tS (v := (.agg [(eI .i64 aR), (.row none 1 (bC.map (eI .u8))), (eI .i64 b4), (eI .i64 bY)])) (sv (aI rfl (bZ rfl (bQ (ds := [(eI .i64 aR), (.row none 1 (bC.map (eI .u8))), (eI .i64 b4), (eI .i64 bY)]) gF rfl zl rfl)))) ?_
      refine tS (v := (eI .i64 x36)) (h' := [some ⟨88, (aX (eI .u8) aE [(eI .i64 aF), (eI .i64 aJ), (.sl 1 0 aG.length 1 false), (.sl 2 0 aD.length 2 true), (eI .i64 aW)])⟩, some ⟨42, aG.map (eL 1 (eI .u8))⟩, some ⟨103, aD.flatMap aQ⟩, some ⟨90, [(eI .i64 aR), (.row none 1 (bC.map (eI .u8))), (eI .i64 b4), (eI .i64 bY)]⟩]) (sv (bN rfl Env.one_O)) <| tS (sv (a9 rfl rfl (qJ ..))) <| tS (v := (.ptr 0 0)) (sv (c6 rfl)) <| tS (v := (.ptr 0 36)) (sv (eE rfl (aCQ ..))) ?_
      refine tN (h' := [some ⟨88, (aX (eI .u8) aE [(eI .i64 aF), (eI .i64 aJ), (.sl 1 0 aG.length 1 false), (.sl 2 0 aD.length 2 true), (eI .i64 (IntKind.i64.wrap (aW + x36)))])⟩, some ⟨42, aG.map (eL 1 (eI .u8))⟩, some ⟨103, aD.flatMap aQ⟩, some ⟨90, [(eI .i64 aR), (.row none 1 (bC.map (eI .u8))), (eI .i64 b4), (eI .i64 bY)]⟩]) (sv (aU rfl rfl (eR dN rfl rfl rfl zl rfl))) <| OpsTo.nil <| Ex.then_mk <| AB.seq <| zq <| zm rfl <| zw (v := (.ptr 0 0)) (c6 rfl) <| cQ rfl (aCQ ..) <| dP rfl rfl dN rfl ?_
      refine sC rfl rfl <| zn ?_
      refine zk hr rfl (fun h21 hr => ?_) (fun h21 hr => ?_)
      · refine zq <| zi <| zn <| AB.ret <| Ex.then_ret_mk <| Ex.then_ret_mk ?_
        obtain rfl := sj hr
        exact bW Tryd.results41 [0, 1, 2, 1, 2]
      · refine AB.skip <| Ex.then_mk <| AB.seq ?_
        obtain ⟨x51, h_22, hr⟩ := aN hr
        have hc23 : Vm.Fn Tryd.prog 51 [some ⟨88, (aX (eI .u8) aE [(eI .i64 aF), (eI .i64 aJ), (.sl 1 0 aG.length 1 false), (.sl 2 0 aD.length 2 true), (eI .i64 (IntKind.i64.wrap (aW + x36)))])⟩, some ⟨42, aG.map (eL 1 (eI .u8))⟩, some ⟨103, aD.flatMap aQ⟩, some ⟨90, [(eI .i64 aR), (.row none 1 (bC.map (eI .u8))), (eI .i64 b4), (eI .i64 bY)]⟩] [(.agg [(eI .i64 aR), (.row none 1 (bC.map (eI .u8))), (eI .i64 b4), (eI .i64 bY)])] (eI .i64 x51) [some ⟨88, (aX (eI .u8) aE [(eI .i64 aF), (eI .i64 aJ), (.sl 1 0 aG.length 1 false), (.sl 2 0 aD.length 2 true), (eI .i64 (IntKind.i64.wrap (aW + x36)))])⟩, some ⟨42, aG.map (eL 1 (eI .u8))⟩, some ⟨103, aD.flatMap aQ⟩, some ⟨90, [(eI .i64 aR), (.row none 1 (bC.map (eI .u8))), (eI .i64 b4), (eI .i64 bY)]⟩] := (Vm.Fn.pure (aEb N aR bC b4 bY x51 h_22) rfl rfl)
        refine AB.rg (Env.one mixed hc23 fS (fun _ _ => rfl)) (fun _ => by show dR fS _ = true; decide +kernel) <| tS (sv (bI rfl)) <| tS (v := (.ptr 0 0)) (sv (c6 rfl)) <| tS (v := (.ptr 0 34)) (sv (eE rfl (fL ..))) <| tS (v := (.sl 1 0 aG.length 1 false)) (sv (aI rfl (bZ rfl (bX b5 rfl rfl)))) <| tS (v := (eI .i64 (aG.length : Int))) (sv (gQ rfl (pQ b5))) ?_
        refine tS (v := (.agg [(eI .i64 aR), (.row none 1 (bC.map (eI .u8))), (eI .i64 b4), (eI .i64 bY)])) (sv (aI rfl (bZ rfl (bQ (ds := [(eI .i64 aR), (.row none 1 (bC.map (eI .u8))), (eI .i64 b4), (eI .i64 bY)]) gF rfl zl rfl)))) ?_
        refine tS (v := (eI .i64 x51)) (h' := [some ⟨88, (aX (eI .u8) aE [(eI .i64 aF), (eI .i64 aJ), (.sl 1 0 aG.length 1 false), (.sl 2 0 aD.length 2 true), (eI .i64 (IntKind.i64.wrap (aW + x36)))])⟩, some ⟨42, aG.map (eL 1 (eI .u8))⟩, some ⟨103, aD.flatMap aQ⟩, some ⟨90, [(eI .i64 aR), (.row none 1 (bC.map (eI .u8))), (eI .i64 b4), (eI .i64 bY)]⟩]) (sv (bN rfl Env.one_O)) <| tS (sv (a9 rfl rfl (sO ..))) <| OpsTo.nil <| Ex.then_mk ?_
        refine zk hr rfl (fun h24 hr => ?_) (fun h24 hr => ?_)
        · refine zq <| zi <| zn <| AB.ret <| Ex.then_ret_mk ?_
          obtain rfl := sj hr
          exact bW Tryd.results41 [0, 1, 2, 1, 2]
        · refine AB.skip <| Ex.then_mk ?_
          exact hG2 _ _ _ _ (zG [0, 1, 2, 3]) (J2 (IntKind.i64.wrap (aW + x36)) hr)
    · refine AB.skip <| Ex.then_mk ?_
      exact hG2 _ _ _ _ (zG [0, 1, 2, 3]) (J2 aW hr)
  refine AB.seq_g fun K5 hK5 hG5 => ?_
  have J5 : ∀ (x16 : Bool), gR N aE aF aJ aG aD aW aR bC b4 bY x8 x16 = some r → K5 (aV 116 [(0, (.ptr 0 0)), (3, (.ptr 3 0)), (5, (eB x8)), (16, (eB x16))]) [some ⟨88, (aX (eI .u8) aE [(eI .i64 aF), (eI .i64 aJ), (.sl 1 0 aG.length 1 false), (.sl 2 0 aD.length 2 true), (eI .i64 aW)])⟩, some ⟨42, aG.map (eL 1 (eI .u8))⟩, some ⟨103, aD.flatMap aQ⟩, some ⟨90, [(eI .i64 aR), (.row none 1 (bC.map (eI .u8))), (eI .i64 b4), (eI .i64 bY)]⟩] := by
    intro x16 hr
    unfold gR at hr
    refine hK5 _ _ ?_
    refine zk hr rfl (fun h25 hr => ?_) (fun h25 hr => ?_)
    · obtain ⟨x27, h_26, hr⟩ := aN hr
      refine AB.rg E0 (fun _ => by show dR (fun _ => false) _ = true; decide +kernel) <| tS (sv (bI rfl)) <| tS (v := (.ptr 0 0)) (sv (c6 rfl)) <| tS (v := (.ptr 0 35)) (sv (eE rfl (mB ..))) <| tS (v := (.sl 2 0 aD.length 2 true)) (sv (aI rfl (bZ rfl (bX kV rfl rfl)))) <| tS (sv (bI rfl)) <| tS (v := (.ptr 0 0)) (sv (c6 rfl)) <| tS (v := (.ptr 0 35)) (sv (eE rfl (mB ..))) <| tS (v := (.sl 2 0 aD.length 2 true)) (sv (aI rfl (bZ rfl (bX kV rfl rfl)))) <| tS (v := (eI .i64 (aD.length : Int))) (sv (gQ rfl (pQ kV))) ?_
      refine tS (v := (eI .i64 (IntKind.i64.wrap ((aD.length : Int) - 1)))) (sv (a9 rfl rfl (fM ..))) <| tS (v := (.ptr 2 (0 + Int.toNat (IntKind.i64.wrap ((aD.length : Int) - 1)) * 2))) (sv (bP rfl rfl (aE1 (K := 2) rfl kV oR rfl h_26))) <| tS (v := (.ptr 2 (0 + Int.toNat (IntKind.i64.wrap ((aD.length : Int) - 1)) * 2 + 0))) (sv (eE rfl (aDc ..))) <| tS (v := (eB x27.outer)) (sv (aI rfl (aJT (C := aQ) (K := 2) (off := 0) (fun _ => rfl) rfl h_26 zl (bX ti4 rfl rfl)))) <| tS (sv (bE rfl)) <| OpsTo.nil <| Ex.then_mk ?_
      exact hG1 _ _ _ _ (zG [0, 1, 2, 3]) (J1 x27.outer hr)
    · refine AB.skip <| Ex.then_mk ?_
      exact hG1 _ _ _ _ (zG [0, 1, 2, 3]) (J1 x8 hr)
  rcases Bool.eq_false_or_eq_true (aR == 15) with h27 | h27
  · replace hr := gE hr h27
    refine AB.rw <| cQ rfl (qI ..) <| dP rfl rfl dN rfl <| hZ rfl rfl <| zm rfl <| zx h27 <| zx h27 <| zx h27 <| zw (v := (eB true)) (c9 rfl h27 rfl) <| zn ?_
    exact hG5 _ _ _ _ (zG [0, 1, 2, 3]) (J5 true hr)
  · replace hr := gB hr h27
    refine AB.rw <| cQ rfl (qI ..) <| dP rfl rfl dN rfl <| hZ rfl rfl <| zm rfl <| zg (v := (.ptr 3 0)) h27 (eE rfl (qI ..)) <| zg (v := (eI .i64 aR)) h27 (aI rfl (bZ rfl (bX dN rfl rfl))) <| zg h27 (a9 rfl rfl (qQ ..)) <| oB rfl h27 rfl <| zn ?_
    exact hG5 _ _ _ _ (zG [0, 1, 2, 3]) (J5 (aR == 16) hr)
theorem aGa (N : Nat) (b : List Int) (stack : List (List Int)) (cF : List Int) (cV : Int) (fK : Int) (r : (List (List Int)) × Int × Int) (hr : uL N b stack cF cV fK = some r) :
    Vm.Fn Tryd.prog 27 [] [(.row none 1 (b.map (eI .u8))), (.row none 1 (stack.map (eL 1 (eI .u8)))), (.agg (aX (eI .u8) cF [(eI .i64 cV), (eI .i64 fK)]))] (.tup [(.sl 0 0 r.1.length 1 false), (eI .i64 r.2.1), (eI .i64 r.2.2)]) [some ⟨42, r.1.map (eL 1 (eI .u8))⟩] := by
  refine zf Tryd.func27 Tryd.ntmps27 ?_
  unfold uL at hr
  refine zq <| zh (v := (.ptr 0 0)) (b8 rfl rfl rfl rfl) ?_
  refine zw (v := (.row (some true) 1 [])) (bE rfl) <| zi <| zi <| zn <| AB.seq ?_
  obtain ⟨x17, h_1, hr⟩ := aN hr
  refine AB.rw <| zm rfl <| wC (v := (.tup [(.sl 1 0 x17.1.length 4 true), (eI .i64 x17.2)])) rfl (zB (aDZ N b x17 h_1) []) ?_
  refine zm rfl <| iW rfl rfl <| iW rfl rfl <| za rfl <| za rfl <| zn <| AB.seq <| zq <| zm rfl <| rE rfl rfl <| zn ?_
  refine zk hr rfl (fun h2 hr => ?_) (fun h2 hr => ?_)
  · refine zq <| zm rfl <| zw (v := (.row (some true) 1 [])) (bE rfl) <| zi <| za rfl <| zn <| AB.ret <| Ex.then_ret_mk ?_
    obtain rfl := sj hr
    exact bU (r1 := (.tup [(.row (some true) 1 []), (eI .i64 0), (eI .i64 x17.2)])) (j5 Tryd.results27 (iS rfl) (iS rfl) (iS rfl)) (Ghost.trans (Ghost.virt (fr' := [(0, (.tup [(.sl 2 0 0 1 false), (eI .i64 0), (eI .i64 x17.2)]))]) (h1 := [some ⟨58, (aX (eI .u8) cF [(eI .i64 cV), (eI .i64 fK)])⟩, some ⟨90, x17.1.flatMap cR⟩]) 42 (FLe.le rfl (V.le_tup (V.les_cons (V.le_virt rfl) (V.les_cons (V.le_refl _ _) (V.les_cons (V.le_refl _ _) V.les_nil)))) FLe.nil) (HLv.live (V.les_refl _ _) rfl (HLv.live (V.les_refl _ _) (fT (fun _ => rfl) _) HLv.nil))) (Ghost.rn [2] rfl rfl (FLe.le rfl (V.le_tup (V.les_cons (by first | exact V.le_refl _ _ | (simp only [cN, cO]; exact V.le_refl _ _)) (V.les_cons (V.le_refl _ _) (V.les_cons (V.le_refl _ _) V.les_nil)))) FLe.nil) (HLe.live rfl V.les_nil rfl HLe.nil) rfl))
  · refine AB.skip <| Ex.then_mk <| AB.seq <| AB.seq ?_
    obtain ⟨fE, h_3, hr⟩ := aN hr
    refine AB.rw <| zm rfl <| wC (v := (eB fE)) (h' := [some ⟨58, (aX (eI .u8) cF [(eI .i64 cV), (eI .i64 fK)])⟩, some ⟨90, x17.1.flatMap cR⟩]) rfl (Vm.Fn.lendR (aC8 N x17.1 fE h_3) [] [1] (by decide) rfl (by decide) Lend.nil (Brw.row (aDE (C := cR) (fun _ => rfl) zl rfl rfl (fun _ => rfl)) Brw.nil) rfl rfB.nil rfl zH) <| zw (f9 rfl (dU _ _)) <| zn ?_
    refine zk hr rfl (fun h4 hr => ?_) (fun h4 hr => ?_)
    · refine zq <| zw (v := (.row (some true) 1 [])) (bE rfl) <| zi <| zi <| zn <| AB.ret <| Ex.then_ret_mk ?_
      obtain rfl := sj hr
      exact bU (r1 := (.tup [(.row (some true) 1 []), (eI .i64 0), (eI .i64 86)])) (j5 Tryd.results27 (iS rfl) (iS rfl) (iS rfl)) (Ghost.trans (Ghost.virt (fr' := [(0, (.tup [(.sl 2 0 0 1 false), (eI .i64 0), (eI .i64 86)]))]) (h1 := [some ⟨58, (aX (eI .u8) cF [(eI .i64 cV), (eI .i64 fK)])⟩, some ⟨90, x17.1.flatMap cR⟩]) 42 (FLe.le rfl (V.le_tup (V.les_cons (V.le_virt rfl) (V.les_cons (V.le_refl _ _) (V.les_cons (V.le_refl _ _) V.les_nil)))) FLe.nil) (HLv.live (V.les_refl _ _) rfl (HLv.live (V.les_refl _ _) (fT (fun _ => rfl) _) HLv.nil))) (Ghost.rn [2] rfl rfl (FLe.le rfl (V.le_tup (V.les_cons (by first | exact V.le_refl _ _ | (simp only [cN, cO]; exact V.le_refl _ _)) (V.les_cons (V.le_refl _ _) (V.les_cons (V.le_refl _ _) V.les_nil)))) FLe.nil) (HLe.live rfl V.les_nil rfl HLe.nil) rfl))
    · refine AB.skip <| Ex.then_mk <| AB.seq <| AB.seq ?_
      obtain ⟨x27, h_5, hr⟩ := aN hr
      refine AB.rw <| zm rfl <| wC rfl (Vm.Fn.pure (aCT N stack x27 h_5) rfl rfl) <| zw (f9 rfl (dU _ _)) <| zn ?_
      refine zk hr rfl (fun h6 hr => ?_) (fun h6 hr => ?_)
      · refine zq <| zw (v := (.row (some true) 1 [])) (bE rfl) <| zi <| zi <| zn <| AB.ret <| Ex.then_ret_mk ?_
        obtain rfl := sj hr
        exact bU (r1 := (.tup [(.row (some true) 1 []), (eI .i64 0), (eI .i64 4)])) (j5 Tryd.results27 (iS rfl) (iS rfl) (iS rfl)) (Ghost.trans (Ghost.virt (fr' := [(0, (.tup [(.sl 2 0 0 1 false), (eI .i64 0), (eI .i64 4)]))]) (h1 := [some ⟨58, (aX (eI .u8) cF [(eI .i64 cV), (eI .i64 fK)])⟩, some ⟨90, x17.1.flatMap cR⟩]) 42 (FLe.le rfl (V.le_tup (V.les_cons (V.le_virt rfl) (V.les_cons (V.le_refl _ _) (V.les_cons (V.le_refl _ _) V.les_nil)))) FLe.nil) (HLv.live (V.les_refl _ _) rfl (HLv.live (V.les_refl _ _) (fT (fun _ => rfl) _) HLv.nil))) (Ghost.rn [2] rfl rfl (FLe.le rfl (V.le_tup (V.les_cons (by first | exact V.le_refl _ _ | (simp only [cN, cO]; exact V.le_refl _ _)) (V.les_cons (V.le_refl _ _) (V.les_cons (V.le_refl _ _) V.les_nil)))) FLe.nil) (HLe.live rfl V.les_nil rfl HLe.nil) rfl))
      · refine AB.skip <| Ex.then_mk ?_
        refine AB.seq_g fun K1 hK1 hG1 => ?_
        have J1 : ∀ (l2 : List (List Int)), tU N cF cV fK x17 l2 = some r → K1 (aV 50 [(9, (.sl 0 0 x17.1.length 4 true)), (11, (.ptr 1 0))]) [some ⟨90, x17.1.flatMap cR⟩, some ⟨88, (aX (eI .u8) cF [(eI .i64 cV), (eI .i64 fK), (.sl 2 0 l2.length 1 false), (.row (some true) 1 []), (eI .i64 0)])⟩, some ⟨42, l2.map (eL 1 (eI .u8))⟩] := by
          intro l2 hr
          unfold tU at hr
          refine hK1 _ _ ?_
          refine AB.seq_g fun K2 hK2 hG2 => ?_
          have J2 : ∀ (c0 : List Int) (qT : Int) (qU : Int) (o4 : Int) (l1 : List (List Int)) (nC : List aS), tT N c0 qT qU o4 l1 nC = some r → K2 (aV 50 [(11, (.ptr 0 0))]) [some ⟨88, (aX (eI .u8) c0 [(eI .i64 qT), (eI .i64 qU), (.sl 1 0 l1.length 1 false), (.sl 2 0 nC.length 2 true), (eI .i64 o4)])⟩, some ⟨42, l1.map (eL 1 (eI .u8))⟩, some ⟨103, nC.flatMap aQ⟩] := by
            intro c0 qT qU o4 l1 nC hr
            unfold tT at hr
            refine hK2 _ _ <| AB.seq ?_
            refine AB.ghost (Ghost.conv (fr' := [(11, (.ptr 0 0))]) (h' := [some ⟨88, (aX (eI .u8) c0 [(eI .i64 qT), (eI .i64 qU), (.row none 1 (l1.map (eL 1 (eI .u8)))), (.sl 2 0 nC.length 2 true), (eI .i64 o4)])⟩, none, some ⟨103, nC.flatMap aQ⟩]) (FCv.cons rfl (Conv.same (aZ rfl)) FCv.nil) (HCv.live (aKH (fun _ => Conv.same (aZ rfl)) (Convs.cons (Conv.same (aZ rfl)) (Convs.cons (Conv.same (aZ rfl)) (Convs.cons (Conv.row (aZ rfl) rfl rfl (m9 (fun _ => rfl)) (by first | rfl | (simp only [List.length_map, cN, cO]; done))) (Convs.cons (Conv.same (aZ rfl)) (Convs.cons (Conv.same (aZ rfl)) Convs.nil)))))) rfl (HCv.dead (HCv.live (Convs.same (aZ rfl)) (fT (fun _ => rfl) _) HCv.nil)))) ?_
            obtain ⟨x47, h_7, hr⟩ := aN hr
            refine AB.rd (dQ []) (dQ [40]) mixed <| kP 7 0 rfl rfl (fL ..) <| zp 6 1 rfl (bH (v := (.row none 1 (l1.map (eL 1 (eI .u8))))) (aI rfl (bZ rfl (bX b5 rfl rfl)))) ?_
            refine DrawG.pick (n := 5) (i := 2) (by decide +kernel) rfl (gC (v := (.sl 3 0 x47.length 1 false)) (h' := [some ⟨88, (aX (eI .u8) c0 [(eI .i64 qT), (eI .i64 qU), (.row none 1 (l1.map (eL 1 (eI .u8)))), (.sl 2 0 nC.length 2 true), (eI .i64 o4)])⟩, none, some ⟨103, nC.flatMap aQ⟩, some ⟨42, x47.map (eL 1 (eI .u8))⟩]) (zB (tZ N l1 x47 h_7) []) rfl (fun _ => ⟨_, rfl⟩) (sv (bN rfl d5))) <| kP 4 3 rfl rfl (aCQ ..) <| zp 3 4 rfl (bH (v := (eI .i64 o4)) (aI rfl (bZ rfl (bX dN rfl rfl)))) <| nL 2 5 rfl rfl <| nL 1 6 rfl rfl ?_
            refine zp 0 7 rfl (bH (v := (eI .i64 0)) (bE rfl)) <| DrawG.nil (by decide +kernel) <| Ex.then_mk <| AB.ret ?_
            obtain rfl := sj hr
            exact zd3 Tryd.results27 [3]
          refine zq <| zm rfl <| zw (v := (eI .i64 (x17.1.length : Int))) (gQ rfl (pQ aFk)) <| zI <| zn ?_
          obtain ⟨j5, hL3, hr⟩ := aN hr
          refine AB.block ?_
          refine AB.loopN (fun m s h => ∃ (x35 : Int) (t7 : List Int) (c0_5 : Int) (c0_6 : Int) (c0_7 : Int) (eZ : List (List Int)) (l3 : List aS), kS N x17 m x35 t7 c0_5 c0_6 c0_7 eZ l3 = some j5 ∧ Ghost 0 s h (aV 50 [(11, (.ptr 0 0)), (33, (.sl 1 0 x17.1.length 4 true)), (34, (eI .i64 (x17.1.length : Int))), (35, (eI .i64 x35))]) [some ⟨88, (aX (eI .u8) t7 [(eI .i64 c0_5), (eI .i64 c0_6), (.sl 2 0 eZ.length 1 false), (.sl 3 0 l3.length 2 true), (eI .i64 c0_7)])⟩, some ⟨90, x17.1.flatMap cR⟩, some ⟨42, eZ.map (eL 1 (eI .u8))⟩, some ⟨103, l3.flatMap aQ⟩]) (n := N) ⟨0, cF, cV, fK, 0, l2, [], hL3, (Ghost.trans (Ghost.virt (fr' := [(11, (.ptr 1 0)), (33, (.sl 0 0 x17.1.length 4 true)), (34, (eI .i64 (x17.1.length : Int))), (35, (eI .i64 0))]) (h1 := [some ⟨90, x17.1.flatMap cR⟩, some ⟨88, (aX (eI .u8) cF [(eI .i64 cV), (eI .i64 fK), (.sl 2 0 l2.length 1 false), (.sl 3 0 0 2 true), (eI .i64 0)])⟩, some ⟨42, l2.map (eL 1 (eI .u8))⟩]) 103 (FLe.same rfl (FLe.same rfl (FLe.same rfl (FLe.same rfl FLe.nil)))) (HLv.live (V.les_refl _ _) (fT (fun _ => rfl) _) (HLv.live (r6 (V.les_cons (V.le_refl _ _) (V.les_cons (V.le_refl _ _) (V.les_cons (V.le_refl _ _) (V.les_cons (V.le_virt rfl) (V.les_cons (V.le_refl _ _) V.les_nil)))))) rfl (HLv.live (V.les_refl _ _) (all_map (fun _ => rfl) _) HLv.nil)))) (Ghost.rn [1, 0, 2, 3] rfl rfl (FLe.same rfl (FLe.same rfl (FLe.same rfl (FLe.same rfl FLe.nil)))) (HLe.live rfl (r6 (V.les_cons (V.le_refl _ _) (V.les_cons (V.le_refl _ _) (V.les_cons (V.le_refl _ _) (V.les_cons (by first | exact V.le_refl _ _ | (simp only [cN, cO]; exact V.le_refl _ _)) (V.les_cons (V.le_refl _ _) V.les_nil)))))) rfl (HLe.live rfl (t8 (fun _ => rfl) _) (fT (fun _ => rfl) _) (HLe.live rfl (mC (fun _ => rfl) _) (all_map (fun _ => rfl) _) (HLe.live rfl V.les_nil rfl HLe.nil)))) rfl))⟩ (by rintro s h ⟨_, _, _, _, _, _, _, h0, _⟩; simp [kS] at h0) ?_
          rintro m3 s h ⟨x35, t7, c0_5, c0_6, c0_7, eZ, l3, hr3, hg⟩
          refine AB.ghost hg ?_
          clear hg hL3
          rw [kS] at hr3
          refine zq <| eY rfl rfl <| zn <| AB.seq ?_
          refine zk hr3 rfl (fun h9 hr3 => ?_) (fun h9 hr3 => ?_)
          · refine AB.skip <| Ex.then_mk <| AB.seq <| AB.block <| AB.seq ?_
            obtain ⟨x37, h_10, hr3⟩ := aN hr3
            refine AB.rw <| zw (v := (.ptr 1 (0 + Int.toNat x35 * 4))) (bP rfl rfl (aE1 (K := 4) rfl aFk gF rfl h_10)) <| zw (v := (.agg [(eI .i64 x37.Code), (.row none 1 (x37.Data.map (eI .u8))), (eI .i64 x37.M), (eI .i64 x37.N)])) (aI rfl (aKU (C := cR) (K := 4) (fun _ => rfl) rfl h_10 (bQ (ds := [(eI .i64 x37.Code), (.row none 1 (x37.Data.map (eI .u8))), (eI .i64 x37.M), (eI .i64 x37.N)]) gF rfl zl rfl))) <| zh (v := (.ptr 4 0)) (cK (B := some ⟨90, [(eI .i64 0), (.row (some true) 1 []), (eI .i64 0), (eI .i64 0)]⟩) gF rfl rfl) ?_
            refine zN (h' := [some ⟨88, (aX (eI .u8) t7 [(eI .i64 c0_5), (eI .i64 c0_6), (.sl 2 0 eZ.length 1 false), (.sl 3 0 l3.length 2 true), (eI .i64 c0_7)])⟩, some ⟨90, x17.1.flatMap cR⟩, some ⟨42, eZ.map (eL 1 (eI .u8))⟩, some ⟨103, l3.flatMap aQ⟩, some ⟨90, [(eI .i64 x37.Code), (.row none 1 (x37.Data.map (eI .u8))), (eI .i64 x37.M), (eI .i64 x37.N)]⟩]) (aU rfl rfl (eR gF rfl rfl rfl zl rfl)) <| zn <| AB.seq ?_
            obtain ⟨x40, h_11, hr3⟩ := aN hr3
            refine AB.rw <| zw (v := (.agg [(eI .i64 x37.Code), (.row none 1 (x37.Data.map (eI .u8))), (eI .i64 x37.M), (eI .i64 x37.N)])) (aI rfl (bZ rfl (bQ (ds := [(eI .i64 x37.Code), (.row none 1 (x37.Data.map (eI .u8))), (eI .i64 x37.M), (eI .i64 x37.N)]) gF rfl zl rfl))) <| wC (v := (eI .i64 x40.1)) rfl (zB (aAP N t7 c0_5 c0_6 eZ l3 c0_7 x37.Code x37.Data x37.M x37.N x40 h_11) [0, 2, 3]) ?_
            refine za rfl <| zn <| zq <| zm rfl <| rE rfl rfl <| zn ?_
            refine zk hr3 rfl (fun h12 hr3 => ?_) (fun h12 hr3 => ?_)
            · refine zq <| zm rfl <| zw (v := (.row (some true) 1 [])) (bE rfl) <| zi <| za rfl <| zn <| AB.ret <| Ex.inBlock_ret_mk <| Ex.then_ret_mk <| Ex.then_ret_mk <| Ex.inBlock_ret_mk <| Ex.then_ret_mk ?_
              obtain rfl := sj hr3
              obtain rfl := sj hr
              exact bU (r1 := (.tup [(.row (some true) 1 []), (eI .i64 0), (eI .i64 x40.1)])) (j5 Tryd.results27 (iS rfl) (iS rfl) (iS rfl)) (Ghost.trans (Ghost.virt (fr' := [(0, (.tup [(.sl 7 0 0 1 false), (eI .i64 0), (eI .i64 x40.1)]))]) (h1 := [some ⟨88, (aX (eI .u8) x40.2.1 [(eI .i64 x40.2.2.1), (eI .i64 x40.2.2.2.1), (.sl 5 0 x40.2.2.2.2.1.length 1 false), (.sl 6 0 x40.2.2.2.2.2.1.length 2 true), (eI .i64 x40.2.2.2.2.2.2)])⟩, some ⟨90, x17.1.flatMap cR⟩, none, none, some ⟨90, [(eI .i64 x37.Code), (.row none 1 (x37.Data.map (eI .u8))), (eI .i64 x37.M), (eI .i64 x37.N)]⟩, some ⟨42, x40.2.2.2.2.1.map (eL 1 (eI .u8))⟩, some ⟨103, x40.2.2.2.2.2.1.flatMap aQ⟩]) 42 (FLe.le rfl (V.le_tup (V.les_cons (V.le_virt rfl) (V.les_cons (V.le_refl _ _) (V.les_cons (V.le_refl _ _) V.les_nil)))) FLe.nil) (HLv.live (V.les_refl _ _) rfl (HLv.live (V.les_refl _ _) (fT (fun _ => rfl) _) (HLv.dead (HLv.dead (HLv.live (V.les_refl _ _) rfl (HLv.live (V.les_refl _ _) (all_map (fun _ => rfl) _) (HLv.live (V.les_refl _ _) (fT (fun _ => rfl) _) HLv.nil)))))))) (Ghost.rn [7] rfl rfl (FLe.le rfl (V.le_tup (V.les_cons (by first | exact V.le_refl _ _ | (simp only [cN, cO]; exact V.le_refl _ _)) (V.les_cons (V.le_refl _ _) (V.les_cons (V.le_refl _ _) V.les_nil)))) FLe.nil) (HLe.live rfl V.les_nil rfl HLe.nil) rfl))
            · refine AB.skip <| Ex.inBlock_mk <| Ex.then_mk <| AB.rw <| dG rfl rfl <| zm rfl <| zn ?_
              exact ⟨IntKind.i64.wrap (x35 + 1), x40.2.1, x40.2.2.1, x40.2.2.2.1, x40.2.2.2.2.2.2, x40.2.2.2.2.1, x40.2.2.2.2.2.1, hr3, (zG [0, 1, 5, 6])⟩
          · refine AB.exit <| Ex.then_exit_mk <| Ex.then_exit_mk <| Ex.inBlock_same_mk ?_
            obtain rfl := sj hr3
            refine Ex.then_mk ?_
            exact hG2 _ _ _ _ (zG [0, 2, 3]) (J2 t7 c0_5 c0_6 c0_7 eZ l3 hr)
        obtain ⟨gX, h_13, hr⟩ := aN hr
        refine AB.rd (dQ []) (dQ [40]) mixed <| zp 5 0 rfl (bH (v := (.agg (aX (eI .u8) cF [(eI .i64 cV), (eI .i64 fK)]))) (aI rfl (bZ rfl (bQ (ds := (aX (eI .u8) cF [(eI .i64 cV), (eI .i64 fK)])) aAR rfl zl rfl)))) <| dO 4 1 rfl rfl <| DrawG.fork (n := 3) [2, 4] (by decide +kernel) (by decide) ?_
        refine (Fork.cons rfl (gC (v := (.sl 2 0 gX.length 1 false)) (h' := [some ⟨58, (aX (eI .u8) cF [(eI .i64 cV), (eI .i64 fK)])⟩, some ⟨90, x17.1.flatMap cR⟩, some ⟨42, gX.map (eL 1 (eI .u8))⟩]) (zB (tZ N stack gX h_13) []) rfl (fun _ => ⟨_, rfl⟩) (sv (bN rfl d5))) ?_ (Fork.cons rfl (gS (v := (.ptr 2 0)) (h' := [some ⟨58, (aX (eI .u8) cF [(eI .i64 cV), (eI .i64 fK)])⟩, some ⟨90, x17.1.flatMap cR⟩, some ⟨88, (aX (eI .u8) (List.replicate 32 0) [(eI .i64 0), (eI .i64 0), (.row (some true) 1 []), (.row (some true) 1 []), (eI .i64 0)])⟩]) (sv (nS aAH rfl rfl rfl))) ?_ Fork.nil))
        · refine zp 2 3 rfl (bH (v := (.agg (aX (eI .u8) cF [(eI .i64 cV), (eI .i64 fK), (.sl 2 0 gX.length 1 false), (.row (some true) 1 []), (eI .i64 0)]))) (cI rfl (lL aAH aLG rfl))) <| zp 1 4 rfl (bH (v := (.ptr 3 0)) (h' := [some ⟨58, (aX (eI .u8) cF [(eI .i64 cV), (eI .i64 fK)])⟩, some ⟨90, x17.1.flatMap cR⟩, some ⟨42, gX.map (eL 1 (eI .u8))⟩, some ⟨88, (aX (eI .u8) (List.replicate 32 0) [(eI .i64 0), (eI .i64 0), (.row (some true) 1 []), (.row (some true) 1 []), (eI .i64 0)])⟩]) (nS aAH rfl rfl rfl)) ?_
          refine zp 0 5 rfl (jV (h' := [some ⟨58, (aX (eI .u8) cF [(eI .i64 cV), (eI .i64 fK)])⟩, some ⟨90, x17.1.flatMap cR⟩, some ⟨42, gX.map (eL 1 (eI .u8))⟩, some ⟨88, (aX (eI .u8) cF [(eI .i64 cV), (eI .i64 fK), (.sl 2 0 gX.length 1 false), (.row (some true) 1 []), (eI .i64 0)])⟩]) (aU rfl rfl (eR aAH rfl rfl rfl zl rfl))) <| DrawG.nil (by decide +kernel) <| Ex.then_mk ?_
          exact hG1 _ _ _ _ (zG [1, 3, 2]) (J1 gX hr)
        · refine DrawG.pick (n := 2) (i := 2) (by decide +kernel) rfl (gC (v := (.sl 3 0 gX.length 1 false)) (h' := [some ⟨58, (aX (eI .u8) cF [(eI .i64 cV), (eI .i64 fK)])⟩, some ⟨90, x17.1.flatMap cR⟩, some ⟨88, (aX (eI .u8) (List.replicate 32 0) [(eI .i64 0), (eI .i64 0), (.row (some true) 1 []), (.row (some true) 1 []), (eI .i64 0)])⟩, some ⟨42, gX.map (eL 1 (eI .u8))⟩]) (zB (tZ N stack gX h_13) []) rfl (fun _ => ⟨_, rfl⟩) (sv (bN rfl d5))) ?_
          refine zp 1 3 rfl (bH (v := (.agg (aX (eI .u8) cF [(eI .i64 cV), (eI .i64 fK), (.sl 3 0 gX.length 1 false), (.row (some true) 1 []), (eI .i64 0)]))) (cI rfl (lL aAH aLG rfl))) <| zp 0 5 rfl (jV (h' := [some ⟨58, (aX (eI .u8) cF [(eI .i64 cV), (eI .i64 fK)])⟩, some ⟨90, x17.1.flatMap cR⟩, some ⟨88, (aX (eI .u8) cF [(eI .i64 cV), (eI .i64 fK), (.sl 3 0 gX.length 1 false), (.row (some true) 1 []), (eI .i64 0)])⟩, some ⟨42, gX.map (eL 1 (eI .u8))⟩]) (aU rfl rfl (eR aAH rfl rfl rfl zl rfl))) <| DrawG.nil (by decide +kernel) ?_
          refine Ex.then_mk ?_
          exact hG1 _ _ _ _ (zG [1, 2, 3]) (J1 gX hr)
theorem aB3 (N : Nat) (b : List Int) (dI : List (List Int)) (cF : List Int) (cV : Int) (fK : Int) (r : Int) (hr : nE N b dI cF cV fK = some r) :
    Vm.Fn Tryd.prog 17 [] [(.row none 1 (b.map (eI .u8))), (.row none 1 (dI.map (eL 1 (eI .u8)))), (.agg (aX (eI .u8) cF [(eI .i64 cV), (eI .i64 fK)]))] (eI .i64 r) [] := by
  refine zf Tryd.func17 Tryd.ntmps17 ?_
  unfold nE at hr
  refine zq <| zh (v := (.ptr 0 0)) (b8 rfl rfl rfl rfl) ?_
  refine zi <| zn <| AB.seq ?_
  obtain ⟨bO, h_1, hr⟩ := aN hr
  refine AB.rw <| zm rfl <| zm rfl <| zw (v := (.agg (aX (eI .u8) cF [(eI .i64 cV), (eI .i64 fK)]))) (aI rfl (bZ rfl (bQ (ds := (aX (eI .u8) cF [(eI .i64 cV), (eI .i64 fK)])) aAR rfl zl rfl))) <| wC (v := (.tup [(.sl 1 0 bO.1.length 1 false), (eI .i64 bO.2.1), (eI .i64 bO.2.2)])) rfl (zB (aGa N b dI cF cV fK bO h_1) []) ?_
  refine zm rfl <| iW rfl rfl <| iW rfl rfl <| iW rfl rfl <| za rfl <| za rfl <| za rfl <| zn <| AB.seq <| AB.block <| zq <| zm rfl <| rE rfl rfl <| za rfl <| zn ?_
  refine zk hr rfl (fun h2 hr => ?_) (fun h2 hr => ?_)
  · refine zq <| zm rfl <| za rfl <| zn <| AB.ret <| Ex.inBlock_ret_mk <| Ex.then_ret_mk ?_
    obtain rfl := sj hr
    exact bW Tryd.results17 []
  · refine zq <| zm rfl <| zw (v := (eI .i64 (bO.1.length : Int))) (gQ rfl (pQ b5)) <| rE rfl rfl <| za rfl <| zn ?_
    refine zk hr rfl (fun h3 hr => ?_) (fun h3 hr => ?_)
    · refine zq <| zi <| zn <| AB.ret <| Ex.inBlock_ret_mk <| Ex.then_ret_mk ?_
      obtain rfl := sj hr
      exact bW Tryd.results17 []
    · refine AB.seq ?_
      obtain ⟨x28, h_4, hr⟩ := aN hr
      obtain ⟨jG, h_5, hr⟩ := aN hr
      refine AB.rw <| zm rfl <| zw (v := (.ptr 1 (Int.toNat 0))) (bP rfl rfl (iaS rfl b5 bG rfl h_4)) <| zw (v := (.row none 1 (x28.map (eI .u8)))) (aI rfl (gG (E := (eL 1 (eI .u8))) (y := x28) bG rfl rfl h_4)) <| wC rfl (Vm.Fn.pure (q6 N x28 jG h_5) rfl rfl) <| zw (f9 rfl (dU _ _)) <| za rfl <| zn ?_
      refine zk hr rfl (fun h6 hr => ?_) (fun h6 hr => ?_)
      · refine zq <| zi <| zn <| AB.ret <| Ex.inBlock_ret_mk <| Ex.then_ret_mk ?_
        obtain rfl := sj hr
        exact bW Tryd.results17 []
      · refine AB.skip <| Ex.inBlock_mk <| Ex.then_mk <| zq <| zi <| zn <| AB.ret ?_
        obtain rfl := sj hr
        exact bW Tryd.results17 []
theorem aE7 (N : Nat) (aC : Int) (aB : List aO) (aA : List aK) (aH : Int) (vi : Int) (iY : List Int) (fD : Int) (dC : Int) (cD : List Int) (dE : Int) (iV : Bool) (bR : Int) (r : Int) (hr : tD N aC aB aA aH vi iY fD dC cD dE iV bR = some r) :
    Vm.Fn Tryd.prog 12 [] [(.agg [(eI .u32 aC), (.row none 35 (aB.map aL)), (.row none 2 (aA.map aM)), (eI .u32 aH)]), (eI .i64 vi), (.agg (aX (eI .u8) iY [(eI .u32 fD), (eI .i64 dC), (.row none 1 (cD.map (eI .u8))), (eI .i64 dE), (eB iV)])), (eI .i64 bR)] (eI .i64 r) [] := by
  refine zf Tryd.func12 Tryd.ntmps12 ?_
  unfold tD at hr
  refine zq <| zh (v := (.ptr 0 0)) (b8 rfl rfl rfl rfl) ?_
  refine zh (v := (.ptr 1 0)) (b8 rfl rfl rfl rfl) ?_
  refine zi <| zn <| AB.seq ?_
  obtain ⟨x17, h_1, hr⟩ := aN hr
  obtain ⟨q, h_2, hr⟩ := aN hr
  refine AB.rw <| zw (v := (.agg [(eI .u32 aC), (.row none 35 (aB.map aL)), (.row none 2 (aA.map aM)), (eI .u32 aH)])) (aI rfl (bZ rfl (bQ (ds := [(eI .u32 aC), (.row none 35 (aB.map aL)), (.row none 2 (aA.map aM)), (eI .u32 aH)]) jY rfl zl rfl))) <| zm rfl <| cQ rfl (v8 ..) <| zw (v := (.agg [(eI .i64 dC), (.row none 1 (cD.map (eI .u8)))])) (aI rfl (bZ rfl (bQ (ds := [(eI .i64 dC), (.row none 1 (cD.map (eI .u8)))]) iO rfl zl rfl))) ?_
  refine wC rfl (Vm.Fn.pure (aDK N aC aB aA aH vi dC cD x17 h_1) rfl zR) <| zm rfl <| iW rfl rfl <| iW rfl rfl <| zh (v := (.ptr 2 0)) (cK (B := some ⟨36, (List.replicate 32 0).map (eI .u8)⟩) dL rfl rfl) ?_
  refine zt (aU rfl rfl (eQ (E := (eI .u8)) (l := List.replicate 32 0) dL rfl rfl (fun _ => rfl) rfl (aP h_2) rfl)) ?_
  refine za rfl <| zn <| AB.seq <| AB.block <| zq <| zm rfl <| rE rfl rfl <| za rfl <| zn ?_
  refine zk hr rfl (fun h3 hr => ?_) (fun h3 hr => ?_)
  · refine zq <| zm rfl <| za rfl <| zn <| AB.ret <| Ex.inBlock_ret_mk <| Ex.then_ret_mk ?_
    obtain rfl := sj hr
    exact bW Tryd.results12 []
  · refine AB.seq ?_
    obtain ⟨x28, h_4, hr⟩ := aN hr
    refine AB.rg E0 (fun _ => by show dR (fun _ => false) _ = true; decide +kernel) <| tS (v := (.ptr 0 1)) (sv (eE rfl (gL ..))) <| tS (v := (.row none 35 (aB.map aL))) (sv (aI rfl (bZ rfl (bX eG rfl rfl)))) <| tS (sv (bI rfl)) <| tS (sv (bP rfl rfl (kH eG gD h_4))) <| tS (sv (eE rfl (aEP ..))) <| tS (v := (jQ x28.Prev)) (sv (aI rfl (jM h_4 (bQ (ds := (aX (eI .u8) x28.Prev.Tx [(eI .u32 x28.Prev.Index)])) jA rfl zl rfl)))) <| tS (v := (.ptr 1 0)) (sv (eE rfl (aH9 ..))) ?_
    refine tS (v := (.agg (aX (eI .u8) iY [(eI .u32 fD)]))) (sv (aI rfl (bZ rfl (bQ (ds := (aX (eI .u8) iY [(eI .u32 fD)])) jA rfl zl rfl)))) <| tS (sv (a9 rfl rfl (aG7 (d := 9) jA rfl aIi zl aJY rfl rfl rfl rfl rfl))) <| tS (sv (bE rfl)) <| OpsTo.nil <| Ex.then_mk ?_
    refine zk hr rfl (fun h5 hr => ?_) (fun h5 hr => ?_)
    · refine zq <| zi <| zn <| AB.ret <| Ex.inBlock_ret_mk <| Ex.then_ret_mk ?_
      obtain rfl := sj hr
      exact bW Tryd.results12 []
    · refine AB.seq_g fun K1 hK1 hG1 => ?_
      have J1 : ∀ (gO : Bool), mU N aC aB aA aH vi iY fD dC cD dE iV bR x17 gO = some r → K1 (aV 66 [(1, (eI .i64 vi)), (3, (eI .i64 bR)), (4, (.ptr 0 0)), (6, (.ptr 1 0)), (9, (.ptr 2 0)), (34, (eB gO))]) [some ⟨26, [(eI .u32 aC), (.row none 35 (aB.map aL)), (.row none 2 (aA.map aM)), (eI .u32 aH)]⟩, some ⟨46, (aX (eI .u8) iY [(eI .u32 fD), (eI .i64 dC), (.row none 1 (cD.map (eI .u8))), (eI .i64 dE), (eB iV)])⟩, some ⟨36, x17.1.map (eI .u8)⟩] := by
        intro gO hr
        unfold mU at hr
        refine hK1 _ _ ?_
        refine zk hr rfl (fun h6 hr => ?_) (fun h6 hr => ?_)
        · refine zq <| zi <| zn <| AB.ret <| Ex.inBlock_ret_mk <| Ex.then_ret_mk ?_
          obtain rfl := sj hr
          exact bW Tryd.results12 []
        · refine AB.skip <| Ex.inBlock_mk <| Ex.then_mk <| zq <| zw (v := (.agg (x17.1.map (eI .u8)))) (aI rfl (b6 (E := (eI .u8)) (l := x17.1) dL rfl rfl (aP h_2))) <| zm rfl <| zm rfl <| cQ rfl (y8 ..) <| dP rfl rfl dN rfl <| vP rfl rfl <| zw (v := (.agg (aX (eI .u8) x17.1 [(eI .i64 bR), (eI .i64 (IntKind.i64.wrap (bR - dE)))]))) (cI rfl (aL2 (ps' := [(0, (.agg (aX (eI .u8) x17.1 []))), (1, (eI .i64 bR)), (2, (eI .i64 (IntKind.i64.wrap (bR - dE))))]) (by simp only [rV (l := x17.1) (aP h_2)]) (lL aAR aMU rfl))) ?_
          refine zh (v := (.ptr 3 0)) (cK (B := some ⟨58, (aX (eI .u8) (List.replicate 32 0) [(eI .i64 0), (eI .i64 0)])⟩) aAR rfl rfl) ?_
          refine zN (h' := [some ⟨26, [(eI .u32 aC), (.row none 35 (aB.map aL)), (.row none 2 (aA.map aM)), (eI .u32 aH)]⟩, some ⟨46, (aX (eI .u8) iY [(eI .u32 fD), (eI .i64 dC), (.row none 1 (cD.map (eI .u8))), (eI .i64 dE), (eB iV)])⟩, some ⟨36, x17.1.map (eI .u8)⟩, some ⟨58, (aX (eI .u8) x17.1 [(eI .i64 bR), (eI .i64 (IntKind.i64.wrap (bR - dE)))])⟩]) (aU rfl rfl (eR aAR rfl rfl rfl zl rfl)) <| zn <| AB.seq ?_
          obtain ⟨x61, h_7, hr⟩ := aN hr
          obtain ⟨x65, h_8, hr⟩ := aN hr
          have hc9 : Vm.Fn Tryd.prog 17 [some ⟨26, [(eI .u32 aC), (.row none 35 (aB.map aL)), (.row none 2 (aA.map aM)), (eI .u32 aH)]⟩, some ⟨46, (aX (eI .u8) iY [(eI .u32 fD), (eI .i64 dC), (.row none 1 (cD.map (eI .u8))), (eI .i64 dE), (eB iV)])⟩, some ⟨36, x17.1.map (eI .u8)⟩, some ⟨58, (aX (eI .u8) x17.1 [(eI .i64 bR), (eI .i64 (IntKind.i64.wrap (bR - dE)))])⟩] [(.row none 1 (cD.map (eI .u8))), (.row none 1 (x61.Witness.map (eL 1 (eI .u8)))), (.agg (aX (eI .u8) x17.1 [(eI .i64 bR), (eI .i64 (IntKind.i64.wrap (bR - dE)))]))] (eI .i64 x65) [some ⟨26, [(eI .u32 aC), (.row none 35 (aB.map aL)), (.row none 2 (aA.map aM)), (eI .u32 aH)]⟩, some ⟨46, (aX (eI .u8) iY [(eI .u32 fD), (eI .i64 dC), (.row none 1 (cD.map (eI .u8))), (eI .i64 dE), (eB iV)])⟩, some ⟨36, x17.1.map (eI .u8)⟩, some ⟨58, (aX (eI .u8) x17.1 [(eI .i64 bR), (eI .i64 (IntKind.i64.wrap (bR - dE)))])⟩] := (Vm.Fn.pure (aB3 N cD x61.Witness x17.1 bR (IntKind.i64.wrap (bR - dE)) x65 h_8) rfl rfl)
          refine AB.rg (Env.one mixed hc9 fS (fun _ _ => rfl)) (fun _ => by show dR fS _ = true; decide +kernel) <| tS (v := (.ptr 1 33)) (sv (eE rfl (v8 ..))) <| tS (v := (.ptr 1 34)) (sv (eE rfl (wI ..))) <| tS (v := (.row none 1 (cD.map (eI .u8)))) (sv (aI rfl (bZ rfl (bX bG rfl rfl)))) <| tS (v := (.ptr 0 1)) (sv (eE rfl (gL ..))) <| tS (v := (.row none 35 (aB.map aL))) (sv (aI rfl (bZ rfl (bX eG rfl rfl)))) <| tS (sv (bI rfl)) <| tS (sv (bP rfl rfl (kH eG gD h_7))) <| tS (sv (eE rfl (aLq ..))) ?_
          refine tS (v := (.row none 1 (x61.Witness.map (eL 1 (eI .u8))))) (sv (aI rfl (jM h_7 (bX b5 rfl rfl)))) <| tS (v := (.agg (aX (eI .u8) x17.1 [(eI .i64 bR), (eI .i64 (IntKind.i64.wrap (bR - dE)))]))) (sv (aI rfl (bZ rfl (bQ (ds := (aX (eI .u8) x17.1 [(eI .i64 bR), (eI .i64 (IntKind.i64.wrap (bR - dE)))])) aAR rfl zl rfl)))) ?_
          refine tS (v := (eI .i64 x65)) (h' := [some ⟨26, [(eI .u32 aC), (.row none 35 (aB.map aL)), (.row none 2 (aA.map aM)), (eI .u32 aH)]⟩, some ⟨46, (aX (eI .u8) iY [(eI .u32 fD), (eI .i64 dC), (.row none 1 (cD.map (eI .u8))), (eI .i64 dE), (eB iV)])⟩, some ⟨36, x17.1.map (eI .u8)⟩, some ⟨58, (aX (eI .u8) x17.1 [(eI .i64 bR), (eI .i64 (IntKind.i64.wrap (bR - dE)))])⟩]) (sv (bN rfl Env.one_O)) <| tS (sv (bE rfl)) <| OpsTo.nil <| Ex.then_mk <| AB.ret ?_
          obtain rfl := sj hr
          exact bW Tryd.results12 []
      rcases Bool.eq_false_or_eq_true (decide (dE < 0)) with h10 | h10
      · replace hr := gE hr h10
        refine AB.rw <| cQ rfl (y8 ..) <| dP rfl rfl dN rfl <| eY rfl rfl <| zm rfl <| zx h10 <| zx h10 <| zx h10 <| zx h10 <| zw (v := (eB true)) (c9 rfl h10 rfl) <| zm rfl <| zx rfl <| zx rfl <| zw (v := (eB true)) (c9 rfl rfl rfl) <| za rfl <| zn ?_
        exact hG1 _ _ _ _ (zG [0, 1, 2]) (J1 true hr)
      · replace hr := gB hr h10
        rcases Bool.eq_false_or_eq_true (decide (bR < dE)) with h11 | h11
        · replace hr := gE hr h11
          refine AB.rw <| cQ rfl (y8 ..) <| dP rfl rfl dN rfl <| eY rfl rfl <| zm rfl <| zg (v := (.ptr 1 35)) h10 (eE rfl (y8 ..)) <| zg (v := (eI .i64 dE)) h10 (aI rfl (bZ rfl (bX dN rfl rfl))) <| zg h10 (bI rfl) <| zg h10 (a9 rfl rfl (mS ..)) <| oB rfl h10 rfl <| zm rfl <| zx h11 <| zx h11 <| zw (v := (eB true)) (c9 rfl h11 rfl) <| za rfl <| zn ?_
          exact hG1 _ _ _ _ (zG [0, 1, 2]) (J1 true hr)
        · replace hr := gB hr h11
          refine AB.rw <| cQ rfl (y8 ..) <| dP rfl rfl dN rfl <| eY rfl rfl <| zm rfl <| zg (v := (.ptr 1 35)) h10 (eE rfl (y8 ..)) <| zg (v := (eI .i64 dE)) h10 (aI rfl (bZ rfl (bX dN rfl rfl))) <| zg h10 (bI rfl) <| zg h10 (a9 rfl rfl (mS ..)) <| oB rfl h10 rfl <| zm rfl <| zg h11 (bI rfl) <| zg h11 (a9 rfl rfl (mS ..)) <| oB rfl h11 rfl <| za rfl <| zn ?_
          exact hG1 _ _ _ _ (zG [0, 1, 2]) (J1 (decide (16777216 < bR)) hr)
theorem aA7 (N : Nat) (aC : Int) (aB : List aO) (aA : List aK) (aH : Int) (l : List bD) (bR : Int) (r : Int × Int) (hr : qO N aC aB aA aH l bR = some r) :
    Vm.Fn Tryd.prog 7 [] [(.agg [(eI .u32 aC), (.row none 35 (aB.map aL)), (.row none 2 (aA.map aM)), (eI .u32 aH)]), (.row none 37 (l.map eX)), (eI .i64 bR)] (.tup [(eI .i64 r.1), (eI .i64 r.2)]) [] := by
  refine zf Tryd.func7 Tryd.ntmps7 ?_
  unfold qO at hr
  refine zq <| zh (v := (.ptr 0 0)) (b8 rfl rfl rfl rfl) ?_
  refine zi <| zi <| zn <| AB.seq <| AB.seq ?_
  obtain ⟨bO, h_1, hr⟩ := aN hr
  refine AB.rw <| zw (v := (.agg [(eI .u32 aC), (.row none 35 (aB.map aL)), (.row none 2 (aA.map aM)), (eI .u32 aH)])) (aI rfl (bZ rfl (bQ (ds := [(eI .u32 aC), (.row none 35 (aB.map aL)), (.row none 2 (aA.map aM)), (eI .u32 aH)]) jY rfl zl rfl))) <| wC rfl (Vm.Fn.pure (aA2 N aC aB aA aH bO h_1) rfl rfl) <| zn ?_
  refine zk hr rfl (fun h2 hr => ?_) (fun h2 hr => ?_)
  · refine zq <| zi <| zi <| zn <| AB.ret <| Ex.then_ret_mk ?_
    obtain rfl := sj hr
    exact vO Tryd.results7 []
  · refine AB.skip <| Ex.then_mk <| AB.seq ?_
    obtain ⟨x18, h_3, hr⟩ := aN hr
    refine AB.rw <| zw (v := (.agg [(eI .u32 aC), (.row none 35 (aB.map aL)), (.row none 2 (aA.map aM)), (eI .u32 aH)])) (aI rfl (bZ rfl (bQ (ds := [(eI .u32 aC), (.row none 35 (aB.map aL)), (.row none 2 (aA.map aM)), (eI .u32 aH)]) jY rfl zl rfl))) <| zm rfl <| wC rfl (Vm.Fn.pure (aAg N aC aB aA aH l x18 h_3) rfl rfl) <| zm rfl <| iW rfl rfl <| iW rfl rfl <| za rfl <| za rfl <| zn <| AB.seq <| zq <| zm rfl <| rE rfl rfl <| zn ?_
    refine zk hr rfl (fun h4 hr => ?_) (fun h4 hr => ?_)
    · refine zq <| zm rfl <| zi <| za rfl <| zn <| AB.ret <| Ex.then_ret_mk ?_
      obtain rfl := sj hr
      exact vO Tryd.results7 []
    · refine AB.skip <| Ex.then_mk <| AB.seq <| AB.seq ?_
      obtain ⟨x26, h_5, hr⟩ := aN hr
      refine AB.rw <| zw (v := (.agg [(eI .u32 aC), (.row none 35 (aB.map aL)), (.row none 2 (aA.map aM)), (eI .u32 aH)])) (aI rfl (bZ rfl (bQ (ds := [(eI .u32 aC), (.row none 35 (aB.map aL)), (.row none 2 (aA.map aM)), (eI .u32 aH)]) jY rfl zl rfl))) <| zm rfl <| wC rfl (Vm.Fn.pure (aHE N aC aB aA aH bR x26 h_5) rfl rfl) <| zw (f9 rfl (dU _ _)) <| zn ?_
      refine zk hr rfl (fun h6 hr => ?_) (fun h6 hr => ?_)
      · refine zq <| zi <| zi <| zn <| AB.ret <| Ex.then_ret_mk ?_
        obtain rfl := sj hr
        exact vO Tryd.results7 []
      · refine AB.skip <| Ex.then_mk ?_
        refine AB.seq_g fun K1 hK1 hG1 => ?_
        have J1 : wA N x18 = some r → K1 (aV 45 [(8, (eI .i64 x18.1))]) [] := by
          intro hr
          unfold wA at hr
          refine hK1 _ _ <| zq <| zm rfl <| za rfl <| zi <| zn <| AB.ret ?_
          obtain rfl := sj hr
          exact vO Tryd.results7 []
        refine zq <| zm rfl <| eT rfl aAi <| zI <| zn ?_
        obtain ⟨cL, hL2, hr⟩ := aN hr
        refine AB.block <| AB.loopN (fun m s h => ∃ (jG : Int), lE N aC aB aA aH l bR x18 m jG = some cL ∧ Ghost 0 s h (aV 45 [(2, (eI .i64 bR)), (3, (.ptr 0 0)), (8, (eI .i64 x18.1)), (28, (.row none 37 (l.map eX))), (29, (eI .i64 (l.length : Int))), (30, (eI .i64 jG))]) [some ⟨26, [(eI .u32 aC), (.row none 35 (aB.map aL)), (.row none 2 (aA.map aM)), (eI .u32 aH)]⟩]) (n := N) ⟨0, hL2, (zG [0])⟩ (by rintro s h ⟨_, h0, _⟩; simp [lE] at h0) ?_
        rintro m2 s h ⟨jG, hr2, hg⟩
        refine AB.ghost hg ?_
        clear hg hL2
        rw [lE] at hr2
        refine zq <| eY rfl rfl <| zn <| AB.seq ?_
        refine zk hr2 rfl (fun h7 hr2 => ?_) (fun h7 hr2 => ?_)
        · refine AB.skip <| Ex.then_mk <| AB.seq <| AB.block <| AB.seq ?_
          obtain ⟨gH, h_8, hr2⟩ := aN hr2
          refine AB.rw <| zm rfl <| zw (bP rfl rfl (kH aAi nB h_8)) <| zw (v := (eX gH)) (aI rfl (jM h_8 (bQ (ds := (aX (eI .u8) gH.Out.Tx [(eI .u32 gH.Out.Index), (eI .i64 gH.Output.Value), (.row none 1 (gH.Output.Script.map (eI .u8))), (eI .i64 gH.Height), (eB gH.Coinbase)])) nB rfl zl rfl))) <| zh (v := (.ptr 1 0)) (cK (B := some ⟨46, (aX (eI .u8) (List.replicate 32 0) [(eI .u32 0), (eI .i64 0), (.row (some true) 1 []), (eI .i64 0), (eB false)])⟩) nB rfl rfl) ?_
          refine za rfl <| zN (h' := [some ⟨26, [(eI .u32 aC), (.row none 35 (aB.map aL)), (.row none 2 (aA.map aM)), (eI .u32 aH)]⟩, some ⟨46, eW gH⟩]) (aU rfl rfl (eR nB rfl rfl rfl zl rfl)) <| zn <| AB.seq ?_
          obtain ⟨x39, h_9, hr2⟩ := aN hr2
          refine AB.rw <| zw (v := (.agg [(eI .u32 aC), (.row none 35 (aB.map aL)), (.row none 2 (aA.map aM)), (eI .u32 aH)])) (aI rfl (bZ rfl (bQ (ds := [(eI .u32 aC), (.row none 35 (aB.map aL)), (.row none 2 (aA.map aM)), (eI .u32 aH)]) jY rfl zl rfl))) <| zm rfl <| zw (v := (eX gH)) (aI rfl (bZ rfl (bQ (ds := (aX (eI .u8) gH.Out.Tx [(eI .u32 gH.Out.Index), (eI .i64 gH.Output.Value), (.row none 1 (gH.Output.Script.map (eI .u8))), (eI .i64 gH.Height), (eB gH.Coinbase)])) nB rfl zl rfl))) ?_
          refine zm rfl <| wC rfl (Vm.Fn.pure (aE7 N aC aB aA aH jG gH.Out.Tx gH.Out.Index gH.Output.Value gH.Output.Script gH.Height gH.Coinbase bR x39 h_9) rfl rfl) <| za rfl <| zn <| zq <| zm rfl <| rE rfl rfl <| zn ?_
          refine zk hr2 rfl (fun h10 hr2 => ?_) (fun h10 hr2 => ?_)
          · refine zq <| zm rfl <| zi <| za rfl <| zn <| AB.ret <| Ex.inBlock_ret_mk <| Ex.then_ret_mk <| Ex.then_ret_mk <| Ex.inBlock_ret_mk <| Ex.then_ret_mk ?_
            obtain rfl := sj hr2
            obtain rfl := sj hr
            exact vO Tryd.results7 []
          · refine AB.skip <| Ex.inBlock_mk <| Ex.then_mk <| AB.rw <| dG rfl rfl <| zm rfl <| zn ?_
            exact ⟨IntKind.i64.wrap (jG + 1), hr2, (zG [0])⟩
        · refine AB.exit <| Ex.then_exit_mk <| Ex.then_exit_mk <| Ex.inBlock_same_mk ?_
          obtain rfl := sj hr2
          refine Ex.then_mk ?_
          exact hG1 _ _ _ _ (zG []) (J1 hr)
theorem aB1 (N : Nat) (aC : Int) (aB : List aO) (aA : List aK) (aH : Int) (l : List bD) (bR : Int) (more : Int) (r : Bool) (hr : pN N aC aB aA aH l bR more = some r) :
    Vm.Fn Tryd.prog 3 [] [(.agg [(eI .u32 aC), (.row none 35 (aB.map aL)), (.row none 2 (aA.map aM)), (eI .u32 aH)]), (.row none 37 (l.map eX)), (eI .i64 bR), (eI .u8 more)] (eB r) [] := by
  refine zf Tryd.func3 Tryd.ntmps3 ?_
  unfold pN at hr
  refine zq <| zh (v := (.ptr 0 0)) (b8 rfl rfl rfl rfl) ?_
  refine zj <| zn <| AB.seq <| AB.seq ?_
  obtain ⟨cJ, h_1, hr⟩ := aN hr
  refine AB.rw <| wC rfl (Vm.Fn.pure (aF8 N cJ h_1) rfl rfl) <| zw (f9 rfl (dU _ _)) <| zn ?_
  refine zk hr rfl (fun h2 hr => ?_) (fun h2 hr => ?_)
  · refine zq <| zj <| zn <| AB.ret <| Ex.then_ret_mk ?_
    obtain rfl := sj hr
    exact bW Tryd.results3 []
  · refine AB.skip <| Ex.then_mk <| AB.seq ?_
    refine AB.seq_g fun K1 hK1 hG1 => ?_
    have J1 : ∀ (jG : Bool), fP N aC aB aA aH l bR more jG = some r → K1 (aV 59 [(1, (.row none 37 (l.map eX))), (2, (eI .i64 bR)), (3, (eI .u8 more)), (4, (.ptr 0 0)), (30, (eB jG))]) [some ⟨26, [(eI .u32 aC), (.row none 35 (aB.map aL)), (.row none 2 (aA.map aM)), (eI .u32 aH)]⟩] := by
      intro jG hr
      unfold fP at hr
      refine hK1 _ _ ?_
      refine zk hr rfl (fun h3 hr => ?_) (fun h3 hr => ?_)
      · refine zq <| zj <| zn <| AB.ret <| Ex.then_ret_mk ?_
        obtain rfl := sj hr
        exact bW Tryd.results3 []
      · refine AB.skip <| Ex.then_mk <| AB.seq ?_
        obtain ⟨x35, h_4, hr⟩ := aN hr
        refine AB.rw <| zw (v := (.agg [(eI .u32 aC), (.row none 35 (aB.map aL)), (.row none 2 (aA.map aM)), (eI .u32 aH)])) (aI rfl (bZ rfl (bQ (ds := [(eI .u32 aC), (.row none 35 (aB.map aL)), (.row none 2 (aA.map aM)), (eI .u32 aH)]) jY rfl zl rfl))) <| zm rfl <| zm rfl <| wC rfl (Vm.Fn.pure (aA7 N aC aB aA aH l bR x35 h_4) rfl rfl) <| zm rfl <| iW rfl rfl <| iW rfl rfl <| za rfl <| za rfl <| zn <| AB.seq ?_
        obtain ⟨x45, h_5, hr⟩ := aN hr
        refine AB.rw <| zw (v := (.agg [(eI .u32 aC), (.row none 35 (aB.map aL)), (.row none 2 (aA.map aM)), (eI .u32 aH)])) (aI rfl (bZ rfl (bQ (ds := [(eI .u32 aC), (.row none 35 (aB.map aL)), (.row none 2 (aA.map aM)), (eI .u32 aH)]) jY rfl zl rfl))) <| zm rfl <| zm rfl <| zm rfl <| zw (dA rfl (cE _ ⟨_, cC⟩ dN rfl)) <| dG rfl rfl <| wC rfl (Vm.Fn.pure (aA7 N aC aB aA aH l (IntKind.i64.wrap (bR + (IntKind.i64.wrap more))) x45 h_5) rfl rfl) <| zm rfl ?_
        refine iW rfl rfl <| iW rfl rfl <| za rfl <| za rfl <| zn ?_
        refine AB.seq_g fun K2 hK2 hG2 => ?_
        have J2 : ∀ (x8 : Bool), i7 N x8 = some r → K2 (aV 59 [(8, (eB x8))]) [] := by
          intro x8 hr
          unfold i7 at hr
          refine hK2 _ _ <| AB.ret ?_
          obtain rfl := sj hr
          exact bW Tryd.results3 []
        rcases Bool.eq_false_or_eq_true (x35.2 != 0) with h6 | h6
        · replace hr := gE hr h6
          refine AB.rw <| zm rfl <| rE rfl rfl <| zm rfl <| zx h6 <| zx h6 <| zx h6 <| zu <| zu <| zu <| zx h6 <| zw (v := (eB true)) (c9 rfl h6 rfl) <| za rfl <| zn ?_
          exact hG2 _ _ _ _ (zG []) (J2 true hr)
        · replace hr := gB hr h6
          rcases Bool.eq_false_or_eq_true (x45.2 == 0) with h7 | h7
          · replace hr := gE hr h7
            refine AB.rw <| zm rfl <| rE rfl rfl <| zm rfl <| zg h6 (bI rfl) <| zg h6 (a9 rfl rfl (qQ ..)) <| zg h6 (bI rfl) <| zg h7 (bI rfl) <| zg h7 (bI rfl) <| zg h7 (a9 rfl rfl (qQ ..)) <| zg (v := (eB (x35.1 == x45.1))) h6 (c9 rfl h7 rfl) <| oB rfl h6 rfl <| za rfl <| zn ?_
            exact hG2 _ _ _ _ (zG []) (J2 (x35.1 == x45.1) hr)
          · replace hr := gB hr h7
            refine AB.rw <| zm rfl <| rE rfl rfl <| zm rfl <| zg h6 (bI rfl) <| zg h6 (a9 rfl rfl (qQ ..)) <| zg h6 (bI rfl) <| zx h7 <| zx h7 <| zx h7 <| zg (v := (eB false)) h6 (fV rfl h7 rfl) <| zw (v := (eB false)) (fV rfl h6 rfl) <| za rfl <| zn ?_
            exact hG2 _ _ _ _ (zG []) (J2 false hr)
    obtain ⟨x16, h_8, hr⟩ := aN hr
    rcases Bool.eq_false_or_eq_true (!x16) with h9 | h9
    · replace hr := gE hr h9
      refine AB.rw <| zw (v := (.agg [(eI .u32 aC), (.row none 35 (aB.map aL)), (.row none 2 (aA.map aM)), (eI .u32 aH)])) (aI rfl (bZ rfl (bQ (ds := [(eI .u32 aC), (.row none 35 (aB.map aL)), (.row none 2 (aA.map aM)), (eI .u32 aH)]) jY rfl zl rfl))) <| wC rfl (Vm.Fn.pure (yH N aC aB aA aH x16 h_8) rfl rfl) <| zw (f9 rfl (dU _ _)) <| zm rfl <| zx h9 <| zx h9 <| zx h9 <| zw (v := (eB true)) (c9 rfl h9 rfl) <| zm rfl <| zx rfl <| zx rfl ?_
      refine zw (v := (eB true)) (c9 rfl rfl rfl) <| zm rfl <| zx rfl <| zx rfl <| zw (v := (eB true)) (c9 rfl rfl rfl) <| zn ?_
      exact hG1 _ _ _ _ (zG [0]) (J1 true hr)
    · replace hr := gB hr h9
      obtain ⟨dD, h_10, hr⟩ := aN hr
      rcases Bool.eq_false_or_eq_true (!dD) with h11 | h11
      · replace hr := gE hr h11
        refine AB.rw <| zw (v := (.agg [(eI .u32 aC), (.row none 35 (aB.map aL)), (.row none 2 (aA.map aM)), (eI .u32 aH)])) (aI rfl (bZ rfl (bQ (ds := [(eI .u32 aC), (.row none 35 (aB.map aL)), (.row none 2 (aA.map aM)), (eI .u32 aH)]) jY rfl zl rfl))) <| wC rfl (Vm.Fn.pure (yH N aC aB aA aH x16 h_8) rfl rfl) <| zw (f9 rfl (dU _ _)) <| zm rfl <| zg h9 (bI rfl) ?_
        refine wCG (v := (eB dD)) (h' := [some ⟨26, [(eI .u32 aC), (.row none 35 (aB.map aL)), (.row none 2 (aA.map aM)), (eI .u32 aH)]⟩]) rfl rfl h9 rfl (Vm.Fn.pure (xT N l 20 dD h_10) rfl rfl) <| zg h9 (f9 rfl (dU _ _)) <| oB rfl h9 rfl <| zm rfl <| zx h11 <| zx h11 <| zw (v := (eB true)) (c9 rfl h11 rfl) <| zm rfl <| zx rfl <| zx rfl <| zw (v := (eB true)) (c9 rfl rfl rfl) <| zn ?_
        exact hG1 _ _ _ _ (zG [0]) (J1 true hr)
      · replace hr := gB hr h11
        rcases Bool.eq_false_or_eq_true (decide (bR < 0)) with h12 | h12
        · replace hr := gE hr h12
          refine AB.rw <| zw (v := (.agg [(eI .u32 aC), (.row none 35 (aB.map aL)), (.row none 2 (aA.map aM)), (eI .u32 aH)])) (aI rfl (bZ rfl (bQ (ds := [(eI .u32 aC), (.row none 35 (aB.map aL)), (.row none 2 (aA.map aM)), (eI .u32 aH)]) jY rfl zl rfl))) <| wC rfl (Vm.Fn.pure (yH N aC aB aA aH x16 h_8) rfl rfl) <| zw (f9 rfl (dU _ _)) <| zm rfl <| zg h9 (bI rfl) ?_
          refine wCG (v := (eB dD)) (h' := [some ⟨26, [(eI .u32 aC), (.row none 35 (aB.map aL)), (.row none 2 (aA.map aM)), (eI .u32 aH)]⟩]) rfl rfl h9 rfl (Vm.Fn.pure (xT N l 20 dD h_10) rfl rfl) <| zg h9 (f9 rfl (dU _ _)) <| oB rfl h9 rfl <| zm rfl <| zg h11 (bI rfl) <| zg h11 (a9 rfl rfl (sO ..)) <| oB rfl h11 rfl <| zm rfl <| zx h12 <| zx h12 <| zw (v := (eB true)) (c9 rfl h12 rfl) <| zn ?_
          exact hG1 _ _ _ _ (zG [0]) (J1 true hr)
        · replace hr := gB hr h12
          refine AB.rw <| zw (v := (.agg [(eI .u32 aC), (.row none 35 (aB.map aL)), (.row none 2 (aA.map aM)), (eI .u32 aH)])) (aI rfl (bZ rfl (bQ (ds := [(eI .u32 aC), (.row none 35 (aB.map aL)), (.row none 2 (aA.map aM)), (eI .u32 aH)]) jY rfl zl rfl))) <| wC rfl (Vm.Fn.pure (yH N aC aB aA aH x16 h_8) rfl rfl) <| zw (f9 rfl (dU _ _)) <| zm rfl <| zg h9 (bI rfl) ?_
          refine wCG (v := (eB dD)) (h' := [some ⟨26, [(eI .u32 aC), (.row none 35 (aB.map aL)), (.row none 2 (aA.map aM)), (eI .u32 aH)]⟩]) rfl rfl h9 rfl (Vm.Fn.pure (xT N l 20 dD h_10) rfl rfl) <| zg h9 (f9 rfl (dU _ _)) <| oB rfl h9 rfl <| zm rfl <| zg h11 (bI rfl) <| zg h11 (a9 rfl rfl (sO ..)) <| oB rfl h11 rfl <| zm rfl <| zg h12 (bI rfl) <| zg h12 (a9 rfl rfl (mS ..)) <| oB rfl h12 rfl <| zn ?_
          exact hG1 _ _ _ _ (zG [0]) (J1 (decide (16776960 < bR)) hr)
end Go.Proofs.YtagblcjgjlihaaaDoor
