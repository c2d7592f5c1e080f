/- Texts of ours, joined: Wk1. -/
import Derived.Test.YtokmcbfnfmpemaaDoorQScriptJoins4
set_option linter.unusedVariables false
set_option linter.unusedSimpArgs false
namespace Go.Proofs.YtokmcbfnfmpemaaDoor
open Go Go.Vm
set_option maxRecDepth 20000 in
set_option maxHeartbeats 1000000 in
theorem script_known_ok (N : Nat) (code : Int) (r : Bool) (hr : script_known N code = some r) :
    Vm.Fn Tryd.prog 27 [] [(eI .i64 code)] (eB r) [] := by
  refine fn_ab Tryd.func27 rfl (by kernel_rfl) Tryd.ntmps27 zl rfl (fr := [(0, (eI .i64 code))]) rfl ?_
  unfold script_known at hr
  refine zq <| wS (v := (eB false)) (sv (d_assign rfl)) <| zn ?_
  refine AB.seq_g fun K1 hK1 hG1 => ?_
  have J1 : ∀ (x2 : Bool), script_known_J1 N x2 = some r → K1 (mkF 9 [(2, (eB x2))]) [] := by
    intro x2 hr
    unfold script_known_J1 at hr
    refine hK1 _ _ <| AB.ret ?_
    obtain rfl := Option.some.inj hr
    exact done_ret (r1 := (eB x2)) (res1 Tryd.results27 (rvT rfl)) (zG [])
  rcases Bool.eq_false_or_eq_true (decide (1 ≤ code)) with h1 | h1
  · replace hr := iteT hr h1
    refine AB.rw <| zm rfl <| wS (v := (eB (decide (1 ≤ code)))) (sv (d_bin rfl rfl (bin_geq ..))) <| zm rfl <| wS (svG rfl rfl h1 (d_move rfl)) <| wS (v := (eB (decide (code ≤ 17)))) (svG rfl rfl h1 (d_bin rfl rfl (bin_leq ..))) <| wS (v := (eB (decide (code ≤ 17)))) (sv (d_pickT rfl h1 rfl)) <| za rfl <| zn ?_
    exact hG1 _ _ _ _ (zG []) (J1 (decide (code ≤ 17)) hr)
  · replace hr := iteF hr h1
    refine AB.rw <| zm rfl <| wS (v := (eB (decide (1 ≤ code)))) (sv (d_bin rfl rfl (bin_geq ..))) <| zm rfl <| wS (svX rfl rfl h1) <| wS (svX rfl rfl h1) <| wS (v := (eB false)) (sv (d_pickF rfl h1 rfl)) <| za rfl <| zn ?_
    exact hG1 _ _ _ _ (zG []) (J1 false hr)
set_option maxRecDepth 20000 in
set_option maxHeartbeats 1000000 in
theorem script_row_ok (N : Nat) (parts : List (List Int)) (r : (List Int)) (hr : script_row N parts = some r) :
    Vm.Fn Tryd.prog 20 [] [(.row none 1 (parts.map (eL 1 (eI .u8))))] (.sl 0 0 r.length 1 false) [some ⟨5, r.map (eI .u8)⟩] := by
  refine fn_ab Tryd.func20 rfl (by kernel_rfl) Tryd.ntmps20 zl rfl (fr := [(0, (.row none 1 (parts.map (eL 1 (eI .u8)))))]) rfl ?_
  unfold script_row at hr
  refine zq <| wS (v := (.row (some true) 1 [])) (sv (d_assign rfl)) <| zn <| zq <| wS (v := (.row (some true) 1 [])) (sv (d_assign rfl)) <| zn ?_
  refine AB.seq_g fun K1 hK1 hG1 => ?_
  have J1 : ∀ (l0 : List Int), script_row_J1 N l0 = some r → K1 (mkF 17 [(3, (.sl 0 0 l0.length 1 false))]) [some ⟨5, l0.map (eI .u8)⟩] := by
    intro l0 hr
    unfold script_row_J1 at hr
    refine hK1 _ _ <| zq <| zm rfl <| za rfl <| zn <| AB.ret ?_
    obtain rfl := Option.some.inj hr
    exact done_ret (r1 := (.sl 0 0 l0.length 1 false)) (res1 Tryd.results20 (rvT rfl)) (zG [0])
  refine zq <| zm rfl <| wS (v := (eI .i64 (parts.length : Int))) (sv (d_len rfl (lenR ti23))) <| wS (v := (eI .i64 0)) (sv (d_move rfl)) <| zn ?_
  replace hr := bnd hr; obtain ⟨res2, hL2, hr⟩ := hr
  refine AB.block ?_
  refine AB.loopN (fun m s h => ∃ (x8 : Int) (l0_1 : List Int), script_row_L2 N parts m x8 l0_1 = some res2 ∧ Ghost 0 s h (mkF 17 [(3, (.sl 0 0 l0_1.length 1 false)), (6, (.row none 1 (parts.map (eL 1 (eI .u8))))), (7, (eI .i64 (parts.length : Int))), (8, (eI .i64 x8))]) [some ⟨5, l0_1.map (eI .u8)⟩]) (n := N) ⟨0, [], hL2, (Ghost.trans (Ghost.virt (fr' := [(3, (.sl 0 0 0 1 false)), (6, (.row none 1 (parts.map (eL 1 (eI .u8))))), (7, (eI .i64 (parts.length : Int))), (8, (eI .i64 0))]) (h1 := []) 5 (FLe.le rfl (V.le_virt rfl) (FLe.same rfl (FLe.same rfl (FLe.same rfl FLe.nil)))) HLv.nil) (Ghost.rn [0] rfl rfl (FLe.le rfl (by first | exact V.le_refl _ _ | (simp only [len_set, len_cpy]; exact V.le_refl _ _)) (FLe.same rfl (FLe.same rfl (FLe.same rfl FLe.nil)))) (HLe.live rfl V.les_nil rfl HLe.nil) rfl))⟩ (by rintro s h ⟨_, _, h0, _⟩; simp [script_row_L2] at h0) ?_
  rintro m2 s h ⟨x8, l0_1, hr2, hg⟩
  refine AB.ghost hg ?_
  clear hg hL2
  rw [script_row_L2] at hr2
  refine zq <| wS (sv (d_bin rfl rfl (bin_lss ..))) <| zn <| AB.seq ?_
  refine AB.cnd rfl (fun h1 => ?_) (fun h1 => ?_)
  · replace hr2 := iteT hr2 h1
    refine AB.skip <| Ex.then_mk <| AB.seq <| AB.block <| AB.seq ?_
    replace hr2 := bnd hr2; obtain ⟨x10, h_2, hr2⟩ := hr2
    refine AB.rw <| wS (sv (d_ia rfl rfl (iaR ti23 ti22 h_2))) <| wS (v := (.row none 1 (x10.map (eI .u8)))) (sv (d_load rfl (ldR h_2 (part1 ti22 rfl rfl)))) <| za rfl <| zn ?_
    replace hr2 := bnd hr2; obtain ⟨x14, h_3, hr2⟩ := hr2
    refine AB.rw <| zm rfl <| zm rfl <| wS (v := (.sl 1 0 x14.length 1 false)) (h' := [none, some ⟨5, x14.map (eI .u8)⟩]) (sv (d_append rfl rfl (appS (E := (eI .u8)) rfl ti22 ti5 ⟨rfl, rfl, zl⟩ rfl (srcR (fun _ => rfl)) h_3 rfl rfl))) <| za rfl <| OpsW.nil <| Ex.inBlock_mk <| Ex.then_mk <| AB.rw <| wS (v := (eI .i64 (IntKind.i64.wrap (x8 + 1)))) (sv (d_bin rfl rfl (bin_add ..))) <| zm rfl <| zn ?_
    exact ⟨IntKind.i64.wrap (x8 + 1), x14, hr2, (zG [1])⟩
  · replace hr2 := iteF hr2 h1
    refine AB.exit <| Ex.then_exit_mk <| Ex.then_exit_mk <| Ex.inBlock_same_mk ?_
    obtain rfl := Option.some.inj hr2
    refine Ex.then_mk ?_
    exact hG1 _ _ _ _ (zG [0]) (J1 l0_1 hr)
set_option maxRecDepth 20000 in
set_option maxHeartbeats 1000000 in
theorem script_inRange_ok (N : Nat) (vm : Int) (vn : Int) (r : Bool) (hr : script_inRange N vm vn = some r) :
    Vm.Fn Tryd.prog 28 [] [(eI .i64 vm), (eI .i64 vn)] (eB r) [] := by
  refine fn_ab Tryd.func28 rfl (by kernel_rfl) Tryd.ntmps28 zl rfl (fr := [(0, (eI .i64 vm)), (1, (eI .i64 vn))]) rfl ?_
  unfold script_inRange at hr
  refine zq <| wS (v := (eB false)) (sv (d_assign rfl)) <| zn ?_
  refine AB.seq_g fun K1 hK1 hG1 => ?_
  have J1 : ∀ (x4 : Bool), script_inRange_J1 N x4 = some r → K1 (mkF 20 [(4, (eB x4))]) [] := by
    intro x4 hr
    unfold script_inRange_J1 at hr
    refine hK1 _ _ <| AB.ret ?_
    obtain rfl := Option.some.inj hr
    exact done_ret (r1 := (eB x4)) (res1 Tryd.results28 (rvT rfl)) (zG [])
  rcases Bool.eq_false_or_eq_true (decide (1 ≤ vn)) with h1 | h1
  · replace hr := iteT hr h1
    rcases Bool.eq_false_or_eq_true (decide (vn ≤ 15)) with h2 | h2
    · replace hr := iteT hr h2
      rcases Bool.eq_false_or_eq_true (decide (1 ≤ vm)) with h3 | h3
      · replace hr := iteT hr h3
        refine AB.rw <| zm rfl <| wS (v := (eB (decide (1 ≤ vn)))) (sv (d_bin rfl rfl (bin_geq ..))) <| zm rfl <| wS (svG rfl rfl h1 (d_move rfl)) <| wS (v := (eB (decide (vn ≤ 15)))) (svG rfl rfl h1 (d_bin rfl rfl (bin_leq ..))) <| wS (v := (eB (decide (vn ≤ 15)))) (sv (d_pickT rfl h1 rfl)) <| zm rfl <| wS (svG rfl rfl h2 (d_move rfl)) <| wS (v := (eB (decide (1 ≤ vm)))) (svG rfl rfl h2 (d_bin rfl rfl (bin_geq ..))) <| wS (v := (eB (decide (1 ≤ vm)))) (sv (d_pickT rfl h2 rfl)) <| zm rfl <| wS (svG rfl rfl h3 (d_move rfl)) <| wS (svG rfl rfl h3 (d_move rfl)) ?_
        refine wS (svG rfl rfl h3 (d_bin rfl rfl (bin_leq ..))) <| wS (v := (eB (decide (vm ≤ vn)))) (sv (d_pickT rfl h3 rfl)) <| za rfl <| zn ?_
        exact hG1 _ _ _ _ (zG []) (J1 (decide (vm ≤ vn)) hr)
      · replace hr := iteF hr h3
        refine AB.rw <| zm rfl <| wS (v := (eB (decide (1 ≤ vn)))) (sv (d_bin rfl rfl (bin_geq ..))) <| zm rfl <| wS (svG rfl rfl h1 (d_move rfl)) <| wS (v := (eB (decide (vn ≤ 15)))) (svG rfl rfl h1 (d_bin rfl rfl (bin_leq ..))) <| wS (v := (eB (decide (vn ≤ 15)))) (sv (d_pickT rfl h1 rfl)) <| zm rfl <| wS (svG rfl rfl h2 (d_move rfl)) <| wS (v := (eB (decide (1 ≤ vm)))) (svG rfl rfl h2 (d_bin rfl rfl (bin_geq ..))) <| wS (v := (eB (decide (1 ≤ vm)))) (sv (d_pickT rfl h2 rfl)) <| zm rfl <| wS (svX rfl rfl h3) <| wS (svX rfl rfl h3) <| wS (svX rfl rfl h3) <| wS (v := (eB false)) (sv (d_pickF rfl h3 rfl)) ?_
        refine za rfl <| zn ?_
        exact hG1 _ _ _ _ (zG []) (J1 false hr)
    · replace hr := iteF hr h2
      refine AB.rw <| zm rfl <| wS (v := (eB (decide (1 ≤ vn)))) (sv (d_bin rfl rfl (bin_geq ..))) <| zm rfl <| wS (svG rfl rfl h1 (d_move rfl)) <| wS (v := (eB (decide (vn ≤ 15)))) (svG rfl rfl h1 (d_bin rfl rfl (bin_leq ..))) <| wS (v := (eB (decide (vn ≤ 15)))) (sv (d_pickT rfl h1 rfl)) <| zm rfl <| wS (svX rfl rfl h2) <| wS (svX rfl rfl h2) <| wS (v := (eB false)) (sv (d_pickF rfl h2 rfl)) <| zm rfl <| wS (svX rfl rfl rfl) <| wS (svX rfl rfl rfl) <| wS (svX rfl rfl rfl) <| wS (v := (eB false)) (sv (d_pickF rfl rfl rfl)) <| za rfl <| zn ?_
      exact hG1 _ _ _ _ (zG []) (J1 false hr)
  · replace hr := iteF hr h1
    refine AB.rw <| zm rfl <| wS (v := (eB (decide (1 ≤ vn)))) (sv (d_bin rfl rfl (bin_geq ..))) <| zm rfl <| wS (svX rfl rfl h1) <| wS (svX rfl rfl h1) <| wS (v := (eB false)) (sv (d_pickF rfl h1 rfl)) <| zm rfl <| wS (svX rfl rfl rfl) <| wS (svX rfl rfl rfl) <| wS (v := (eB false)) (sv (d_pickF rfl rfl rfl)) <| zm rfl <| wS (svX rfl rfl rfl) <| wS (svX rfl rfl rfl) <| wS (svX rfl rfl rfl) <| wS (v := (eB false)) (sv (d_pickF rfl rfl rfl)) <| za rfl <| zn ?_
    exact hG1 _ _ _ _ (zG []) (J1 false hr)
set_option maxRecDepth 20000 in
set_option maxHeartbeats 1000000 in
theorem script_next_ok (N : Nat) (b : List Int) (r : Int × (List Int) × Int × Int × (List Int) × Int) (hr : script_next N b = some r) :
    Vm.Fn Tryd.prog 19 [] [(.row none 1 (b.map (eI .u8)))] (.tup [(.agg [(eI .i64 r.1), (.sl 0 0 r.2.1.length 1 false), (eI .i64 r.2.2.1), (eI .i64 r.2.2.2.1)]), (.row none 1 (r.2.2.2.2.1.map (eI .u8))), (eI .i64 r.2.2.2.2.2)]) [some ⟨5, r.2.1.map (eI .u8)⟩] := by
  refine fn_ab Tryd.func19 rfl (by kernel_rfl) Tryd.ntmps19 zl rfl (fr := [(0, (.row none 1 (b.map (eI .u8))))]) rfl ?_
  unfold script_next at hr
  refine zq <| wS (v := (.ptr 0 0)) (h' := [some ⟨51, [(eI .i64 0), (.row (some true) 1 []), (eI .i64 0), (eI .i64 0)]⟩]) (sv (d_alloc ti51 rfl rfl rfl)) <| wS (v := (.row (some true) 1 [])) (sv (d_assign rfl)) <| wS (v := (eI .i64 0)) (sv (d_assign rfl)) <| zn <| AB.seq ?_
  replace hr := bnd hr; obtain ⟨x8, h_1, hr⟩ := hr
  refine AB.rw <| zm rfl <| wS (sv (d_ia rfl rfl (iaR ti22 ti5 h_1))) <| wS (v := (eI .u8 x8)) (sv (d_load rfl (ldR h_1 (part1 ti5 rfl rfl)))) <| wS (sv (d_conv rfl (conv_int _ ⟨_, ti5⟩ ti3 rfl))) <| wS (v := (.agg [(eI .i64 (IntKind.i64.wrap x8)), (.row (some true) 1 []), (eI .i64 0), (eI .i64 0)])) (sv (d_build rfl (bldS ti51 pl51 rfl))) <| wS (v := (.ptr 1 0)) (h' := [some ⟨51, [(eI .i64 0), (.row (some true) 1 []), (eI .i64 0), (eI .i64 0)]⟩, some ⟨51, [(eI .i64 0), (.row (some true) 1 []), (eI .i64 0), (eI .i64 0)]⟩]) (sv (d_alloc ti51 rfl rfl rfl)) ?_
  refine wN (h' := [some ⟨51, [(eI .i64 0), (.row (some true) 1 []), (eI .i64 0), (eI .i64 0)]⟩, some ⟨51, [(eI .i64 (IntKind.i64.wrap x8)), (.row (some true) 1 []), (eI .i64 0), (eI .i64 0)]⟩]) (sv (d_store rfl rfl (stP ti51 rfl rfl rfl zl rfl))) <| zn <| AB.seq <| AB.seq ?_
  replace hr := bnd hr; obtain ⟨x14, h_2, hr⟩ := hr
  refine AB.rw <| wS (v := (.ptr 1 0)) (sv (d_fa rfl (fap51_0 ..))) <| wS (v := (eI .i64 (IntKind.i64.wrap x8))) (sv (d_load rfl (ldP rfl (part1 ti3 rfl rfl)))) <| wC rfl (Vm.Fn.pure (script_known_ok N (IntKind.i64.wrap x8) x14 h_2) rfl rfl) <| wS (sv (d_un rfl (un_not _ _))) <| zn ?_
  refine AB.cnd rfl (fun h3 => ?_) (fun h3 => ?_)
  · replace hr := iteT hr h3
    refine zq <| wS (v := (.agg [(eI .i64 0), (.row (some true) 1 []), (eI .i64 0), (eI .i64 0)])) (sv (d_build rfl (bldS ti51 pl51 rfl))) <| wN (h' := [some ⟨51, [(eI .i64 0), (.row (some true) 1 []), (eI .i64 0), (eI .i64 0)]⟩, some ⟨51, [(eI .i64 (IntKind.i64.wrap x8)), (.row (some true) 1 []), (eI .i64 0), (eI .i64 0)]⟩]) (sv (d_store rfl rfl (stP ti51 rfl rfl rfl zl rfl))) <| wS (v := (.row (some true) 1 [])) (sv (d_assign rfl)) <| wS (v := (eI .i64 80)) (sv (d_assign rfl)) <| zn <| AB.ret <| Ex.then_ret_mk ?_
    obtain rfl := Option.some.inj hr
    exact done_ret (r1 := (.tup [(.agg [(eI .i64 0), (.row (some true) 1 []), (eI .i64 0), (eI .i64 0)]), (.row (some true) 1 []), (eI .i64 80)])) (res3 Tryd.results19 (rvC rfl (ldP rfl (partN (ds := [(eI .i64 0), (.row (some true) 1 []), (eI .i64 0), (eI .i64 0)]) ti51 rfl zl rfl))) (rvT rfl) (rvT rfl)) (Ghost.trans (Ghost.virt (fr' := [(0, (.tup [(.agg [(eI .i64 0), (.sl 2 0 0 1 false), (eI .i64 0), (eI .i64 0)]), (.row (some true) 1 []), (eI .i64 80)]))]) (h1 := [some ⟨51, [(eI .i64 0), (.row (some true) 1 []), (eI .i64 0), (eI .i64 0)]⟩, some ⟨51, [(eI .i64 (IntKind.i64.wrap x8)), (.row (some true) 1 []), (eI .i64 0), (eI .i64 0)]⟩]) 5 (FLe.le rfl (V.le_tup (V.les_cons (V.le_agg (V.les_cons (V.le_refl _ _) (V.les_cons (V.le_virt rfl) (V.les_cons (V.le_refl _ _) (V.les_cons (V.le_refl _ _) V.les_nil))))) (V.les_cons (V.le_refl _ _) (V.les_cons (V.le_refl _ _) V.les_nil)))) FLe.nil) (HLv.live (V.les_refl _ _) rfl (HLv.live (V.les_refl _ _) rfl HLv.nil))) (Ghost.rn [2] rfl rfl (FLe.le rfl (V.le_tup (V.les_cons (V.le_agg (V.les_cons (V.le_refl _ _) (V.les_cons (by first | exact V.le_refl _ _ | (simp only [len_set, len_cpy]; exact V.le_refl _ _)) (V.les_cons (V.le_refl _ _) (V.les_cons (V.le_refl _ _) V.les_nil))))) (V.les_cons V.le_nil (V.les_cons (V.le_refl _ _) V.les_nil)))) FLe.nil) (HLe.live rfl V.les_nil rfl HLe.nil) rfl))
  · replace hr := iteF hr h3
    refine AB.skip <| Ex.then_mk <| AB.seq ?_
    replace hr := bnd hr; obtain ⟨x18, h_4, hr⟩ := hr
    refine AB.rw <| zm rfl <| wS (v := (.row none 1 (x18.map (eI .u8)))) (sv (d_slice rfl rfl rfl (slR ti22 ti5 rfl rfl h_4))) <| za rfl <| zn ?_
    refine AB.seq_g fun K1 hK1 hG1 => ?_
    have J1 : ∀ (b_1 : List Int) (c1 : Int) (c1_1 : Int) (l2 : List Int), script_next_J1 N x8 b_1 c1 c1_1 l2 = some r → K1 (mkF 78 [(0, (.row none 1 (b_1.map (eI .u8)))), (2, (.ptr 0 0)), (5, (.ptr 1 0))]) [some ⟨51, [(eI .i64 0), (.row (some true) 1 []), (eI .i64 0), (eI .i64 0)]⟩, some ⟨51, [(eI .i64 (IntKind.i64.wrap x8)), (.sl 2 0 l2.length 1 false), (eI .i64 c1), (eI .i64 c1_1)]⟩, some ⟨5, l2.map (eI .u8)⟩] := by
      intro b_1 c1 c1_1 l2 hr
      unfold script_next_J1 at hr
      refine hK1 _ _ <| zq <| wS (v := (.agg [(eI .i64 (IntKind.i64.wrap x8)), (.sl 2 0 l2.length 1 false), (eI .i64 c1), (eI .i64 c1_1)])) (sv (d_load rfl (ldP rfl (partN (ds := [(eI .i64 (IntKind.i64.wrap x8)), (.sl 2 0 l2.length 1 false), (eI .i64 c1), (eI .i64 c1_1)]) ti51 rfl zl rfl)))) <| zm rfl <| wN (h' := [some ⟨51, [(eI .i64 (IntKind.i64.wrap x8)), (.sl 2 0 l2.length 1 false), (eI .i64 c1), (eI .i64 c1_1)]⟩, some ⟨51, [(eI .i64 (IntKind.i64.wrap x8)), (.sl 2 0 l2.length 1 false), (eI .i64 c1), (eI .i64 c1_1)]⟩, some ⟨5, l2.map (eI .u8)⟩]) (sv (d_store rfl rfl (stP ti51 rfl rfl rfl zl rfl))) ?_
      refine za rfl <| wS (v := (eI .i64 0)) (sv (d_assign rfl)) <| zn <| AB.ret ?_
      obtain rfl := Option.some.inj hr
      exact done_ret (r1 := (.tup [(.agg [(eI .i64 (IntKind.i64.wrap x8)), (.sl 2 0 l2.length 1 false), (eI .i64 c1), (eI .i64 c1_1)]), (.row none 1 (b_1.map (eI .u8))), (eI .i64 0)])) (res3 Tryd.results19 (rvC rfl (ldP rfl (partN (ds := [(eI .i64 (IntKind.i64.wrap x8)), (.sl 2 0 l2.length 1 false), (eI .i64 c1), (eI .i64 c1_1)]) ti51 rfl zl rfl))) (rvT rfl) (rvT rfl)) (zG [2])
    refine zq <| wS (v := (.ptr 1 0)) (sv (d_fa rfl (fap51_0 ..))) <| wS (v := (eI .i64 (IntKind.i64.wrap x8))) (sv (d_load rfl (ldP rfl (part1 ti3 rfl rfl)))) <| zn <| AB.block <| zq <| wS (v := (eB ((IntKind.i64.wrap x8) == 1))) (sv (d_bin rfl rfl (bin_eql ..))) <| za rfl <| zn ?_
    refine AB.cnd rfl (fun h5 => ?_) (fun h5 => ?_)
    · replace hr := iteT hr h5
      refine AB.seq ?_
      refine AB.seq_g fun K2 hK2 hG2 => ?_
      have J2 : ∀ (x35 : Bool), script_next_J2 N x8 x18 x35 = some r → K2 (mkF 78 [(0, (.row none 1 (x18.map (eI .u8)))), (2, (.ptr 0 0)), (5, (.ptr 1 0)), (35, (eB x35))]) [some ⟨51, [(eI .i64 0), (.row (some true) 1 []), (eI .i64 0), (eI .i64 0)]⟩, some ⟨51, [(eI .i64 (IntKind.i64.wrap x8)), (.row (some true) 1 []), (eI .i64 0), (eI .i64 0)]⟩] := by
        intro x35 hr
        unfold script_next_J2 at hr
        refine hK2 _ _ ?_
        refine AB.cnd rfl (fun h6 => ?_) (fun h6 => ?_)
        · replace hr := iteT hr h6
          refine zq <| wS (v := (.agg [(eI .i64 0), (.row (some true) 1 []), (eI .i64 0), (eI .i64 0)])) (sv (d_build rfl (bldS ti51 pl51 rfl))) <| wN (h' := [some ⟨51, [(eI .i64 0), (.row (some true) 1 []), (eI .i64 0), (eI .i64 0)]⟩, some ⟨51, [(eI .i64 (IntKind.i64.wrap x8)), (.row (some true) 1 []), (eI .i64 0), (eI .i64 0)]⟩]) (sv (d_store rfl rfl (stP ti51 rfl rfl rfl zl rfl))) <| wS (v := (.row (some true) 1 [])) (sv (d_assign rfl)) <| wS (v := (eI .i64 1)) (sv (d_assign rfl)) <| zn <| AB.ret <| Ex.then_ret_mk <| Ex.inBlock_ret_mk <| Ex.then_ret_mk ?_
          obtain rfl := Option.some.inj hr
          exact done_ret (r1 := (.tup [(.agg [(eI .i64 0), (.row (some true) 1 []), (eI .i64 0), (eI .i64 0)]), (.row (some true) 1 []), (eI .i64 1)])) (res3 Tryd.results19 (rvC rfl (ldP rfl (partN (ds := [(eI .i64 0), (.row (some true) 1 []), (eI .i64 0), (eI .i64 0)]) ti51 rfl zl rfl))) (rvT rfl) (rvT rfl)) (Ghost.trans (Ghost.virt (fr' := [(0, (.tup [(.agg [(eI .i64 0), (.sl 2 0 0 1 false), (eI .i64 0), (eI .i64 0)]), (.row (some true) 1 []), (eI .i64 1)]))]) (h1 := [some ⟨51, [(eI .i64 0), (.row (some true) 1 []), (eI .i64 0), (eI .i64 0)]⟩, some ⟨51, [(eI .i64 (IntKind.i64.wrap x8)), (.row (some true) 1 []), (eI .i64 0), (eI .i64 0)]⟩]) 5 (FLe.le rfl (V.le_tup (V.les_cons (V.le_agg (V.les_cons (V.le_refl _ _) (V.les_cons (V.le_virt rfl) (V.les_cons (V.le_refl _ _) (V.les_cons (V.le_refl _ _) V.les_nil))))) (V.les_cons (V.le_refl _ _) (V.les_cons (V.le_refl _ _) V.les_nil)))) FLe.nil) (HLv.live (V.les_refl _ _) rfl (HLv.live (V.les_refl _ _) rfl HLv.nil))) (Ghost.rn [2] rfl rfl (FLe.le rfl (V.le_tup (V.les_cons (V.le_agg (V.les_cons (V.le_refl _ _) (V.les_cons (by first | exact V.le_refl _ _ | (simp only [len_set, len_cpy]; exact V.le_refl _ _)) (V.les_cons (V.le_refl _ _) (V.les_cons (V.le_refl _ _) V.les_nil))))) (V.les_cons V.le_nil (V.les_cons (V.le_refl _ _) V.les_nil)))) FLe.nil) (HLe.live rfl V.les_nil rfl HLe.nil) rfl))
        · replace hr := iteF hr h6
          refine AB.skip <| Ex.then_mk <| AB.seq ?_
          replace hr := bnd hr; obtain ⟨x38, h_7, hr⟩ := hr
          refine AB.rw <| zm rfl <| wS (sv (d_ia rfl rfl (iaR ti22 ti5 h_7))) <| wS (v := (eI .u8 x38)) (sv (d_load rfl (ldR h_7 (part1 ti5 rfl rfl)))) <| wS (sv (d_conv rfl (conv_int _ ⟨_, ti5⟩ ti3 rfl))) <| wS (v := (eI .i64 (IntKind.i64.wrap (1 + (IntKind.i64.wrap x38))))) (sv (d_bin rfl rfl (bin_add ..))) <| za rfl <| zn ?_
          replace hr := bnd hr; obtain ⟨x44, h_8, hr⟩ := hr
          replace hr := bnd hr; obtain ⟨x46, h_9, hr⟩ := hr
          replace hr := bnd hr; obtain ⟨x49, h_11, hr⟩ := hr
          refine AB.rd (memF []) (memF [20]) mixed <| DrawG.pick (n := 10) (i := 0) (by decide +kernel) rfl (gS (v := (.row none 1 (x18.map (eI .u8)))) (sv (d_move rfl))) <| DrawG.pick (n := 9) (i := 1) (by decide +kernel) rfl (gS (v := (eI .i64 (IntKind.i64.wrap (1 + (IntKind.i64.wrap x38))))) (sv (d_move rfl))) <| DrawG.pick (n := 8) (i := 2) (by decide +kernel) rfl (gS (v := (.row none 1 (x44.map (eI .u8)))) (sv (d_slice rfl rfl rfl (slR ti22 ti5 rfl rfl h_8)))) ?_
          refine DrawG.pick (n := 7) (i := 3) (by decide +kernel) rfl (gS (v := (.sl 2 0 1 1 false)) (h' := [some ⟨51, [(eI .i64 0), (.row (some true) 1 []), (eI .i64 0), (eI .i64 0)]⟩, some ⟨51, [(eI .i64 (IntKind.i64.wrap x8)), (.row (some true) 1 []), (eI .i64 0), (eI .i64 0)]⟩, some ⟨22, [x44].map (eL 1 (eI .u8))⟩]) (sv (d_buildS rfl (bldL1 (xs := [x44].map (eL 1 (eI .u8))) ti23 ti22 zl zl rfl rfl rfl rfl rfl rfl rfl)))) ?_
          refine DrawG.pick (n := 6) (i := 4) (by decide +kernel) rfl (gC (v := (.sl 3 0 x46.length 1 false)) (h' := [some ⟨51, [(eI .i64 0), (.row (some true) 1 []), (eI .i64 0), (eI .i64 0)]⟩, some ⟨51, [(eI .i64 (IntKind.i64.wrap x8)), (.row (some true) 1 []), (eI .i64 0), (eI .i64 0)]⟩, some ⟨22, [x44].map (eL 1 (eI .u8))⟩, some ⟨5, x46.map (eI .u8)⟩]) (zL (script_row_ok N [x44] x46 h_9) [] [2]) rfl (fun _ => ⟨_, rfl⟩) (sv (d_call rfl orc1_hit))) <| DrawG.pick (n := 5) (i := 5) (by decide +kernel) rfl (gS (v := (.row none 1 (x18.map (eI .u8)))) (sv (d_move rfl))) ?_
          refine DrawG.pick (n := 4) (i := 6) (by decide +kernel) rfl (gS (v := (eI .i64 (IntKind.i64.wrap (1 + (IntKind.i64.wrap x38))))) (sv (d_move rfl))) <| DrawG.pick (n := 3) (i := 8) (by decide +kernel) rfl (gS (v := (.ptr 1 1)) (sv (d_fa rfl (fap51_1 ..)))) <| DrawG.fork (n := 2) [7, 9] (by decide +kernel) (by decide) ?_
          refine (Fork.cons rfl (gS (v := (.row none 1 (x49.map (eI .u8)))) (sv (d_slice rfl rfl rfl (slR ti22 ti5 rfl rfl h_11)))) ?_ (Fork.cons rfl (gN (h' := [some ⟨51, [(eI .i64 0), (.row (some true) 1 []), (eI .i64 0), (eI .i64 0)]⟩, some ⟨51, [(eI .i64 (IntKind.i64.wrap x8)), (.sl 3 0 x46.length 1 false), (eI .i64 0), (eI .i64 0)]⟩, some ⟨22, [x44].map (eL 1 (eI .u8))⟩, some ⟨5, x46.map (eI .u8)⟩]) (sv (d_store rfl rfl (stP ti22 rfl rfl rfl zl rfl)))) ?_ Fork.nil))
          · refine DrawG.pick (n := 1) (i := 9) (by decide +kernel) rfl (gN (h' := [some ⟨51, [(eI .i64 0), (.row (some true) 1 []), (eI .i64 0), (eI .i64 0)]⟩, some ⟨51, [(eI .i64 (IntKind.i64.wrap x8)), (.sl 3 0 x46.length 1 false), (eI .i64 0), (eI .i64 0)]⟩, some ⟨22, [x44].map (eL 1 (eI .u8))⟩, some ⟨5, x46.map (eI .u8)⟩]) (sv (d_store rfl rfl (stP ti22 rfl rfl rfl zl rfl)))) <| DrawG.pick (n := 0) (i := 10) (by decide +kernel) rfl (gS (v := (.row none 1 (x49.map (eI .u8)))) (sv (d_assign rfl))) <| DrawG.nil (by decide +kernel) <| Ex.inBlock_mk <| Ex.then_mk ?_
            exact hG1 _ _ _ _ (zG [0, 1, 3]) (J1 x49 0 0 x46 hr)
          · refine DrawG.pick (n := 1) (i := 7) (by decide +kernel) rfl (gS (v := (.row none 1 (x49.map (eI .u8)))) (sv (d_slice rfl rfl rfl (slR ti22 ti5 rfl rfl h_11)))) <| DrawG.pick (n := 0) (i := 10) (by decide +kernel) rfl (gS (v := (.row none 1 (x49.map (eI .u8)))) (sv (d_assign rfl))) <| DrawG.nil (by decide +kernel) <| Ex.inBlock_mk <| Ex.then_mk ?_
            exact hG1 _ _ _ _ (zG [0, 1, 3]) (J1 x49 0 0 x46 hr)
      rcases Bool.eq_false_or_eq_true ((x18.length : Int) == 0) with h12 | h12
      · replace hr := iteT hr h12
        refine AB.rw <| zm rfl <| wS (v := (eI .i64 (x18.length : Int))) (sv (d_len rfl (lenR ti22))) <| wS (v := (eB ((x18.length : Int) == 0))) (sv (d_bin rfl rfl (bin_eql ..))) <| zm rfl <| wS (svX rfl rfl h12) <| wS (svX rfl rfl h12) <| wS (svX rfl rfl h12) <| wS (svX rfl rfl h12) <| wS (svX rfl rfl h12) <| wS (svX rfl rfl h12) <| wS (svX rfl rfl h12) <| wS (svX rfl rfl h12) <| wS (v := (eB true)) (sv (d_pickT rfl h12 rfl)) <| zn ?_
        exact hG2 _ _ _ _ (zG [0, 1]) (J2 true hr)
      · replace hr := iteF hr h12
        replace hr := bnd hr; obtain ⟨x31, h_13, hr⟩ := hr
        refine AB.rw <| zm rfl <| wS (v := (eI .i64 (x18.length : Int))) (sv (d_len rfl (lenR ti22))) <| wS (v := (eB ((x18.length : Int) == 0))) (sv (d_bin rfl rfl (bin_eql ..))) <| zm rfl <| wS (svG rfl rfl h12 (d_move rfl)) <| wS (v := (eI .i64 (x18.length : Int))) (svG rfl rfl h12 (d_len rfl (lenR ti22))) <| wS (v := (eI .i64 (IntKind.i64.wrap ((x18.length : Int) - 1)))) (svG rfl rfl h12 (d_bin rfl rfl (bin_sub ..))) <| wS (svG rfl rfl h12 (d_move rfl)) <| wS (svG rfl rfl h12 (d_ia rfl rfl (iaR ti22 ti5 h_13))) <| wS (v := (eI .u8 x31)) (svG rfl rfl h12 (d_load rfl (ldR h_13 (part1 ti5 rfl rfl)))) ?_
        refine wS (svG rfl rfl h12 (d_conv rfl (conv_int _ ⟨_, ti5⟩ ti3 rfl))) <| wS (svG rfl rfl h12 (d_bin rfl rfl (bin_lss ..))) <| wS (v := (eB (decide ((IntKind.i64.wrap ((x18.length : Int) - 1)) < (IntKind.i64.wrap x31))))) (sv (d_pickF rfl h12 rfl)) <| zn ?_
        exact hG2 _ _ _ _ (zG [0, 1]) (J2 (decide ((IntKind.i64.wrap ((x18.length : Int) - 1)) < (IntKind.i64.wrap x31))) hr)
    · replace hr := iteF hr h5
      refine zq <| wS (v := (eB ((IntKind.i64.wrap x8) == 11))) (sv (d_bin rfl rfl (bin_eql ..))) <| za rfl <| zn ?_
      refine AB.cnd rfl (fun h14 => ?_) (fun h14 => ?_)
      · replace hr := iteT hr h14
        refine AB.seq <| zq <| zm rfl <| wS (v := (eI .i64 (x18.length : Int))) (sv (d_len rfl (lenR ti22))) <| wS (v := (eB (decide ((x18.length : Int) < 2)))) (sv (d_bin rfl rfl (bin_lss ..))) <| zn ?_
        refine AB.cnd rfl (fun h15 => ?_) (fun h15 => ?_)
        · replace hr := iteT hr h15
          refine zq <| wS (v := (.agg [(eI .i64 0), (.row (some true) 1 []), (eI .i64 0), (eI .i64 0)])) (sv (d_build rfl (bldS ti51 pl51 rfl))) <| wN (h' := [some ⟨51, [(eI .i64 0), (.row (some true) 1 []), (eI .i64 0), (eI .i64 0)]⟩, some ⟨51, [(eI .i64 (IntKind.i64.wrap x8)), (.row (some true) 1 []), (eI .i64 0), (eI .i64 0)]⟩]) (sv (d_store rfl rfl (stP ti51 rfl rfl rfl zl rfl))) <| wS (v := (.row (some true) 1 [])) (sv (d_assign rfl)) <| wS (v := (eI .i64 1)) (sv (d_assign rfl)) <| zn <| AB.ret <| Ex.then_ret_mk <| Ex.inBlock_ret_mk <| Ex.then_ret_mk ?_
          obtain rfl := Option.some.inj hr
          exact done_ret (r1 := (.tup [(.agg [(eI .i64 0), (.row (some true) 1 []), (eI .i64 0), (eI .i64 0)]), (.row (some true) 1 []), (eI .i64 1)])) (res3 Tryd.results19 (rvC rfl (ldP rfl (partN (ds := [(eI .i64 0), (.row (some true) 1 []), (eI .i64 0), (eI .i64 0)]) ti51 rfl zl rfl))) (rvT rfl) (rvT rfl)) (Ghost.trans (Ghost.virt (fr' := [(0, (.tup [(.agg [(eI .i64 0), (.sl 2 0 0 1 false), (eI .i64 0), (eI .i64 0)]), (.row (some true) 1 []), (eI .i64 1)]))]) (h1 := [some ⟨51, [(eI .i64 0), (.row (some true) 1 []), (eI .i64 0), (eI .i64 0)]⟩, some ⟨51, [(eI .i64 (IntKind.i64.wrap x8)), (.row (some true) 1 []), (eI .i64 0), (eI .i64 0)]⟩]) 5 (FLe.le rfl (V.le_tup (V.les_cons (V.le_agg (V.les_cons (V.le_refl _ _) (V.les_cons (V.le_virt rfl) (V.les_cons (V.le_refl _ _) (V.les_cons (V.le_refl _ _) V.les_nil))))) (V.les_cons (V.le_refl _ _) (V.les_cons (V.le_refl _ _) V.les_nil)))) FLe.nil) (HLv.live (V.les_refl _ _) rfl (HLv.live (V.les_refl _ _) rfl HLv.nil))) (Ghost.rn [2] rfl rfl (FLe.le rfl (V.le_tup (V.les_cons (V.le_agg (V.les_cons (V.le_refl _ _) (V.les_cons (by first | exact V.le_refl _ _ | (simp only [len_set, len_cpy]; exact V.le_refl _ _)) (V.les_cons (V.le_refl _ _) (V.les_cons (V.le_refl _ _) V.les_nil))))) (V.les_cons V.le_nil (V.les_cons (V.le_refl _ _) V.les_nil)))) FLe.nil) (HLe.live rfl V.les_nil rfl HLe.nil) rfl))
        · replace hr := iteF hr h15
          refine AB.skip <| Ex.then_mk ?_
          refine AB.seq_g fun K3 hK3 hG3 => ?_
          have J3 : ∀ (b_2 : List Int) (c1_2 : Int) (c1_3 : Int), script_next_J3 N x8 b_2 c1_2 c1_3 = some r → K3 (mkF 78 [(0, (.row none 1 (b_2.map (eI .u8)))), (2, (.ptr 0 0)), (5, (.ptr 1 0))]) [some ⟨51, [(eI .i64 0), (.row (some true) 1 []), (eI .i64 0), (eI .i64 0)]⟩, some ⟨51, [(eI .i64 (IntKind.i64.wrap x8)), (.row (some true) 1 []), (eI .i64 c1_2), (eI .i64 c1_3)]⟩] := by
            intro b_2 c1_2 c1_3 hr
            unfold script_next_J3 at hr
            refine hK3 _ _ <| AB.seq ?_
            replace hr := bnd hr; obtain ⟨x73, h_16, hr⟩ := hr
            refine AB.rw <| wS (v := (.ptr 1 2)) (sv (d_fa rfl (fap51_2 ..))) <| wS (v := (eI .i64 c1_2)) (sv (d_load rfl (ldP rfl (part1 ti3 rfl rfl)))) <| wS (v := (.ptr 1 3)) (sv (d_fa rfl (fap51_3 ..))) <| wS (v := (eI .i64 c1_3)) (sv (d_load rfl (ldP rfl (part1 ti3 rfl rfl)))) <| wC rfl (Vm.Fn.pure (script_inRange_ok N c1_2 c1_3 x73 h_16) rfl rfl) <| wS (sv (d_un rfl (un_not _ _))) <| zn ?_
            refine AB.cnd rfl (fun h17 => ?_) (fun h17 => ?_)
            · replace hr := iteT hr h17
              refine zq <| wS (v := (.agg [(eI .i64 0), (.row (some true) 1 []), (eI .i64 0), (eI .i64 0)])) (sv (d_build rfl (bldS ti51 pl51 rfl))) <| wN (h' := [some ⟨51, [(eI .i64 0), (.row (some true) 1 []), (eI .i64 0), (eI .i64 0)]⟩, some ⟨51, [(eI .i64 (IntKind.i64.wrap x8)), (.row (some true) 1 []), (eI .i64 c1_2), (eI .i64 c1_3)]⟩]) (sv (d_store rfl rfl (stP ti51 rfl rfl rfl zl rfl))) <| wS (v := (.row (some true) 1 [])) (sv (d_assign rfl)) <| wS (v := (eI .i64 5)) (sv (d_assign rfl)) <| zn <| AB.ret <| Ex.inBlock_ret_mk <| Ex.then_ret_mk ?_
              obtain rfl := Option.some.inj hr
              exact done_ret (r1 := (.tup [(.agg [(eI .i64 0), (.row (some true) 1 []), (eI .i64 0), (eI .i64 0)]), (.row (some true) 1 []), (eI .i64 5)])) (res3 Tryd.results19 (rvC rfl (ldP rfl (partN (ds := [(eI .i64 0), (.row (some true) 1 []), (eI .i64 0), (eI .i64 0)]) ti51 rfl zl rfl))) (rvT rfl) (rvT rfl)) (Ghost.trans (Ghost.virt (fr' := [(0, (.tup [(.agg [(eI .i64 0), (.sl 2 0 0 1 false), (eI .i64 0), (eI .i64 0)]), (.row (some true) 1 []), (eI .i64 5)]))]) (h1 := [some ⟨51, [(eI .i64 0), (.row (some true) 1 []), (eI .i64 0), (eI .i64 0)]⟩, some ⟨51, [(eI .i64 (IntKind.i64.wrap x8)), (.row (some true) 1 []), (eI .i64 c1_2), (eI .i64 c1_3)]⟩]) 5 (FLe.le rfl (V.le_tup (V.les_cons (V.le_agg (V.les_cons (V.le_refl _ _) (V.les_cons (V.le_virt rfl) (V.les_cons (V.le_refl _ _) (V.les_cons (V.le_refl _ _) V.les_nil))))) (V.les_cons (V.le_refl _ _) (V.les_cons (V.le_refl _ _) V.les_nil)))) FLe.nil) (HLv.live (V.les_refl _ _) rfl (HLv.live (V.les_refl _ _) rfl HLv.nil))) (Ghost.rn [2] rfl rfl (FLe.le rfl (V.le_tup (V.les_cons (V.le_agg (V.les_cons (V.le_refl _ _) (V.les_cons (by first | exact V.le_refl _ _ | (simp only [len_set, len_cpy]; exact V.le_refl _ _)) (V.les_cons (V.le_refl _ _) (V.les_cons (V.le_refl _ _) V.les_nil))))) (V.les_cons V.le_nil (V.les_cons (V.le_refl _ _) V.les_nil)))) FLe.nil) (HLe.live rfl V.les_nil rfl HLe.nil) rfl))
            · replace hr := iteF hr h17
              refine AB.skip <| Ex.inBlock_mk <| Ex.then_mk ?_
              exact hG1 _ _ _ _ (Ghost.trans (Ghost.virt (fr' := [(0, (.row none 1 (b_2.map (eI .u8)))), (2, (.ptr 0 0)), (5, (.ptr 1 0))]) (h1 := [some ⟨51, [(eI .i64 0), (.row (some true) 1 []), (eI .i64 0), (eI .i64 0)]⟩, some ⟨51, [(eI .i64 (IntKind.i64.wrap x8)), (.sl 2 0 0 1 false), (eI .i64 c1_2), (eI .i64 c1_3)]⟩]) 5 (FLe.same rfl (FLe.same rfl (FLe.same rfl FLe.nil))) (HLv.live (V.les_refl _ _) rfl (HLv.live (V.les_cons (V.le_refl _ _) (V.les_cons (V.le_virt rfl) (V.les_cons (V.le_refl _ _) (V.les_cons (V.le_refl _ _) V.les_nil)))) rfl HLv.nil))) (Ghost.rn [0, 1, 2] rfl rfl (FLe.same rfl (FLe.same rfl (FLe.same rfl FLe.nil))) (HLe.live rfl (V.les_refl _ _) rfl (HLe.live rfl (V.les_cons (V.le_refl _ _) (V.les_cons (by first | exact V.le_refl _ _ | (simp only [len_set, len_cpy]; exact V.le_refl _ _)) (V.les_cons (V.le_refl _ _) (V.les_cons (V.le_refl _ _) V.les_nil)))) rfl (HLe.live rfl V.les_nil rfl HLe.nil))) rfl)) (J1 b_2 c1_2 c1_3 [] hr)
          replace hr := bnd hr; obtain ⟨x58, h_18, hr⟩ := hr
          replace hr := bnd hr; obtain ⟨x62, h_19, hr⟩ := hr
          replace hr := bnd hr; obtain ⟨x66, h_20, hr⟩ := hr
          refine AB.rd (memF []) (memF []) mixed <| DrawG.pick (n := 14) (i := 0) (by decide +kernel) rfl (gS (v := (.row none 1 (x18.map (eI .u8)))) (sv (d_move rfl))) <| DrawG.pick (n := 13) (i := 1) (by decide +kernel) rfl (gS (sv (d_ia rfl rfl (iaR ti22 ti5 h_18)))) <| DrawG.pick (n := 12) (i := 2) (by decide +kernel) rfl (gS (v := (eI .u8 x58)) (sv (d_load rfl (ldR h_18 (part1 ti5 rfl rfl))))) <| DrawG.pick (n := 11) (i := 3) (by decide +kernel) rfl (gS (v := (eI .i64 (IntKind.i64.wrap x58))) (sv (d_conv rfl (conv_int _ ⟨_, ti5⟩ ti3 rfl)))) ?_
          refine DrawG.pick (n := 10) (i := 4) (by decide +kernel) rfl (gS (v := (.row none 1 (x18.map (eI .u8)))) (sv (d_move rfl))) <| DrawG.pick (n := 9) (i := 5) (by decide +kernel) rfl (gS (sv (d_ia rfl rfl (iaR ti22 ti5 h_19)))) <| DrawG.pick (n := 8) (i := 8) (by decide +kernel) rfl (gS (v := (.row none 1 (x18.map (eI .u8)))) (sv (d_move rfl))) <| DrawG.pick (n := 7) (i := 10) (by decide +kernel) rfl (gS (v := (.ptr 1 2)) (sv (d_fa rfl (fap51_2 ..)))) <| DrawG.fork (n := 6) [6, 9, 11] (by decide +kernel) (by decide) ?_
          refine (Fork.cons rfl (gS (v := (eI .u8 x62)) (sv (d_load rfl (ldR h_19 (part1 ti5 rfl rfl))))) ?_ (Fork.cons rfl (gS (v := (.row none 1 (x66.map (eI .u8)))) (sv (d_slice rfl rfl rfl (slR ti22 ti5 rfl rfl h_20)))) ?_ (Fork.cons rfl (gN (h' := [some ⟨51, [(eI .i64 0), (.row (some true) 1 []), (eI .i64 0), (eI .i64 0)]⟩, some ⟨51, [(eI .i64 (IntKind.i64.wrap x8)), (.row (some true) 1 []), (eI .i64 (IntKind.i64.wrap x58)), (eI .i64 0)]⟩]) (sv (d_store rfl rfl (stP ti3 rfl rfl rfl zl rfl)))) ?_ Fork.nil)))
          · refine DrawG.fork (n := 5) [7, 9, 11] (by decide +kernel) (by decide) ?_
            refine (Fork.cons rfl (gS (v := (eI .i64 (IntKind.i64.wrap x62))) (sv (d_conv rfl (conv_int _ ⟨_, ti5⟩ ti3 rfl)))) ?_ (Fork.cons rfl (gS (v := (.row none 1 (x66.map (eI .u8)))) (sv (d_slice rfl rfl rfl (slR ti22 ti5 rfl rfl h_20)))) ?_ (Fork.cons rfl (gN (h' := [some ⟨51, [(eI .i64 0), (.row (some true) 1 []), (eI .i64 0), (eI .i64 0)]⟩, some ⟨51, [(eI .i64 (IntKind.i64.wrap x8)), (.row (some true) 1 []), (eI .i64 (IntKind.i64.wrap x58)), (eI .i64 0)]⟩]) (sv (d_store rfl rfl (stP ti3 rfl rfl rfl zl rfl)))) ?_ Fork.nil)))
            · refine DrawG.fork (n := 4) [9, 11] (by decide +kernel) (by decide) ?_
              refine (Fork.cons rfl (gS (v := (.row none 1 (x66.map (eI .u8)))) (sv (d_slice rfl rfl rfl (slR ti22 ti5 rfl rfl h_20)))) ?_ (Fork.cons rfl (gN (h' := [some ⟨51, [(eI .i64 0), (.row (some true) 1 []), (eI .i64 0), (eI .i64 0)]⟩, some ⟨51, [(eI .i64 (IntKind.i64.wrap x8)), (.row (some true) 1 []), (eI .i64 (IntKind.i64.wrap x58)), (eI .i64 0)]⟩]) (sv (d_store rfl rfl (stP ti3 rfl rfl rfl zl rfl)))) ?_ Fork.nil))
              · refine DrawG.pick (n := 3) (i := 11) (by decide +kernel) rfl (gN (h' := [some ⟨51, [(eI .i64 0), (.row (some true) 1 []), (eI .i64 0), (eI .i64 0)]⟩, some ⟨51, [(eI .i64 (IntKind.i64.wrap x8)), (.row (some true) 1 []), (eI .i64 (IntKind.i64.wrap x58)), (eI .i64 0)]⟩]) (sv (d_store rfl rfl (stP ti3 rfl rfl rfl zl rfl)))) <| DrawG.pick (n := 2) (i := 12) (by decide +kernel) rfl (gS (v := (.ptr 1 3)) (sv (d_fa rfl (fap51_3 ..)))) ?_
                refine DrawG.pick (n := 1) (i := 13) (by decide +kernel) rfl (gN (h' := [some ⟨51, [(eI .i64 0), (.row (some true) 1 []), (eI .i64 0), (eI .i64 0)]⟩, some ⟨51, [(eI .i64 (IntKind.i64.wrap x8)), (.row (some true) 1 []), (eI .i64 (IntKind.i64.wrap x58)), (eI .i64 (IntKind.i64.wrap x62))]⟩]) (sv (d_store rfl rfl (stP ti3 rfl rfl rfl zl rfl)))) <| DrawG.pick (n := 0) (i := 14) (by decide +kernel) rfl (gS (v := (.row none 1 (x66.map (eI .u8)))) (sv (d_assign rfl))) <| DrawG.nil (by decide +kernel) <| Ex.then_mk ?_
                exact hG3 _ _ _ _ (zG [0, 1]) (J3 x66 (IntKind.i64.wrap x58) (IntKind.i64.wrap x62) hr)
              · refine DrawG.pick (n := 3) (i := 12) (by decide +kernel) rfl (gS (v := (.ptr 1 3)) (sv (d_fa rfl (fap51_3 ..)))) <| DrawG.fork (n := 2) [9, 13] (by decide +kernel) (by decide) ?_
                refine (Fork.cons rfl (gS (v := (.row none 1 (x66.map (eI .u8)))) (sv (d_slice rfl rfl rfl (slR ti22 ti5 rfl rfl h_20)))) ?_ (Fork.cons rfl (gN (h' := [some ⟨51, [(eI .i64 0), (.row (some true) 1 []), (eI .i64 0), (eI .i64 0)]⟩, some ⟨51, [(eI .i64 (IntKind.i64.wrap x8)), (.row (some true) 1 []), (eI .i64 (IntKind.i64.wrap x58)), (eI .i64 (IntKind.i64.wrap x62))]⟩]) (sv (d_store rfl rfl (stP ti3 rfl rfl rfl zl rfl)))) ?_ Fork.nil))
                · refine DrawG.pick (n := 1) (i := 13) (by decide +kernel) rfl (gN (h' := [some ⟨51, [(eI .i64 0), (.row (some true) 1 []), (eI .i64 0), (eI .i64 0)]⟩, some ⟨51, [(eI .i64 (IntKind.i64.wrap x8)), (.row (some true) 1 []), (eI .i64 (IntKind.i64.wrap x58)), (eI .i64 (IntKind.i64.wrap x62))]⟩]) (sv (d_store rfl rfl (stP ti3 rfl rfl rfl zl rfl)))) <| DrawG.pick (n := 0) (i := 14) (by decide +kernel) rfl (gS (v := (.row none 1 (x66.map (eI .u8)))) (sv (d_assign rfl))) <| DrawG.nil (by decide +kernel) <| Ex.then_mk ?_
                  exact hG3 _ _ _ _ (zG [0, 1]) (J3 x66 (IntKind.i64.wrap x58) (IntKind.i64.wrap x62) hr)
                · refine DrawG.pick (n := 1) (i := 9) (by decide +kernel) rfl (gS (v := (.row none 1 (x66.map (eI .u8)))) (sv (d_slice rfl rfl rfl (slR ti22 ti5 rfl rfl h_20)))) <| DrawG.pick (n := 0) (i := 14) (by decide +kernel) rfl (gS (v := (.row none 1 (x66.map (eI .u8)))) (sv (d_assign rfl))) <| DrawG.nil (by decide +kernel) <| Ex.then_mk ?_
                  exact hG3 _ _ _ _ (zG [0, 1]) (J3 x66 (IntKind.i64.wrap x58) (IntKind.i64.wrap x62) hr)
            · refine DrawG.fork (n := 4) [7, 11] (by decide +kernel) (by decide) ?_
              refine (Fork.cons rfl (gS (v := (eI .i64 (IntKind.i64.wrap x62))) (sv (d_conv rfl (conv_int _ ⟨_, ti5⟩ ti3 rfl)))) ?_ (Fork.cons rfl (gN (h' := [some ⟨51, [(eI .i64 0), (.row (some true) 1 []), (eI .i64 0), (eI .i64 0)]⟩, some ⟨51, [(eI .i64 (IntKind.i64.wrap x8)), (.row (some true) 1 []), (eI .i64 (IntKind.i64.wrap x58)), (eI .i64 0)]⟩]) (sv (d_store rfl rfl (stP ti3 rfl rfl rfl zl rfl)))) ?_ Fork.nil))
              · refine DrawG.pick (n := 3) (i := 11) (by decide +kernel) rfl (gN (h' := [some ⟨51, [(eI .i64 0), (.row (some true) 1 []), (eI .i64 0), (eI .i64 0)]⟩, some ⟨51, [(eI .i64 (IntKind.i64.wrap x8)), (.row (some true) 1 []), (eI .i64 (IntKind.i64.wrap x58)), (eI .i64 0)]⟩]) (sv (d_store rfl rfl (stP ti3 rfl rfl rfl zl rfl)))) <| DrawG.pick (n := 2) (i := 12) (by decide +kernel) rfl (gS (v := (.ptr 1 3)) (sv (d_fa rfl (fap51_3 ..)))) ?_
                refine DrawG.pick (n := 1) (i := 13) (by decide +kernel) rfl (gN (h' := [some ⟨51, [(eI .i64 0), (.row (some true) 1 []), (eI .i64 0), (eI .i64 0)]⟩, some ⟨51, [(eI .i64 (IntKind.i64.wrap x8)), (.row (some true) 1 []), (eI .i64 (IntKind.i64.wrap x58)), (eI .i64 (IntKind.i64.wrap x62))]⟩]) (sv (d_store rfl rfl (stP ti3 rfl rfl rfl zl rfl)))) <| DrawG.pick (n := 0) (i := 14) (by decide +kernel) rfl (gS (v := (.row none 1 (x66.map (eI .u8)))) (sv (d_assign rfl))) <| DrawG.nil (by decide +kernel) <| Ex.then_mk ?_
                exact hG3 _ _ _ _ (zG [0, 1]) (J3 x66 (IntKind.i64.wrap x58) (IntKind.i64.wrap x62) hr)
              · refine DrawG.pick (n := 3) (i := 7) (by decide +kernel) rfl (gS (v := (eI .i64 (IntKind.i64.wrap x62))) (sv (d_conv rfl (conv_int _ ⟨_, ti5⟩ ti3 rfl)))) <| DrawG.pick (n := 2) (i := 12) (by decide +kernel) rfl (gS (v := (.ptr 1 3)) (sv (d_fa rfl (fap51_3 ..)))) <| DrawG.pick (n := 1) (i := 13) (by decide +kernel) rfl (gN (h' := [some ⟨51, [(eI .i64 0), (.row (some true) 1 []), (eI .i64 0), (eI .i64 0)]⟩, some ⟨51, [(eI .i64 (IntKind.i64.wrap x8)), (.row (some true) 1 []), (eI .i64 (IntKind.i64.wrap x58)), (eI .i64 (IntKind.i64.wrap x62))]⟩]) (sv (d_store rfl rfl (stP ti3 rfl rfl rfl zl rfl)))) ?_
                refine DrawG.pick (n := 0) (i := 14) (by decide +kernel) rfl (gS (v := (.row none 1 (x66.map (eI .u8)))) (sv (d_assign rfl))) <| DrawG.nil (by decide +kernel) <| Ex.then_mk ?_
                exact hG3 _ _ _ _ (zG [0, 1]) (J3 x66 (IntKind.i64.wrap x58) (IntKind.i64.wrap x62) hr)
            · refine DrawG.pick (n := 4) (i := 7) (by decide +kernel) rfl (gS (v := (eI .i64 (IntKind.i64.wrap x62))) (sv (d_conv rfl (conv_int _ ⟨_, ti5⟩ ti3 rfl)))) <| DrawG.pick (n := 3) (i := 12) (by decide +kernel) rfl (gS (v := (.ptr 1 3)) (sv (d_fa rfl (fap51_3 ..)))) <| DrawG.fork (n := 2) [9, 13] (by decide +kernel) (by decide) ?_
              refine (Fork.cons rfl (gS (v := (.row none 1 (x66.map (eI .u8)))) (sv (d_slice rfl rfl rfl (slR ti22 ti5 rfl rfl h_20)))) ?_ (Fork.cons rfl (gN (h' := [some ⟨51, [(eI .i64 0), (.row (some true) 1 []), (eI .i64 0), (eI .i64 0)]⟩, some ⟨51, [(eI .i64 (IntKind.i64.wrap x8)), (.row (some true) 1 []), (eI .i64 (IntKind.i64.wrap x58)), (eI .i64 (IntKind.i64.wrap x62))]⟩]) (sv (d_store rfl rfl (stP ti3 rfl rfl rfl zl rfl)))) ?_ Fork.nil))
              · refine DrawG.pick (n := 1) (i := 13) (by decide +kernel) rfl (gN (h' := [some ⟨51, [(eI .i64 0), (.row (some true) 1 []), (eI .i64 0), (eI .i64 0)]⟩, some ⟨51, [(eI .i64 (IntKind.i64.wrap x8)), (.row (some true) 1 []), (eI .i64 (IntKind.i64.wrap x58)), (eI .i64 (IntKind.i64.wrap x62))]⟩]) (sv (d_store rfl rfl (stP ti3 rfl rfl rfl zl rfl)))) <| DrawG.pick (n := 0) (i := 14) (by decide +kernel) rfl (gS (v := (.row none 1 (x66.map (eI .u8)))) (sv (d_assign rfl))) <| DrawG.nil (by decide +kernel) <| Ex.then_mk ?_
                exact hG3 _ _ _ _ (zG [0, 1]) (J3 x66 (IntKind.i64.wrap x58) (IntKind.i64.wrap x62) hr)
              · refine DrawG.pick (n := 1) (i := 9) (by decide +kernel) rfl (gS (v := (.row none 1 (x66.map (eI .u8)))) (sv (d_slice rfl rfl rfl (slR ti22 ti5 rfl rfl h_20)))) <| DrawG.pick (n := 0) (i := 14) (by decide +kernel) rfl (gS (v := (.row none 1 (x66.map (eI .u8)))) (sv (d_assign rfl))) <| DrawG.nil (by decide +kernel) <| Ex.then_mk ?_
                exact hG3 _ _ _ _ (zG [0, 1]) (J3 x66 (IntKind.i64.wrap x58) (IntKind.i64.wrap x62) hr)
          · refine DrawG.fork (n := 5) [6, 11] (by decide +kernel) (by decide) ?_
            refine (Fork.cons rfl (gS (v := (eI .u8 x62)) (sv (d_load rfl (ldR h_19 (part1 ti5 rfl rfl))))) ?_ (Fork.cons rfl (gN (h' := [some ⟨51, [(eI .i64 0), (.row (some true) 1 []), (eI .i64 0), (eI .i64 0)]⟩, some ⟨51, [(eI .i64 (IntKind.i64.wrap x8)), (.row (some true) 1 []), (eI .i64 (IntKind.i64.wrap x58)), (eI .i64 0)]⟩]) (sv (d_store rfl rfl (stP ti3 rfl rfl rfl zl rfl)))) ?_ Fork.nil))
            · refine DrawG.fork (n := 4) [7, 11] (by decide +kernel) (by decide) ?_
              refine (Fork.cons rfl (gS (v := (eI .i64 (IntKind.i64.wrap x62))) (sv (d_conv rfl (conv_int _ ⟨_, ti5⟩ ti3 rfl)))) ?_ (Fork.cons rfl (gN (h' := [some ⟨51, [(eI .i64 0), (.row (some true) 1 []), (eI .i64 0), (eI .i64 0)]⟩, some ⟨51, [(eI .i64 (IntKind.i64.wrap x8)), (.row (some true) 1 []), (eI .i64 (IntKind.i64.wrap x58)), (eI .i64 0)]⟩]) (sv (d_store rfl rfl (stP ti3 rfl rfl rfl zl rfl)))) ?_ Fork.nil))
              · refine DrawG.pick (n := 3) (i := 11) (by decide +kernel) rfl (gN (h' := [some ⟨51, [(eI .i64 0), (.row (some true) 1 []), (eI .i64 0), (eI .i64 0)]⟩, some ⟨51, [(eI .i64 (IntKind.i64.wrap x8)), (.row (some true) 1 []), (eI .i64 (IntKind.i64.wrap x58)), (eI .i64 0)]⟩]) (sv (d_store rfl rfl (stP ti3 rfl rfl rfl zl rfl)))) <| DrawG.pick (n := 2) (i := 12) (by decide +kernel) rfl (gS (v := (.ptr 1 3)) (sv (d_fa rfl (fap51_3 ..)))) ?_
                refine DrawG.pick (n := 1) (i := 13) (by decide +kernel) rfl (gN (h' := [some ⟨51, [(eI .i64 0), (.row (some true) 1 []), (eI .i64 0), (eI .i64 0)]⟩, some ⟨51, [(eI .i64 (IntKind.i64.wrap x8)), (.row (some true) 1 []), (eI .i64 (IntKind.i64.wrap x58)), (eI .i64 (IntKind.i64.wrap x62))]⟩]) (sv (d_store rfl rfl (stP ti3 rfl rfl rfl zl rfl)))) <| DrawG.pick (n := 0) (i := 14) (by decide +kernel) rfl (gS (v := (.row none 1 (x66.map (eI .u8)))) (sv (d_assign rfl))) <| DrawG.nil (by decide +kernel) <| Ex.then_mk ?_
                exact hG3 _ _ _ _ (zG [0, 1]) (J3 x66 (IntKind.i64.wrap x58) (IntKind.i64.wrap x62) hr)
              · refine DrawG.pick (n := 3) (i := 7) (by decide +kernel) rfl (gS (v := (eI .i64 (IntKind.i64.wrap x62))) (sv (d_conv rfl (conv_int _ ⟨_, ti5⟩ ti3 rfl)))) <| DrawG.pick (n := 2) (i := 12) (by decide +kernel) rfl (gS (v := (.ptr 1 3)) (sv (d_fa rfl (fap51_3 ..)))) <| DrawG.pick (n := 1) (i := 13) (by decide +kernel) rfl (gN (h' := [some ⟨51, [(eI .i64 0), (.row (some true) 1 []), (eI .i64 0), (eI .i64 0)]⟩, some ⟨51, [(eI .i64 (IntKind.i64.wrap x8)), (.row (some true) 1 []), (eI .i64 (IntKind.i64.wrap x58)), (eI .i64 (IntKind.i64.wrap x62))]⟩]) (sv (d_store rfl rfl (stP ti3 rfl rfl rfl zl rfl)))) ?_
                refine DrawG.pick (n := 0) (i := 14) (by decide +kernel) rfl (gS (v := (.row none 1 (x66.map (eI .u8)))) (sv (d_assign rfl))) <| DrawG.nil (by decide +kernel) <| Ex.then_mk ?_
                exact hG3 _ _ _ _ (zG [0, 1]) (J3 x66 (IntKind.i64.wrap x58) (IntKind.i64.wrap x62) hr)
            · refine DrawG.pick (n := 4) (i := 6) (by decide +kernel) rfl (gS (v := (eI .u8 x62)) (sv (d_load rfl (ldR h_19 (part1 ti5 rfl rfl))))) <| DrawG.pick (n := 3) (i := 7) (by decide +kernel) rfl (gS (v := (eI .i64 (IntKind.i64.wrap x62))) (sv (d_conv rfl (conv_int _ ⟨_, ti5⟩ ti3 rfl)))) <| DrawG.pick (n := 2) (i := 12) (by decide +kernel) rfl (gS (v := (.ptr 1 3)) (sv (d_fa rfl (fap51_3 ..)))) ?_
              refine DrawG.pick (n := 1) (i := 13) (by decide +kernel) rfl (gN (h' := [some ⟨51, [(eI .i64 0), (.row (some true) 1 []), (eI .i64 0), (eI .i64 0)]⟩, some ⟨51, [(eI .i64 (IntKind.i64.wrap x8)), (.row (some true) 1 []), (eI .i64 (IntKind.i64.wrap x58)), (eI .i64 (IntKind.i64.wrap x62))]⟩]) (sv (d_store rfl rfl (stP ti3 rfl rfl rfl zl rfl)))) <| DrawG.pick (n := 0) (i := 14) (by decide +kernel) rfl (gS (v := (.row none 1 (x66.map (eI .u8)))) (sv (d_assign rfl))) <| DrawG.nil (by decide +kernel) <| Ex.then_mk ?_
              exact hG3 _ _ _ _ (zG [0, 1]) (J3 x66 (IntKind.i64.wrap x58) (IntKind.i64.wrap x62) hr)
          · refine DrawG.pick (n := 5) (i := 6) (by decide +kernel) rfl (gS (v := (eI .u8 x62)) (sv (d_load rfl (ldR h_19 (part1 ti5 rfl rfl))))) <| DrawG.pick (n := 4) (i := 7) (by decide +kernel) rfl (gS (v := (eI .i64 (IntKind.i64.wrap x62))) (sv (d_conv rfl (conv_int _ ⟨_, ti5⟩ ti3 rfl)))) <| DrawG.pick (n := 3) (i := 12) (by decide +kernel) rfl (gS (v := (.ptr 1 3)) (sv (d_fa rfl (fap51_3 ..)))) <| DrawG.fork (n := 2) [9, 13] (by decide +kernel) (by decide) ?_
            refine (Fork.cons rfl (gS (v := (.row none 1 (x66.map (eI .u8)))) (sv (d_slice rfl rfl rfl (slR ti22 ti5 rfl rfl h_20)))) ?_ (Fork.cons rfl (gN (h' := [some ⟨51, [(eI .i64 0), (.row (some true) 1 []), (eI .i64 0), (eI .i64 0)]⟩, some ⟨51, [(eI .i64 (IntKind.i64.wrap x8)), (.row (some true) 1 []), (eI .i64 (IntKind.i64.wrap x58)), (eI .i64 (IntKind.i64.wrap x62))]⟩]) (sv (d_store rfl rfl (stP ti3 rfl rfl rfl zl rfl)))) ?_ Fork.nil))
            · refine DrawG.pick (n := 1) (i := 13) (by decide +kernel) rfl (gN (h' := [some ⟨51, [(eI .i64 0), (.row (some true) 1 []), (eI .i64 0), (eI .i64 0)]⟩, some ⟨51, [(eI .i64 (IntKind.i64.wrap x8)), (.row (some true) 1 []), (eI .i64 (IntKind.i64.wrap x58)), (eI .i64 (IntKind.i64.wrap x62))]⟩]) (sv (d_store rfl rfl (stP ti3 rfl rfl rfl zl rfl)))) <| DrawG.pick (n := 0) (i := 14) (by decide +kernel) rfl (gS (v := (.row none 1 (x66.map (eI .u8)))) (sv (d_assign rfl))) <| DrawG.nil (by decide +kernel) <| Ex.then_mk ?_
              exact hG3 _ _ _ _ (zG [0, 1]) (J3 x66 (IntKind.i64.wrap x58) (IntKind.i64.wrap x62) hr)
            · refine DrawG.pick (n := 1) (i := 9) (by decide +kernel) rfl (gS (v := (.row none 1 (x66.map (eI .u8)))) (sv (d_slice rfl rfl rfl (slR ti22 ti5 rfl rfl h_20)))) <| DrawG.pick (n := 0) (i := 14) (by decide +kernel) rfl (gS (v := (.row none 1 (x66.map (eI .u8)))) (sv (d_assign rfl))) <| DrawG.nil (by decide +kernel) <| Ex.then_mk ?_
              exact hG3 _ _ _ _ (zG [0, 1]) (J3 x66 (IntKind.i64.wrap x58) (IntKind.i64.wrap x62) hr)
      · replace hr := iteF hr h14
        refine AB.skip <| Ex.inBlock_mk <| Ex.then_mk ?_
        exact hG1 _ _ _ _ (Ghost.trans (Ghost.virt (fr' := [(0, (.row none 1 (x18.map (eI .u8)))), (2, (.ptr 0 0)), (5, (.ptr 1 0))]) (h1 := [some ⟨51, [(eI .i64 0), (.row (some true) 1 []), (eI .i64 0), (eI .i64 0)]⟩, some ⟨51, [(eI .i64 (IntKind.i64.wrap x8)), (.sl 2 0 0 1 false), (eI .i64 0), (eI .i64 0)]⟩]) 5 (FLe.same rfl (FLe.same rfl (FLe.same rfl FLe.nil))) (HLv.live (V.les_refl _ _) rfl (HLv.live (V.les_cons (V.le_refl _ _) (V.les_cons (V.le_virt rfl) (V.les_cons (V.le_refl _ _) (V.les_cons (V.le_refl _ _) V.les_nil)))) rfl HLv.nil))) (Ghost.rn [0, 1, 2] rfl rfl (FLe.same rfl (FLe.same rfl (FLe.same rfl FLe.nil))) (HLe.live rfl (V.les_refl _ _) rfl (HLe.live rfl (V.les_cons (V.le_refl _ _) (V.les_cons (by first | exact V.le_refl _ _ | (simp only [len_set, len_cpy]; exact V.le_refl _ _)) (V.les_cons (V.le_refl _ _) (V.les_cons (V.le_refl _ _) V.les_nil)))) rfl (HLe.live rfl V.les_nil rfl HLe.nil))) rfl)) (J1 x18 0 0 [] hr)
set_option maxRecDepth 20000 in
set_option maxHeartbeats 1000000 in
theorem script_Parse_ok (N : Nat) (b : List Int) (r : (List S_api_Op) × Int) (hr : script_Parse N b = some r) :
    Vm.Fn Tryd.prog 12 [] [(.row none 1 (b.map (eI .u8)))] (.tup [(.sl 0 0 r.1.length 4 true), (eI .i64 r.2)]) [some ⟨51, r.1.flatMap C_api_Op⟩] := by
  refine fn_ab Tryd.func12 rfl (by kernel_rfl) Tryd.ntmps12 zl rfl (fr := [(0, (.row none 1 (b.map (eI .u8))))]) rfl ?_
  unfold script_Parse at hr
  refine zq <| wS (v := (.row (some true) 1 [])) (sv (d_assign rfl)) <| wS (v := (eI .i64 0)) (sv (d_assign rfl)) <| zn <| AB.seq <| zq <| zm rfl <| wS (v := (eI .i64 (b.length : Int))) (sv (d_len rfl (lenR ti22))) <| wS (v := (eB (decide (520 < (b.length : Int))))) (sv (d_bin rfl rfl (bin_gtr ..))) <| zn ?_
  refine AB.cnd rfl (fun h1 => ?_) (fun h1 => ?_)
  · replace hr := iteT hr h1
    refine zq <| wS (v := (.row (some true) 1 [])) (sv (d_assign rfl)) <| wS (v := (eI .i64 4)) (sv (d_assign rfl)) <| zn <| AB.ret <| Ex.then_ret_mk ?_
    obtain rfl := Option.some.inj hr
    exact done_ret (r1 := (.tup [(.row (some true) 1 []), (eI .i64 4)])) (res2 Tryd.results12 (rvT rfl) (rvT rfl)) (Ghost.trans (Ghost.virt (fr' := [(0, (.tup [(.sl 0 0 0 4 true), (eI .i64 4)]))]) (h1 := []) 51 (FLe.le rfl (V.le_tup (V.les_cons (V.le_virt rfl) (V.les_cons (V.le_refl _ _) V.les_nil))) FLe.nil) HLv.nil) (Ghost.rn [0] rfl rfl (FLe.le rfl (V.le_tup (V.les_cons (by first | exact V.le_refl _ _ | (simp only [len_set, len_cpy]; exact V.le_refl _ _)) (V.les_cons (V.le_refl _ _) V.les_nil))) FLe.nil) (HLe.live rfl V.les_nil rfl HLe.nil) rfl))
  · replace hr := iteF hr h1
    refine AB.skip <| Ex.then_mk <| zq <| wS (v := (.row (some true) 1 [])) (sv (d_assign rfl)) <| zn ?_
    refine AB.seq_g fun K1 hK1 hG1 => ?_
    have J1 : ∀ (l0 : List S_api_Op), script_Parse_J1 N l0 = some r → K1 (mkF 29 [(4, (.sl 0 0 l0.length 4 true))]) [some ⟨51, l0.flatMap C_api_Op⟩] := by
      intro l0 hr
      unfold script_Parse_J1 at hr
      refine hK1 _ _ <| zq <| zm rfl <| za rfl <| wS (v := (eI .i64 0)) (sv (d_assign rfl)) <| zn <| AB.ret ?_
      obtain rfl := Option.some.inj hr
      exact done_ret (r1 := (.tup [(.sl 0 0 l0.length 4 true), (eI .i64 0)])) (res2 Tryd.results12 (rvT rfl) (rvT rfl)) (zG [0])
    replace hr := bnd hr; obtain ⟨res2, hL2, hr⟩ := hr
    refine AB.block ?_
    refine AB.loopN (fun m s h => ∃ (b_1 : List Int) (l0_1 : List S_api_Op), script_Parse_L2 N m b_1 l0_1 = some res2 ∧ Ghost 0 s h (mkF 29 [(0, (.row none 1 (b_1.map (eI .u8)))), (4, (.sl 0 0 l0_1.length 4 true))]) [some ⟨51, l0_1.flatMap C_api_Op⟩]) (n := N) ⟨b, [], hL2, (Ghost.trans (Ghost.virt (fr' := [(0, (.row none 1 (b.map (eI .u8)))), (4, (.sl 0 0 0 4 true))]) (h1 := []) 51 (FLe.same rfl (FLe.le rfl (V.le_virt rfl) FLe.nil)) HLv.nil) (Ghost.rn [0] rfl rfl (FLe.same rfl (FLe.le rfl (by first | exact V.le_refl _ _ | (simp only [len_set, len_cpy]; exact V.le_refl _ _)) FLe.nil)) (HLe.live rfl V.les_nil rfl HLe.nil) rfl))⟩ (by rintro s h ⟨_, _, h0, _⟩; simp [script_Parse_L2] at h0) ?_
    rintro m2 s h ⟨b_1, l0_1, hr2, hg⟩
    refine AB.ghost hg ?_
    clear hg hL2
    rw [script_Parse_L2] at hr2
    refine AB.seq <| zq <| zm rfl <| wS (v := (eI .i64 (b_1.length : Int))) (sv (d_len rfl (lenR ti22))) <| wS (v := (eB (decide (0 < (b_1.length : Int))))) (sv (d_bin rfl rfl (bin_gtr ..))) <| zn ?_
    refine AB.cnd rfl (fun h2 => ?_) (fun h2 => ?_)
    · replace hr2 := iteT hr2 h2
      refine AB.skip <| Ex.then_mk <| AB.block <| AB.seq ?_
      replace hr2 := bnd hr2; obtain ⟨x16, h_3, hr2⟩ := hr2
      refine AB.rw <| zm rfl <| wC (v := (.tup [(.agg [(eI .i64 x16.1), (.sl 1 0 x16.2.1.length 1 false), (eI .i64 x16.2.2.1), (eI .i64 x16.2.2.2.1)]), (.row none 1 (x16.2.2.2.2.1.map (eI .u8))), (eI .i64 x16.2.2.2.2.2)])) (h' := [some ⟨51, l0_1.flatMap C_api_Op⟩, some ⟨5, x16.2.1.map (eI .u8)⟩]) rfl (zB (script_next_ok N b_1 x16 h_3) []) <| zm rfl <| wS (v := (.agg [(eI .i64 x16.1), (.sl 1 0 x16.2.1.length 1 false), (eI .i64 x16.2.2.1), (eI .i64 x16.2.2.2.1)])) (sv (d_ext rfl rfl)) <| wS (v := (.row none 1 (x16.2.2.2.2.1.map (eI .u8)))) (sv (d_ext rfl rfl)) ?_
      refine wS (v := (eI .i64 x16.2.2.2.2.2)) (sv (d_ext rfl rfl)) <| wS (v := (.ptr 2 0)) (h' := [some ⟨51, l0_1.flatMap C_api_Op⟩, some ⟨5, x16.2.1.map (eI .u8)⟩, some ⟨51, [(eI .i64 0), (.row (some true) 1 []), (eI .i64 0), (eI .i64 0)]⟩]) (sv (d_alloc ti51 rfl rfl rfl)) <| wN (h' := [some ⟨51, l0_1.flatMap C_api_Op⟩, some ⟨5, x16.2.1.map (eI .u8)⟩, some ⟨51, [(eI .i64 x16.1), (.sl 1 0 x16.2.1.length 1 false), (eI .i64 x16.2.2.1), (eI .i64 x16.2.2.2.1)]⟩]) (sv (d_store rfl rfl (stP ti51 rfl rfl rfl zl rfl))) <| za rfl <| za rfl <| zn <| AB.seq <| zq <| zm rfl ?_
      refine wS (v := (eB (x16.2.2.2.2.2 != 0))) (sv (d_bin rfl rfl (bin_neq ..))) <| zn ?_
      refine AB.cnd rfl (fun h4 => ?_) (fun h4 => ?_)
      · replace hr2 := iteT hr2 h4
        refine zq <| zm rfl <| wS (v := (.row (some true) 1 [])) (sv (d_assign rfl)) <| za rfl <| zn <| AB.ret <| Ex.then_ret_mk <| Ex.inBlock_ret_mk <| Ex.then_ret_mk <| Ex.inBlock_ret_mk <| Ex.then_ret_mk ?_
        obtain rfl := Option.some.inj hr2
        obtain rfl := Option.some.inj hr
        exact done_ret (r1 := (.tup [(.row (some true) 1 []), (eI .i64 x16.2.2.2.2.2)])) (res2 Tryd.results12 (rvT rfl) (rvT rfl)) (Ghost.trans (Ghost.virt (fr' := [(0, (.tup [(.sl 3 0 0 4 true), (eI .i64 x16.2.2.2.2.2)]))]) (h1 := [some ⟨51, l0_1.flatMap C_api_Op⟩, some ⟨5, x16.2.1.map (eI .u8)⟩, some ⟨51, [(eI .i64 x16.1), (.sl 1 0 x16.2.1.length 1 false), (eI .i64 x16.2.2.1), (eI .i64 x16.2.2.2.1)]⟩]) 51 (FLe.le rfl (V.le_tup (V.les_cons (V.le_virt rfl) (V.les_cons (V.le_refl _ _) V.les_nil))) FLe.nil) (HLv.live (V.les_refl _ _) (all_flat (fun _ => rfl) _) (HLv.live (V.les_refl _ _) (all_map (fun _ => rfl) _) (HLv.live (V.les_refl _ _) rfl HLv.nil)))) (Ghost.rn [3] rfl rfl (FLe.le rfl (V.le_tup (V.les_cons (by first | exact V.le_refl _ _ | (simp only [len_set, len_cpy]; exact V.le_refl _ _)) (V.les_cons (V.le_refl _ _) V.les_nil))) FLe.nil) (HLe.live rfl V.les_nil rfl HLe.nil) rfl))
      · replace hr2 := iteF hr2 h4
        refine AB.skip <| Ex.then_mk ?_
        replace hr2 := bnd hr2; obtain ⟨x26, h_5, hr2⟩ := hr2
        refine AB.rw <| zm rfl <| wS (v := (.agg [(eI .i64 x16.1), (.sl 1 0 x16.2.1.length 1 false), (eI .i64 x16.2.2.1), (eI .i64 x16.2.2.2.1)])) (sv (d_load rfl (ldP rfl (partN (ds := [(eI .i64 x16.1), (.sl 1 0 x16.2.1.length 1 false), (eI .i64 x16.2.2.1), (eI .i64 x16.2.2.2.1)]) ti51 rfl zl rfl)))) ?_
        refine OpsW.ghost (Ghost.conv (fr' := [(0, (.row none 1 (b_1.map (eI .u8)))), (4, (.sl 0 0 l0_1.length 4 true)), (5, (.ptr 2 0)), (6, (.row none 1 (x16.2.2.2.2.1.map (eI .u8)))), (7, (eI .i64 x16.2.2.2.2.2)), (11, (.row none 1 (b_1.map (eI .u8)))), (12, (eI .i64 (b_1.length : Int))), (13, (eB (decide (0 < (b_1.length : Int))))), (14, (.tup [(.agg [(eI .i64 x16.1), (.row none 1 (x16.2.1.map (eI .u8))), (eI .i64 x16.2.2.1), (eI .i64 x16.2.2.2.1)]), (.row none 1 (x16.2.2.2.2.1.map (eI .u8))), (eI .i64 x16.2.2.2.2.2)])), (15, (.row none 1 (b_1.map (eI .u8)))), (16, (.tup [(.agg [(eI .i64 x16.1), (.row none 1 (x16.2.1.map (eI .u8))), (eI .i64 x16.2.2.1), (eI .i64 x16.2.2.2.1)]), (.row none 1 (x16.2.2.2.2.1.map (eI .u8))), (eI .i64 x16.2.2.2.2.2)])), (17, (.agg [(eI .i64 x16.1), (.row none 1 (x16.2.1.map (eI .u8))), (eI .i64 x16.2.2.1), (eI .i64 x16.2.2.2.1)])), (18, (.row none 1 (x16.2.2.2.2.1.map (eI .u8)))), (19, (eI .i64 x16.2.2.2.2.2)), (20, (eI .i64 x16.2.2.2.2.2)), (21, (eB (x16.2.2.2.2.2 != 0))), (23, (.sl 0 0 l0_1.length 4 true)), (24, (.agg [(eI .i64 x16.1), (.row none 1 (x16.2.1.map (eI .u8))), (eI .i64 x16.2.2.1), (eI .i64 x16.2.2.2.1)]))]) (h' := [some ⟨51, l0_1.flatMap C_api_Op⟩, none, some ⟨51, [(eI .i64 x16.1), (.row none 1 (x16.2.1.map (eI .u8))), (eI .i64 x16.2.2.1), (eI .i64 x16.2.2.2.1)]⟩]) (FCv.cons rfl (Conv.same (subB_sub rfl)) (FCv.cons rfl (Conv.same (subB_sub rfl)) (FCv.cons rfl (Conv.same (subB_sub rfl)) (FCv.cons rfl (Conv.same (subB_sub rfl)) (FCv.cons rfl (Conv.same (subB_sub rfl)) (FCv.cons rfl (Conv.same (subB_sub rfl)) (FCv.cons rfl (Conv.same (subB_sub rfl)) (FCv.cons rfl (Conv.same (subB_sub rfl)) (FCv.cons rfl (Conv.tup (Convs.cons (Conv.agg (Convs.cons (Conv.same (subB_sub rfl)) (Convs.cons (Conv.row (subB_sub rfl) rfl rfl (all_mapE (fun _ => rfl)) (by first | rfl | (simp only [List.length_map, len_set, len_cpy]; done))) (Convs.cons (Conv.same (subB_sub rfl)) (Convs.cons (Conv.same (subB_sub rfl)) Convs.nil))))) (Convs.cons (Conv.same (subB_sub rfl)) (Convs.cons (Conv.same (subB_sub rfl)) Convs.nil)))) (FCv.cons rfl (Conv.same (subB_sub rfl)) (FCv.cons rfl (Conv.tup (Convs.cons (Conv.agg (Convs.cons (Conv.same (subB_sub rfl)) (Convs.cons (Conv.row (subB_sub rfl) rfl rfl (all_mapE (fun _ => rfl)) (by first | rfl | (simp only [List.length_map, len_set, len_cpy]; done))) (Convs.cons (Conv.same (subB_sub rfl)) (Convs.cons (Conv.same (subB_sub rfl)) Convs.nil))))) (Convs.cons (Conv.same (subB_sub rfl)) (Convs.cons (Conv.same (subB_sub rfl)) Convs.nil)))) (FCv.cons rfl (Conv.agg (Convs.cons (Conv.same (subB_sub rfl)) (Convs.cons (Conv.row (subB_sub rfl) rfl rfl (all_mapE (fun _ => rfl)) (by first | rfl | (simp only [List.length_map, len_set, len_cpy]; done))) (Convs.cons (Conv.same (subB_sub rfl)) (Convs.cons (Conv.same (subB_sub rfl)) Convs.nil))))) (FCv.cons rfl (Conv.same (subB_sub rfl)) (FCv.cons rfl (Conv.same (subB_sub rfl)) (FCv.cons rfl (Conv.same (subB_sub rfl)) (FCv.cons rfl (Conv.same (subB_sub rfl)) (FCv.cons rfl (Conv.same (subB_sub rfl)) (FCv.cons rfl (Conv.agg (Convs.cons (Conv.same (subB_sub rfl)) (Convs.cons (Conv.row (subB_sub rfl) rfl rfl (all_mapE (fun _ => rfl)) (by first | rfl | (simp only [List.length_map, len_set, len_cpy]; done))) (Convs.cons (Conv.same (subB_sub rfl)) (Convs.cons (Conv.same (subB_sub rfl)) Convs.nil))))) FCv.nil)))))))))))))))))) (HCv.live (Convs.same (subB_sub rfl)) (all_flat (fun _ => rfl) _) (HCv.dead (HCv.live (Convs.cons (Conv.same (subB_sub rfl)) (Convs.cons (Conv.row (subB_sub rfl) rfl rfl (all_mapE (fun _ => rfl)) (by first | rfl | (simp only [List.length_map, len_set, len_cpy]; done))) (Convs.cons (Conv.same (subB_sub rfl)) (Convs.cons (Conv.same (subB_sub rfl)) Convs.nil)))) rfl HCv.nil)))) ?_
        refine wS (v := (.sl 3 0 1 4 true)) (h' := [some ⟨51, l0_1.flatMap C_api_Op⟩, none, some ⟨51, [(eI .i64 x16.1), (.row none 1 (x16.2.1.map (eI .u8))), (eI .i64 x16.2.2.1), (eI .i64 x16.2.2.2.1)]⟩, some ⟨51, [(S_api_Op.mk x16.1 x16.2.1 x16.2.2.1 x16.2.2.2.1)].flatMap C_api_Op⟩]) (sv (d_buildS rfl (bldLK (C := C_api_Op) (xs := [(S_api_Op.mk x16.1 x16.2.1 x16.2.2.1 x16.2.2.2.1)]) (K := 4) (fun _ => rfl) (fun _ => rfl) ti41 ti51 ⟨zl, zl, zl⟩ rfl rfl rfl rfl rfl rfl))) ?_
        refine wS (v := (.sl 4 0 x26.length 4 true)) (h' := [none, none, some ⟨51, [(eI .i64 x16.1), (.row none 1 (x16.2.1.map (eI .u8))), (eI .i64 x16.2.2.1), (eI .i64 x16.2.2.2.1)]⟩, some ⟨51, [(S_api_Op.mk x16.1 x16.2.1 x16.2.2.1 x16.2.2.2.1)].flatMap C_api_Op⟩, some ⟨51, x26.flatMap C_api_Op⟩]) (sv (d_append rfl rfl (appSK (C := C_api_Op) (K := 4) (fun _ => rfl) rfl ti41 ti51 ⟨rfl, rfl, zl, zl⟩ rfl (srcSK (C := C_api_Op) (fun _ => rfl) rfl rfl) h_5 rfl rfl))) <| zm rfl <| za rfl <| za rfl <| OpsW.nil <| Ex.inBlock_mk <| Ex.then_mk ?_
        exact ⟨x16.2.2.2.2.1, x26, hr2, (zG [4])⟩
    · replace hr2 := iteF hr2 h2
      refine AB.exit <| Ex.then_exit_mk <| Ex.then_exit_mk <| Ex.inBlock_same_mk ?_
      obtain rfl := Option.some.inj hr2
      refine Ex.then_mk ?_
      exact hG1 _ _ _ _ (zG [0]) (J1 l0_1 hr)
set_option maxRecDepth 20000 in
set_option maxHeartbeats 1000000 in
theorem script_nested_ok (N : Nat) (l : List S_api_Op) (r : Bool) (hr : script_nested N l = some r) :
    Vm.Fn Tryd.prog 13 [] [(.row none 4 (l.map E_api_Op))] (eB r) [] := by
  refine fn_ab Tryd.func13 rfl (by kernel_rfl) Tryd.ntmps13 zl rfl (fr := [(0, (.row none 4 (l.map E_api_Op)))]) rfl ?_
  unfold script_nested at hr
  refine zq <| wS (v := (eB false)) (sv (d_assign rfl)) <| zn <| zq <| wS (v := (.row (some true) 1 [])) (sv (d_assign rfl)) <| zn ?_
  refine AB.seq_g fun K1 hK1 hG1 => ?_
  have J1 : ∀ (l0 : List Bool), script_nested_J1 N l0 = some r → K1 (mkF 47 [(3, (.sl 0 0 l0.length 1 false))]) [some ⟨4, l0.map eB⟩] := by
    intro l0 hr
    unfold script_nested_J1 at hr
    refine hK1 _ _ <| zq <| zm rfl <| wS (v := (eI .i64 (l0.length : Int))) (sv (d_len rfl (lenS ti58))) <| wS (v := (eB ((l0.length : Int) == 0))) (sv (d_bin rfl rfl (bin_eql ..))) <| za rfl <| zn <| AB.ret ?_
    obtain rfl := Option.some.inj hr
    exact done_ret (r1 := (eB ((l0.length : Int) == 0))) (res1 Tryd.results13 (rvT rfl)) (zG [])
  refine zq <| zm rfl <| wS (v := (eI .i64 (l.length : Int))) (sv (d_len rfl (lenR ti41))) <| wS (v := (eI .i64 0)) (sv (d_move rfl)) <| zn ?_
  replace hr := bnd hr; obtain ⟨res2, hL2, hr⟩ := hr
  refine AB.block ?_
  refine AB.loopN (fun m s h => ∃ (x9 : Int) (l0_1 : List Bool), script_nested_L2 N l m x9 l0_1 = some res2 ∧ Ghost 0 s h (mkF 47 [(3, (.sl 0 0 l0_1.length 1 false)), (7, (.row none 4 (l.map E_api_Op))), (8, (eI .i64 (l.length : Int))), (9, (eI .i64 x9))]) [some ⟨4, l0_1.map eB⟩]) (n := N) ⟨0, [], hL2, (Ghost.trans (Ghost.virt (fr' := [(3, (.sl 0 0 0 1 false)), (7, (.row none 4 (l.map E_api_Op))), (8, (eI .i64 (l.length : Int))), (9, (eI .i64 0))]) (h1 := []) 4 (FLe.le rfl (V.le_virt rfl) (FLe.same rfl (FLe.same rfl (FLe.same rfl FLe.nil)))) HLv.nil) (Ghost.rn [0] rfl rfl (FLe.le rfl (by first | exact V.le_refl _ _ | (simp only [len_set, len_cpy]; exact V.le_refl _ _)) (FLe.same rfl (FLe.same rfl (FLe.same rfl FLe.nil)))) (HLe.live rfl V.les_nil rfl HLe.nil) rfl))⟩ (by rintro s h ⟨_, _, h0, _⟩; simp [script_nested_L2] at h0) ?_
  rintro m2 s h ⟨x9, l0_1, hr2, hg⟩
  refine AB.ghost hg ?_
  clear hg hL2
  rw [script_nested_L2] at hr2
  refine zq <| wS (sv (d_bin rfl rfl (bin_lss ..))) <| zn <| AB.seq ?_
  refine AB.cnd rfl (fun h1 => ?_) (fun h1 => ?_)
  · replace hr2 := iteT hr2 h1
    refine AB.skip <| Ex.then_mk ?_
    refine AB.seq_g fun K3 hK3 hG3 => ?_
    have J3 : ∀ (l0_2 : List Bool), script_nested_J3 N l x9 (script_nested_L2 N l m2) l0_2 = some res2 → K3 (mkF 47 [(3, (.sl 0 0 l0_2.length 1 false)), (7, (.row none 4 (l.map E_api_Op))), (8, (eI .i64 (l.length : Int))), (9, (eI .i64 x9))]) [some ⟨4, l0_2.map eB⟩] := by
      intro l0_2 hr2
      unfold script_nested_J3 at hr2
      refine hK3 _ _ <| AB.rw <| wS (v := (eI .i64 (IntKind.i64.wrap (x9 + 1)))) (sv (d_bin rfl rfl (bin_add ..))) <| zm rfl <| zn ?_
      exact ⟨IntKind.i64.wrap (x9 + 1), l0_2, hr2, (zG [0])⟩
    refine AB.block <| AB.seq ?_
    replace hr2 := bnd hr2; obtain ⟨x11, h_2, hr2⟩ := hr2
    refine AB.rw <| wS (sv (d_ia rfl rfl (iaR ti41 ti51 h_2))) <| wS (v := (.agg [(eI .i64 x11.Code), (.row none 1 (x11.Data.map (eI .u8))), (eI .i64 x11.M), (eI .i64 x11.N)])) (sv (d_load rfl (ldR h_2 (partN (ds := [(eI .i64 x11.Code), (.row none 1 (x11.Data.map (eI .u8))), (eI .i64 x11.M), (eI .i64 x11.N)]) ti51 rfl zl rfl)))) <| wS (v := (.ptr 1 0)) (h' := [some ⟨4, l0_1.map eB⟩, some ⟨51, [(eI .i64 0), (.row (some true) 1 []), (eI .i64 0), (eI .i64 0)]⟩]) (sv (d_alloc ti51 rfl rfl rfl)) ?_
    refine wN (h' := [some ⟨4, l0_1.map eB⟩, some ⟨51, [(eI .i64 x11.Code), (.row none 1 (x11.Data.map (eI .u8))), (eI .i64 x11.M), (eI .i64 x11.N)]⟩]) (sv (d_store rfl rfl (stP ti51 rfl rfl rfl zl rfl))) <| zn <| zq <| zm rfl <| wS (v := (eI .i64 (l0_1.length : Int))) (sv (d_len rfl (lenS ti58))) <| wS (v := (eI .i64 (IntKind.i64.wrap ((l0_1.length : Int) - 1)))) (sv (d_bin rfl rfl (bin_sub ..))) <| za rfl <| zn <| zq <| wS (v := (.ptr 1 0)) (sv (d_fa rfl (fap51_0 ..))) <| wS (v := (eI .i64 x11.Code)) (sv (d_load rfl (ldP rfl (part1 ti3 rfl rfl)))) <| zn <| AB.block <| zq ?_
    refine wS (v := (eB (x11.Code == 14))) (sv (d_bin rfl rfl (bin_eql ..))) <| za rfl <| zn ?_
    refine AB.cnd rfl (fun h3 => ?_) (fun h3 => ?_)
    · replace hr2 := iteT hr2 h3
      replace hr2 := bnd hr2; obtain ⟨x22, h_4, hr2⟩ := hr2
      refine AB.rw <| zm rfl <| wS (v := (.sl 2 0 1 1 false)) (h' := [some ⟨4, l0_1.map eB⟩, some ⟨51, [(eI .i64 x11.Code), (.row none 1 (x11.Data.map (eI .u8))), (eI .i64 x11.M), (eI .i64 x11.N)]⟩, some ⟨4, [false].map eB⟩]) (sv (d_buildS rfl (bldL1 (xs := [false].map eB) ti58 ti4 zl zl rfl rfl rfl rfl rfl rfl rfl))) ?_
      refine wS (v := (.sl 3 0 x22.length 1 false)) (h' := [none, some ⟨51, [(eI .i64 x11.Code), (.row none 1 (x11.Data.map (eI .u8))), (eI .i64 x11.M), (eI .i64 x11.N)]⟩, some ⟨4, [false].map eB⟩, some ⟨4, x22.map eB⟩]) (sv (d_append rfl rfl (appS (E := eB) rfl ti58 ti4 ⟨rfl, rfl, zl⟩ rfl (srcS rfl rfl) h_4 rfl rfl))) <| za rfl <| OpsW.nil <| Ex.inBlock_mk <| Ex.inBlock_mk <| Ex.then_mk ?_
      exact hG3 _ _ _ _ (zG [3]) (J3 x22 hr2)
    · replace hr2 := iteF hr2 h3
      refine zq <| wS (v := (eB (x11.Code == 15))) (sv (d_bin rfl rfl (bin_eql ..))) <| za rfl <| zn ?_
      refine AB.cnd rfl (fun h5 => ?_) (fun h5 => ?_)
      · replace hr2 := iteT hr2 h5
        refine AB.seq ?_
        refine AB.seq_g fun K4 hK4 hG4 => ?_
        have J4 : ∀ (x32 : Bool), script_nested_J4 N l x9 l0_1 (script_nested_L2 N l m2) x32 = some res2 → K4 (mkF 47 [(3, (.sl 0 0 l0_1.length 1 false)), (6, (eI .i64 (IntKind.i64.wrap ((l0_1.length : Int) - 1)))), (7, (.row none 4 (l.map E_api_Op))), (8, (eI .i64 (l.length : Int))), (9, (eI .i64 x9)), (32, (eB x32))]) [some ⟨4, l0_1.map eB⟩] := by
          intro x32 hr2
          unfold script_nested_J4 at hr2
          refine hK4 _ _ ?_
          refine AB.cnd rfl (fun h6 => ?_) (fun h6 => ?_)
          · replace hr2 := iteT hr2 h6
            refine zq <| wS (v := (eB false)) (sv (d_assign rfl)) <| zn <| AB.ret <| Ex.then_ret_mk <| Ex.inBlock_ret_mk <| Ex.inBlock_ret_mk <| Ex.then_ret_mk <| Ex.then_ret_mk <| Ex.inBlock_ret_mk <| Ex.then_ret_mk ?_
            obtain rfl := Option.some.inj hr2
            obtain rfl := Option.some.inj hr
            exact done_ret (r1 := (eB false)) (res1 Tryd.results13 (rvT rfl)) (zG [])
          · replace hr2 := iteF hr2 h6
            refine AB.skip <| Ex.then_mk ?_
            replace hr2 := bnd hr2; obtain ⟨x35, h_7, hr2⟩ := hr2
            refine AB.rw <| zm rfl <| zm rfl <| wS (v := (.ptr 0 (Int.toNat (IntKind.i64.wrap ((l0_1.length : Int) - 1))))) (sv (d_ia rfl rfl (iaS rfl ti58 ti4 rfl h_7))) <| wN (h' := [some ⟨4, (l0_1.set (Int.toNat (IntKind.i64.wrap ((l0_1.length : Int) - 1))) true).map eB⟩]) (sv (d_store rfl rfl (stXe (E := eB) (y := true) ti4 rfl rfl h_7 rfl rfl rfl))) <| OpsW.nil <| Ex.inBlock_mk <| Ex.inBlock_mk <| Ex.then_mk ?_
            exact hG3 _ _ _ _ (Ghost.rn [0] rfl rfl (FLe.le rfl (by first | exact V.le_refl _ _ | (simp only [len_set, len_cpy]; exact V.le_refl _ _)) (FLe.same rfl (FLe.same rfl (FLe.same rfl FLe.nil)))) (HLe.live rfl (les_map (fun _ => rfl) _) (all_map (fun _ => rfl) _) HLe.nil) rfl) (J3 (l0_1.set (Int.toNat (IntKind.i64.wrap ((l0_1.length : Int) - 1))) true) hr2)
        rcases Bool.eq_false_or_eq_true (decide ((IntKind.i64.wrap ((l0_1.length : Int) - 1)) < 0)) with h8 | h8
        · replace hr2 := iteT hr2 h8
          refine AB.rw <| zm rfl <| wS (v := (eB (decide ((IntKind.i64.wrap ((l0_1.length : Int) - 1)) < 0)))) (sv (d_bin rfl rfl (bin_lss ..))) <| zm rfl <| wS (svX rfl rfl h8) <| wS (svX rfl rfl h8) <| wS (svX rfl rfl h8) <| wS (svX rfl rfl h8) <| wS (v := (eB true)) (sv (d_pickT rfl h8 rfl)) <| zn ?_
          exact hG4 _ _ _ _ (zG [0]) (J4 true hr2)
        · replace hr2 := iteF hr2 h8
          replace hr2 := bnd hr2; obtain ⟨x30, h_9, hr2⟩ := hr2
          refine AB.rw <| zm rfl <| wS (v := (eB (decide ((IntKind.i64.wrap ((l0_1.length : Int) - 1)) < 0)))) (sv (d_bin rfl rfl (bin_lss ..))) <| zm rfl <| wS (svG rfl rfl h8 (d_move rfl)) <| wS (svG rfl rfl h8 (d_move rfl)) <| wS (v := (.ptr 0 (Int.toNat (IntKind.i64.wrap ((l0_1.length : Int) - 1))))) (svG rfl rfl h8 (d_ia rfl rfl (iaS rfl ti58 ti4 rfl h_9))) <| wS (v := (eB x30)) (svG rfl rfl h8 (d_load rfl (ldX (E := eB) (y := x30) ti4 rfl rfl h_9))) <| wS (v := (eB x30)) (sv (d_pickF rfl h8 rfl)) <| zn ?_
          exact hG4 _ _ _ _ (zG [0]) (J4 x30 hr2)
      · replace hr2 := iteF hr2 h5
        refine zq <| wS (v := (eB (x11.Code == 16))) (sv (d_bin rfl rfl (bin_eql ..))) <| za rfl <| zn ?_
        refine AB.cnd rfl (fun h10 => ?_) (fun h10 => ?_)
        · replace hr2 := iteT hr2 h10
          refine AB.seq <| zq <| zm rfl <| wS (v := (eB (decide ((IntKind.i64.wrap ((l0_1.length : Int) - 1)) < 0)))) (sv (d_bin rfl rfl (bin_lss ..))) <| zn ?_
          refine AB.cnd rfl (fun h11 => ?_) (fun h11 => ?_)
          · replace hr2 := iteT hr2 h11
            refine zq <| wS (v := (eB false)) (sv (d_assign rfl)) <| zn <| AB.ret <| Ex.then_ret_mk <| Ex.inBlock_ret_mk <| Ex.inBlock_ret_mk <| Ex.then_ret_mk <| Ex.then_ret_mk <| Ex.inBlock_ret_mk <| Ex.then_ret_mk ?_
            obtain rfl := Option.some.inj hr2
            obtain rfl := Option.some.inj hr
            exact done_ret (r1 := (eB false)) (res1 Tryd.results13 (rvT rfl)) (zG [])
          · replace hr2 := iteF hr2 h11
            refine AB.skip <| Ex.then_mk ?_
            replace hr2 := bnd hr2; obtain ⟨x42, h_12, hr2⟩ := hr2
            refine AB.rw <| zm rfl <| zm rfl <| wS (v := (.sl 0 0 x42.length 1 false)) (sv (d_slice rfl rfl rfl (slPre (l := l0_1) rfl ti58 ti4 rfl rfl rfl h_12))) <| OpsW.ghost (Ghost.cutM (t := 42) (E := eB) (l := l0_1) (h' := [some ⟨4, x42.map eB⟩, some ⟨51, [(eI .i64 x11.Code), (.row none 1 (x11.Data.map (eI .u8))), (eI .i64 x11.M), (eI .i64 x11.N)]⟩]) rfl rfl h_12 rfl) <| za rfl <| OpsW.nil <| Ex.inBlock_mk <| Ex.inBlock_mk <| Ex.then_mk ?_
            exact hG3 _ _ _ _ (zG [0]) (J3 x42 hr2)
        · replace hr2 := iteF hr2 h10
          refine AB.skip <| Ex.inBlock_mk <| Ex.inBlock_mk <| Ex.then_mk ?_
          exact hG3 _ _ _ _ (zG [0]) (J3 l0_1 hr2)
  · replace hr2 := iteF hr2 h1
    refine AB.exit <| Ex.then_exit_mk <| Ex.then_exit_mk <| Ex.inBlock_same_mk ?_
    obtain rfl := Option.some.inj hr2
    refine Ex.then_mk ?_
    exact hG1 _ _ _ _ (zG [0]) (J1 l0_1 hr)
set_option maxRecDepth 20000 in
set_option maxHeartbeats 1000000 in
theorem script_bounded_ok (N : Nat) (stack : List (List Int)) (r : Bool) (hr : script_bounded N stack = some r) :
    Vm.Fn Tryd.prog 14 [] [(.row none 1 (stack.map (eL 1 (eI .u8))))] (eB r) [] := by
  refine fn_ab Tryd.func14 rfl (by kernel_rfl) Tryd.ntmps14 zl rfl (fr := [(0, (.row none 1 (stack.map (eL 1 (eI .u8)))))]) rfl ?_
  unfold script_bounded at hr
  refine zq <| wS (v := (eB false)) (sv (d_assign rfl)) <| zn <| AB.seq <| zq <| zm rfl <| wS (v := (eI .i64 (stack.length : Int))) (sv (d_len rfl (lenR ti23))) <| wS (v := (eB (decide (64 < (stack.length : Int))))) (sv (d_bin rfl rfl (bin_gtr ..))) <| zn ?_
  refine AB.cnd rfl (fun h1 => ?_) (fun h1 => ?_)
  · replace hr := iteT hr h1
    refine zq <| wS (v := (eB false)) (sv (d_assign rfl)) <| zn <| AB.ret <| Ex.then_ret_mk ?_
    obtain rfl := Option.some.inj hr
    exact done_ret (r1 := (eB false)) (res1 Tryd.results14 (rvT rfl)) (zG [])
  · replace hr := iteF hr h1
    refine AB.skip <| Ex.then_mk ?_
    refine AB.seq_g fun K1 hK1 hG1 => ?_
    have J1 : script_bounded_J1 N = some r → K1 (mkF 18 []) [] := by
      intro hr
      unfold script_bounded_J1 at hr
      refine hK1 _ _ <| zq <| wS (v := (eB true)) (sv (d_assign rfl)) <| zn <| AB.ret ?_
      obtain rfl := Option.some.inj hr
      exact done_ret (r1 := (eB true)) (res1 Tryd.results14 (rvT rfl)) (zG [])
    refine zq <| zm rfl <| wS (v := (eI .i64 (stack.length : Int))) (sv (d_len rfl (lenR ti23))) <| wS (v := (eI .i64 0)) (sv (d_move rfl)) <| zn ?_
    replace hr := bnd hr; obtain ⟨res2, hL2, hr⟩ := hr
    refine AB.block <| AB.loopN (fun m s h => ∃ (x10 : Int), script_bounded_L2 N stack m x10 = some res2 ∧ Ghost 0 s h (mkF 18 [(8, (.row none 1 (stack.map (eL 1 (eI .u8))))), (9, (eI .i64 (stack.length : Int))), (10, (eI .i64 x10))]) []) (n := N) ⟨0, hL2, (zG [])⟩ (by rintro s h ⟨_, h0, _⟩; simp [script_bounded_L2] at h0) ?_
    rintro m2 s h ⟨x10, hr2, hg⟩
    refine AB.ghost hg ?_
    clear hg hL2
    rw [script_bounded_L2] at hr2
    refine zq <| wS (sv (d_bin rfl rfl (bin_lss ..))) <| zn <| AB.seq ?_
    refine AB.cnd rfl (fun h2 => ?_) (fun h2 => ?_)
    · replace hr2 := iteT hr2 h2
      refine AB.skip <| Ex.then_mk <| AB.seq <| AB.block <| AB.seq ?_
      replace hr2 := bnd hr2; obtain ⟨x12, h_3, hr2⟩ := hr2
      refine AB.rw <| wS (sv (d_ia rfl rfl (iaR ti23 ti22 h_3))) <| wS (v := (.row none 1 (x12.map (eI .u8)))) (sv (d_load rfl (ldR h_3 (part1 ti22 rfl rfl)))) <| za rfl <| zn <| zq <| zm rfl <| wS (v := (eI .i64 (x12.length : Int))) (sv (d_len rfl (lenR ti22))) <| wS (v := (eB (decide (520 < (x12.length : Int))))) (sv (d_bin rfl rfl (bin_gtr ..))) <| zn ?_
      refine AB.cnd rfl (fun h4 => ?_) (fun h4 => ?_)
      · replace hr2 := iteT hr2 h4
        refine zq <| wS (v := (eB false)) (sv (d_assign rfl)) <| zn <| AB.ret <| Ex.inBlock_ret_mk <| Ex.then_ret_mk <| Ex.then_ret_mk <| Ex.inBlock_ret_mk <| Ex.then_ret_mk ?_
        obtain rfl := Option.some.inj hr2
        obtain rfl := Option.some.inj hr
        exact done_ret (r1 := (eB false)) (res1 Tryd.results14 (rvT rfl)) (zG [])
      · replace hr2 := iteF hr2 h4
        refine AB.skip <| Ex.inBlock_mk <| Ex.then_mk <| AB.rw <| wS (v := (eI .i64 (IntKind.i64.wrap (x10 + 1)))) (sv (d_bin rfl rfl (bin_add ..))) <| zm rfl <| zn ?_
        exact ⟨IntKind.i64.wrap (x10 + 1), hr2, (zG [])⟩
    · replace hr2 := iteF hr2 h2
      refine AB.exit <| Ex.then_exit_mk <| Ex.then_exit_mk <| Ex.inBlock_same_mk ?_
      obtain rfl := Option.some.inj hr2
      refine Ex.then_mk ?_
      exact hG1 _ _ _ _ (zG []) (J1 hr)
set_option maxRecDepth 20000 in
set_option maxHeartbeats 1000000 in
theorem script_copied_ok (N : Nat) (stack : List (List Int)) (r : (List (List Int))) (hr : script_copied N stack = some r) :
    Vm.Fn Tryd.prog 15 [] [(.row none 1 (stack.map (eL 1 (eI .u8))))] (.sl 0 0 r.length 1 false) [some ⟨22, r.map (eL 1 (eI .u8))⟩] := by
  refine fn_ab Tryd.func15 rfl (by kernel_rfl) Tryd.ntmps15 zl rfl (fr := [(0, (.row none 1 (stack.map (eL 1 (eI .u8)))))]) rfl ?_
  unfold script_copied at hr
  refine zq <| wS (v := (.row (some true) 1 [])) (sv (d_assign rfl)) <| zn <| zq <| wS (v := (.row (some true) 1 [])) (sv (d_assign rfl)) <| zn ?_
  refine AB.seq_g fun K1 hK1 hG1 => ?_
  have J1 : ∀ (l0 : List (List Int)), script_copied_J1 N l0 = some r → K1 (mkF 20 [(3, (.sl 0 0 l0.length 1 false))]) [some ⟨22, l0.map (eL 1 (eI .u8))⟩] := by
    intro l0 hr
    unfold script_copied_J1 at hr
    refine hK1 _ _ <| zq <| zm rfl <| za rfl <| zn <| AB.ret ?_
    obtain rfl := Option.some.inj hr
    exact done_ret (r1 := (.sl 0 0 l0.length 1 false)) (res1 Tryd.results15 (rvT rfl)) (zG [0])
  refine zq <| zm rfl <| wS (v := (eI .i64 (stack.length : Int))) (sv (d_len rfl (lenR ti23))) <| wS (v := (eI .i64 0)) (sv (d_move rfl)) <| zn ?_
  replace hr := bnd hr; obtain ⟨res2, hL2, hr⟩ := hr
  refine AB.block ?_
  refine AB.loopN (fun m s h => ∃ (x8 : Int) (l0_1 : List (List Int)), script_copied_L2 N stack m x8 l0_1 = some res2 ∧ Ghost 0 s h (mkF 20 [(3, (.sl 0 0 l0_1.length 1 false)), (6, (.row none 1 (stack.map (eL 1 (eI .u8))))), (7, (eI .i64 (stack.length : Int))), (8, (eI .i64 x8))]) [some ⟨22, l0_1.map (eL 1 (eI .u8))⟩]) (n := N) ⟨0, [], hL2, (Ghost.trans (Ghost.virt (fr' := [(3, (.sl 0 0 0 1 false)), (6, (.row none 1 (stack.map (eL 1 (eI .u8))))), (7, (eI .i64 (stack.length : Int))), (8, (eI .i64 0))]) (h1 := []) 22 (FLe.le rfl (V.le_virt rfl) (FLe.same rfl (FLe.same rfl (FLe.same rfl FLe.nil)))) HLv.nil) (Ghost.rn [0] rfl rfl (FLe.le rfl (by first | exact V.le_refl _ _ | (simp only [len_set, len_cpy]; exact V.le_refl _ _)) (FLe.same rfl (FLe.same rfl (FLe.same rfl FLe.nil)))) (HLe.live rfl V.les_nil rfl HLe.nil) rfl))⟩ (by rintro s h ⟨_, _, h0, _⟩; simp [script_copied_L2] at h0) ?_
  rintro m2 s h ⟨x8, l0_1, hr2, hg⟩
  refine AB.ghost hg ?_
  clear hg hL2
  rw [script_copied_L2] at hr2
  refine zq <| wS (sv (d_bin rfl rfl (bin_lss ..))) <| zn <| AB.seq ?_
  refine AB.cnd rfl (fun h1 => ?_) (fun h1 => ?_)
  · replace hr2 := iteT hr2 h1
    refine AB.skip <| Ex.then_mk <| AB.seq <| AB.block <| AB.seq ?_
    replace hr2 := bnd hr2; obtain ⟨x10, h_2, hr2⟩ := hr2
    refine AB.rw <| wS (sv (d_ia rfl rfl (iaR ti23 ti22 h_2))) <| wS (v := (.row none 1 (x10.map (eI .u8)))) (sv (d_load rfl (ldR h_2 (part1 ti22 rfl rfl)))) <| za rfl <| zn ?_
    replace hr2 := bnd hr2; obtain ⟨x15, h_3, hr2⟩ := hr2
    replace hr2 := bnd hr2; obtain ⟨x17, h_4, hr2⟩ := hr2
    refine AB.rw <| zm rfl <| zm rfl <| wS (v := (.sl 1 0 1 1 false)) (h' := [some ⟨22, l0_1.map (eL 1 (eI .u8))⟩, some ⟨22, [x10].map (eL 1 (eI .u8))⟩]) (sv (d_buildS rfl (bldL1 (xs := [x10].map (eL 1 (eI .u8))) ti23 ti22 zl zl rfl rfl rfl rfl rfl rfl rfl))) <| wC (v := (.sl 2 0 x15.length 1 false)) (h' := [some ⟨22, l0_1.map (eL 1 (eI .u8))⟩, some ⟨22, [x10].map (eL 1 (eI .u8))⟩, some ⟨5, x15.map (eI .u8)⟩]) rfl (zL (script_row_ok N [x10] x15 h_3) [] [1]) ?_
    refine OpsW.ghost (Ghost.conv (fr' := [(3, (.sl 0 0 l0_1.length 1 false)), (5, (.row none 1 (x10.map (eI .u8)))), (6, (.row none 1 (stack.map (eL 1 (eI .u8))))), (7, (eI .i64 (stack.length : Int))), (8, (eI .i64 x8)), (9, (eB (decide (x8 < (stack.length : Int))))), (11, (.row none 1 (x10.map (eI .u8)))), (12, (.sl 0 0 l0_1.length 1 false)), (13, (.row none 1 (x10.map (eI .u8)))), (14, (.sl 1 0 1 1 false)), (15, (.row none 1 (x15.map (eI .u8))))]) (h' := [some ⟨22, l0_1.map (eL 1 (eI .u8))⟩, some ⟨22, [x10].map (eL 1 (eI .u8))⟩, none]) (FCv.cons rfl (Conv.same (subB_sub rfl)) (FCv.cons rfl (Conv.same (subB_sub rfl)) (FCv.cons rfl (Conv.same (subB_sub rfl)) (FCv.cons rfl (Conv.same (subB_sub rfl)) (FCv.cons rfl (Conv.same (subB_sub rfl)) (FCv.cons rfl (Conv.same (subB_sub rfl)) (FCv.cons rfl (Conv.same (subB_sub rfl)) (FCv.cons rfl (Conv.same (subB_sub rfl)) (FCv.cons rfl (Conv.same (subB_sub rfl)) (FCv.cons rfl (Conv.same (subB_sub rfl)) (FCv.cons rfl (Conv.row (subB_sub rfl) rfl rfl (all_mapE (fun _ => rfl)) (by first | rfl | (simp only [List.length_map, len_set, len_cpy]; done))) FCv.nil))))))))))) (HCv.live (Convs.same (subB_sub rfl)) (all_map (fun _ => rfl) _) (HCv.live (Convs.same (subB_sub rfl)) (all_map (fun _ => rfl) _) (HCv.dead HCv.nil)))) ?_
    refine wS (v := (.sl 3 0 1 1 false)) (h' := [some ⟨22, l0_1.map (eL 1 (eI .u8))⟩, some ⟨22, [x10].map (eL 1 (eI .u8))⟩, none, some ⟨22, [x15].map (eL 1 (eI .u8))⟩]) (sv (d_buildS rfl (bldL1 (xs := [x15].map (eL 1 (eI .u8))) ti23 ti22 zl zl rfl rfl rfl rfl rfl rfl rfl))) <| wS (v := (.sl 4 0 x17.length 1 false)) (h' := [none, some ⟨22, [x10].map (eL 1 (eI .u8))⟩, none, some ⟨22, [x15].map (eL 1 (eI .u8))⟩, some ⟨22, x17.map (eL 1 (eI .u8))⟩]) (sv (d_append rfl rfl (appS (E := (eL 1 (eI .u8))) rfl ti23 ti22 ⟨rfl, rfl, zl⟩ rfl (srcS rfl rfl) h_4 rfl rfl))) <| za rfl <| OpsW.nil <| Ex.inBlock_mk ?_
    refine Ex.then_mk <| AB.rw <| wS (v := (eI .i64 (IntKind.i64.wrap (x8 + 1)))) (sv (d_bin rfl rfl (bin_add ..))) <| zm rfl <| zn ?_
    exact ⟨IntKind.i64.wrap (x8 + 1), x17, hr2, (zG [4])⟩
  · replace hr2 := iteF hr2 h1
    refine AB.exit <| Ex.then_exit_mk <| Ex.then_exit_mk <| Ex.inBlock_same_mk ?_
    obtain rfl := Option.some.inj hr2
    refine Ex.then_mk ?_
    exact hG1 _ _ _ _ (zG [0]) (J1 l0_1 hr)
set_option maxRecDepth 20000 in
set_option maxHeartbeats 1000000 in
theorem script_machine_active_ok (N : Nat) (m_Env_Message : List Int) (m_Env_Height : Int) (m_Env_Age : Int) (m_stack : List (List Int)) (m_branches : List S_script_branch) (m_cost : Int) (r : Bool) (hr : script_machine_active N m_Env_Message m_Env_Height m_Env_Age m_stack m_branches m_cost = some r) :
    Vm.Fn Tryd.prog 21 [some ⟨49, (ar32 (eI .u8) m_Env_Message [(eI .i64 m_Env_Height), (eI .i64 m_Env_Age), (.sl 1 0 m_stack.length 1 false), (.sl 2 0 m_branches.length 2 true), (eI .i64 m_cost)])⟩, some ⟨22, m_stack.map (eL 1 (eI .u8))⟩, some ⟨62, m_branches.flatMap C_script_branch⟩] [(.ptr 0 0)] (eB r) [some ⟨49, (ar32 (eI .u8) m_Env_Message [(eI .i64 m_Env_Height), (eI .i64 m_Env_Age), (.sl 1 0 m_stack.length 1 false), (.sl 2 0 m_branches.length 2 true), (eI .i64 m_cost)])⟩, some ⟨22, m_stack.map (eL 1 (eI .u8))⟩, some ⟨62, m_branches.flatMap C_script_branch⟩] := by
  refine fn_ab Tryd.func21 rfl (by kernel_rfl) Tryd.ntmps21 zl rfl (fr := [(0, (.ptr 0 0))]) rfl ?_
  unfold script_machine_active at hr
  refine zq <| wS (v := (eB false)) (sv (d_assign rfl)) <| zn <| AB.seq <| zq <| zm rfl <| wS (v := (.ptr 0 0)) (sv (d_nilP rfl)) <| wS (v := (.ptr 0 35)) (sv (d_fa rfl (fap49_2 ..))) <| wS (v := (.sl 2 0 m_branches.length 2 true)) (sv (d_load rfl (ldP rfl (part1 ti47 rfl rfl)))) <| wS (v := (eI .i64 (m_branches.length : Int))) (sv (d_len rfl (lenS ti47))) <| wS (v := (eB ((m_branches.length : Int) == 0))) (sv (d_bin rfl rfl (bin_eql ..))) <| zn ?_
  refine AB.cnd rfl (fun h1 => ?_) (fun h1 => ?_)
  · replace hr := iteT hr h1
    refine zq <| wS (v := (eB true)) (sv (d_assign rfl)) <| zn <| AB.ret <| Ex.then_ret_mk ?_
    obtain rfl := Option.some.inj hr
    exact done_ret (r1 := (eB true)) (res1 Tryd.results21 (rvT rfl)) (zG [0, 1, 2])
  · replace hr := iteF hr h1
    refine AB.skip <| Ex.then_mk <| AB.seq ?_
    replace hr := bnd hr; obtain ⟨x20, h_2, hr⟩ := hr
    refine AB.rg E0 (fun _ => by show drawOk (fun _ => false) _ = true; decide +kernel) <| tS (sv (d_move rfl)) <| tS (v := (.ptr 0 0)) (sv (d_nilP rfl)) <| tS (v := (.ptr 0 35)) (sv (d_fa rfl (fap49_2 ..))) <| tS (v := (.sl 2 0 m_branches.length 2 true)) (sv (d_load rfl (ldP rfl (part1 ti47 rfl rfl)))) <| tS (sv (d_move rfl)) <| tS (v := (.ptr 0 0)) (sv (d_nilP rfl)) <| tS (v := (.ptr 0 35)) (sv (d_fa rfl (fap49_2 ..))) <| tS (v := (.sl 2 0 m_branches.length 2 true)) (sv (d_load rfl (ldP rfl (part1 ti47 rfl rfl)))) <| tS (v := (eI .i64 (m_branches.length : Int))) (sv (d_len rfl (lenS ti47))) ?_
    refine tS (v := (eI .i64 (IntKind.i64.wrap ((m_branches.length : Int) - 1)))) (sv (d_bin rfl rfl (bin_sub ..))) <| tS (v := (.ptr 2 (0 + Int.toNat (IntKind.i64.wrap ((m_branches.length : Int) - 1)) * 2))) (sv (d_ia rfl rfl (iaSK (K := 2) rfl ti47 ti62 rfl h_2))) <| tS (v := (.agg [(eB x20.outer), (eB x20.taken)])) (sv (d_load rfl (ldXK0 (C := C_script_branch) (K := 2) (fun _ => rfl) rfl h_2 (partN (ds := [(eB x20.outer), (eB x20.taken)]) ti62 rfl zl rfl)))) ?_
    refine tS (v := (.ptr 3 0)) (h' := [some ⟨49, (ar32 (eI .u8) m_Env_Message [(eI .i64 m_Env_Height), (eI .i64 m_Env_Age), (.sl 1 0 m_stack.length 1 false), (.sl 2 0 m_branches.length 2 true), (eI .i64 m_cost)])⟩, some ⟨22, m_stack.map (eL 1 (eI .u8))⟩, some ⟨62, m_branches.flatMap C_script_branch⟩, some ⟨62, [(eB false), (eB false)]⟩]) (sv (d_alloc ti62 rfl rfl rfl)) ?_
    refine tN (h' := [some ⟨49, (ar32 (eI .u8) m_Env_Message [(eI .i64 m_Env_Height), (eI .i64 m_Env_Age), (.sl 1 0 m_stack.length 1 false), (.sl 2 0 m_branches.length 2 true), (eI .i64 m_cost)])⟩, some ⟨22, m_stack.map (eL 1 (eI .u8))⟩, some ⟨62, m_branches.flatMap C_script_branch⟩, some ⟨62, [(eB x20.outer), (eB x20.taken)]⟩]) (sv (d_store rfl rfl (stP ti62 rfl rfl rfl zl rfl))) <| OpsTo.nil <| Ex.then_mk ?_
    refine AB.seq_g fun K1 hK1 hG1 => ?_
    have J1 : ∀ (x2 : Bool), script_machine_active_J1 N m_Env_Message m_Env_Height m_Env_Age m_stack m_branches m_cost x2 = some r → K1 (mkF 28 [(2, (eB x2))]) [some ⟨49, (ar32 (eI .u8) m_Env_Message [(eI .i64 m_Env_Height), (eI .i64 m_Env_Age), (.sl 1 0 m_stack.length 1 false), (.sl 2 0 m_branches.length 2 true), (eI .i64 m_cost)])⟩, some ⟨22, m_stack.map (eL 1 (eI .u8))⟩, some ⟨62, m_branches.flatMap C_script_branch⟩] := by
      intro x2 hr
      unfold script_machine_active_J1 at hr
      refine hK1 _ _ <| AB.ret ?_
      obtain rfl := Option.some.inj hr
      exact done_ret (r1 := (eB x2)) (res1 Tryd.results21 (rvT rfl)) (zG [0, 1, 2])
    rcases Bool.eq_false_or_eq_true x20.outer with h3 | h3
    · replace hr := iteT hr h3
      refine AB.rw <| wS (v := (.ptr 3 0)) (sv (d_fa rfl (fap62_0 ..))) <| wS (v := (eB x20.outer)) (sv (d_load rfl (ldP rfl (part1 ti4 rfl rfl)))) <| zm rfl <| wS (v := (.ptr 3 1)) (svG rfl rfl h3 (d_fa rfl (fap62_1 ..))) <| wS (v := (eB x20.taken)) (svG rfl rfl h3 (d_load rfl (ldP rfl (part1 ti4 rfl rfl)))) <| wS (v := (eB x20.taken)) (sv (d_pickT rfl h3 rfl)) <| za rfl <| zn ?_
      exact hG1 _ _ _ _ (zG [0, 1, 2]) (J1 x20.taken hr)
    · replace hr := iteF hr h3
      refine AB.rw <| wS (v := (.ptr 3 0)) (sv (d_fa rfl (fap62_0 ..))) <| wS (v := (eB x20.outer)) (sv (d_load rfl (ldP rfl (part1 ti4 rfl rfl)))) <| zm rfl <| wS (svX rfl rfl h3) <| wS (svX rfl rfl h3) <| wS (v := (eB false)) (sv (d_pickF rfl h3 rfl)) <| za rfl <| zn ?_
      exact hG1 _ _ _ _ (zG [0, 1, 2]) (J1 false hr)
set_option maxRecDepth 20000 in
set_option maxHeartbeats 1000000 in
theorem script_price_ok (N : Nat) (op_Code : Int) (op_Data : List Int) (op_M : Int) (op_N : Int) (r : Int) (hr : script_price N op_Code op_Data op_M op_N = some r) :
    Vm.Fn Tryd.prog 22 [] [(.agg [(eI .i64 op_Code), (.row none 1 (op_Data.map (eI .u8))), (eI .i64 op_M), (eI .i64 op_N)])] (eI .i64 r) [] := by
  refine fn_ab Tryd.func22 rfl (by kernel_rfl) Tryd.ntmps22 zl rfl (fr := [(0, (.agg [(eI .i64 op_Code), (.row none 1 (op_Data.map (eI .u8))), (eI .i64 op_M), (eI .i64 op_N)]))]) rfl ?_
  unfold script_price at hr
  refine zq <| wS (v := (.ptr 0 0)) (h' := [some ⟨51, [(eI .i64 op_Code), (.row none 1 (op_Data.map (eI .u8))), (eI .i64 op_M), (eI .i64 op_N)]⟩]) (sv (d_box rfl rfl rfl rfl)) <| wS (v := (eI .i64 0)) (sv (d_assign rfl)) <| zn <| AB.seq <| zq <| wS (v := (.ptr 0 0)) (sv (d_fa rfl (fap51_0 ..))) <| wS (v := (eI .i64 op_Code)) (sv (d_load rfl (ldP rfl (part1 ti3 rfl rfl)))) <| zn <| AB.block <| zq <| wS (v := (eB (op_Code == 8))) (sv (d_bin rfl rfl (bin_eql ..))) <| za rfl <| zn ?_
  refine AB.cnd rfl (fun h1 => ?_) (fun h1 => ?_)
  · replace hr := iteT hr h1
    refine zq <| wS (v := (eI .i64 6)) (sv (d_assign rfl)) <| zn <| AB.ret <| Ex.inBlock_ret_mk <| Ex.then_ret_mk ?_
    obtain rfl := Option.some.inj hr
    exact done_ret (r1 := (eI .i64 6)) (res1 Tryd.results22 (rvT rfl)) (zG [])
  · replace hr := iteF hr h1
    refine zq <| wS (v := (eB (op_Code == 10))) (sv (d_bin rfl rfl (bin_eql ..))) <| za rfl <| zn ?_
    refine AB.cnd rfl (fun h2 => ?_) (fun h2 => ?_)
    · replace hr := iteT hr h2
      refine zq <| wS (v := (eI .i64 21)) (sv (d_assign rfl)) <| zn <| AB.ret <| Ex.inBlock_ret_mk <| Ex.then_ret_mk ?_
      obtain rfl := Option.some.inj hr
      exact done_ret (r1 := (eI .i64 21)) (res1 Tryd.results22 (rvT rfl)) (zG [])
    · replace hr := iteF hr h2
      refine zq <| wS (v := (eB (op_Code == 11))) (sv (d_bin rfl rfl (bin_eql ..))) <| za rfl <| zn ?_
      refine AB.cnd rfl (fun h3 => ?_) (fun h3 => ?_)
      · replace hr := iteT hr h3
        refine zq <| wS (v := (.ptr 0 3)) (sv (d_fa rfl (fap51_3 ..))) <| wS (v := (eI .i64 op_N)) (sv (d_load rfl (ldP rfl (part1 ti3 rfl rfl)))) <| wS (v := (eI .i64 (IntKind.i64.wrap (20 * op_N)))) (sv (d_bin rfl rfl (bin_mul ..))) <| wS (v := (eI .i64 (IntKind.i64.wrap (1 + (IntKind.i64.wrap (20 * op_N)))))) (sv (d_bin rfl rfl (bin_add ..))) <| za rfl <| zn <| AB.ret <| Ex.inBlock_ret_mk <| Ex.then_ret_mk ?_
        obtain rfl := Option.some.inj hr
        exact done_ret (r1 := (eI .i64 (IntKind.i64.wrap (1 + (IntKind.i64.wrap (20 * op_N)))))) (res1 Tryd.results22 (rvT rfl)) (zG [])
      · replace hr := iteF hr h3
        refine AB.skip <| Ex.inBlock_mk <| Ex.then_mk <| zq <| wS (v := (eI .i64 1)) (sv (d_assign rfl)) <| zn <| AB.ret ?_
        obtain rfl := Option.some.inj hr
        exact done_ret (r1 := (eI .i64 1)) (res1 Tryd.results22 (rvT rfl)) (zG [])
set_option maxRecDepth 20000 in
set_option maxHeartbeats 1000000 in
theorem script_needs_ok (N : Nat) (op_Code : Int) (op_Data : List Int) (op_M : Int) (op_N : Int) (r : Int) (hr : script_needs N op_Code op_Data op_M op_N = some r) :
    Vm.Fn Tryd.prog 23 [] [(.agg [(eI .i64 op_Code), (.row none 1 (op_Data.map (eI .u8))), (eI .i64 op_M), (eI .i64 op_N)])] (eI .i64 r) [] := by
  refine fn_ab Tryd.func23 rfl (by kernel_rfl) Tryd.ntmps23 zl rfl (fr := [(0, (.agg [(eI .i64 op_Code), (.row none 1 (op_Data.map (eI .u8))), (eI .i64 op_M), (eI .i64 op_N)]))]) rfl ?_
  unfold script_needs at hr
  refine zq <| wS (v := (.ptr 0 0)) (h' := [some ⟨51, [(eI .i64 op_Code), (.row none 1 (op_Data.map (eI .u8))), (eI .i64 op_M), (eI .i64 op_N)]⟩]) (sv (d_box rfl rfl rfl rfl)) <| wS (v := (eI .i64 0)) (sv (d_assign rfl)) <| zn <| AB.seq <| zq <| wS (v := (.ptr 0 0)) (sv (d_fa rfl (fap51_0 ..))) <| wS (v := (eI .i64 op_Code)) (sv (d_load rfl (ldP rfl (part1 ti3 rfl rfl)))) <| zn <| AB.block ?_
  refine AB.seq_g fun K1 hK1 hG1 => ?_
  have J1 : ∀ (x5 : Bool), script_needs_J1 N op_Code op_Data op_M op_N x5 = some r → K1 (mkF 19 [(1, (.ptr 0 0)), (4, (eI .i64 op_Code)), (5, (eB x5))]) [some ⟨51, [(eI .i64 op_Code), (.row none 1 (op_Data.map (eI .u8))), (eI .i64 op_M), (eI .i64 op_N)]⟩] := by
    intro x5 hr
    unfold script_needs_J1 at hr
    refine hK1 _ _ ?_
    refine AB.cnd rfl (fun h1 => ?_) (fun h1 => ?_)
    · replace hr := iteT hr h1
      refine zq <| wS (v := (eI .i64 0)) (sv (d_assign rfl)) <| zn <| AB.ret <| Ex.inBlock_ret_mk <| Ex.then_ret_mk ?_
      obtain rfl := Option.some.inj hr
      exact done_ret (r1 := (eI .i64 0)) (res1 Tryd.results23 (rvT rfl)) (zG [])
    · replace hr := iteF hr h1
      refine AB.seq_g fun K2 hK2 hG2 => ?_
      have J2 : ∀ (x10 : Bool), script_needs_J2 N op_Code op_Data op_M op_N x10 = some r → K2 (mkF 19 [(1, (.ptr 0 0)), (4, (eI .i64 op_Code)), (10, (eB x10))]) [some ⟨51, [(eI .i64 op_Code), (.row none 1 (op_Data.map (eI .u8))), (eI .i64 op_M), (eI .i64 op_N)]⟩] := by
        intro x10 hr
        unfold script_needs_J2 at hr
        refine hK2 _ _ ?_
        refine AB.cnd rfl (fun h2 => ?_) (fun h2 => ?_)
        · replace hr := iteT hr h2
          refine zq <| wS (v := (eI .i64 2)) (sv (d_assign rfl)) <| zn <| AB.ret <| Ex.inBlock_ret_mk <| Ex.then_ret_mk ?_
          obtain rfl := Option.some.inj hr
          exact done_ret (r1 := (eI .i64 2)) (res1 Tryd.results23 (rvT rfl)) (zG [])
        · replace hr := iteF hr h2
          refine zq <| wS (v := (eB (op_Code == 11))) (sv (d_bin rfl rfl (bin_eql ..))) <| za rfl <| zn ?_
          refine AB.cnd rfl (fun h3 => ?_) (fun h3 => ?_)
          · replace hr := iteT hr h3
            refine zq <| wS (v := (.ptr 0 3)) (sv (d_fa rfl (fap51_3 ..))) <| wS (v := (eI .i64 op_N)) (sv (d_load rfl (ldP rfl (part1 ti3 rfl rfl)))) <| wS (v := (eI .i64 (IntKind.i64.wrap (2 * op_N)))) (sv (d_bin rfl rfl (bin_mul ..))) <| za rfl <| zn <| AB.ret <| Ex.inBlock_ret_mk <| Ex.then_ret_mk ?_
            obtain rfl := Option.some.inj hr
            exact done_ret (r1 := (eI .i64 (IntKind.i64.wrap (2 * op_N)))) (res1 Tryd.results23 (rvT rfl)) (zG [])
          · replace hr := iteF hr h3
            refine AB.skip <| Ex.inBlock_mk <| Ex.then_mk <| zq <| wS (v := (eI .i64 1)) (sv (d_assign rfl)) <| zn <| AB.ret ?_
            obtain rfl := Option.some.inj hr
            exact done_ret (r1 := (eI .i64 1)) (res1 Tryd.results23 (rvT rfl)) (zG [])
      refine zq <| wS (v := (eB (op_Code == 4))) (sv (d_bin rfl rfl (bin_eql ..))) <| za rfl <| zn ?_
      refine AB.cnd rfl (fun h4 => ?_) (fun h4 => ?_)
      · replace hr := iteT hr h4
        refine AB.skip <| Ex.then_mk ?_
        exact hG2 _ _ _ _ (zG [0]) (J2 (op_Code == 4) hr)
      · replace hr := iteF hr h4
        refine zq <| wS (v := (eB (op_Code == 5))) (sv (d_bin rfl rfl (bin_eql ..))) <| za rfl <| zn ?_
        refine AB.cnd rfl (fun h5 => ?_) (fun h5 => ?_)
        · replace hr := iteT hr h5
          refine AB.skip <| Ex.then_mk ?_
          exact hG2 _ _ _ _ (zG [0]) (J2 (op_Code == 5) hr)
        · replace hr := iteF hr h5
          refine AB.rw <| wS (v := (eB (op_Code == 10))) (sv (d_bin rfl rfl (bin_eql ..))) <| za rfl <| zn ?_
          exact hG2 _ _ _ _ (zG [0]) (J2 (op_Code == 10) hr)
  refine zq <| wS (v := (eB (op_Code == 1))) (sv (d_bin rfl rfl (bin_eql ..))) <| za rfl <| zn ?_
  refine AB.cnd rfl (fun h6 => ?_) (fun h6 => ?_)
  · replace hr := iteT hr h6
    refine AB.skip <| Ex.then_mk ?_
    exact hG1 _ _ _ _ (zG [0]) (J1 (op_Code == 1) hr)
  · replace hr := iteF hr h6
    refine zq <| wS (v := (eB (op_Code == 15))) (sv (d_bin rfl rfl (bin_eql ..))) <| za rfl <| zn ?_
    refine AB.cnd rfl (fun h7 => ?_) (fun h7 => ?_)
    · replace hr := iteT hr h7
      refine AB.skip <| Ex.then_mk ?_
      exact hG1 _ _ _ _ (zG [0]) (J1 (op_Code == 15) hr)
    · replace hr := iteF hr h7
      refine zq <| wS (v := (eB (op_Code == 16))) (sv (d_bin rfl rfl (bin_eql ..))) <| za rfl <| zn ?_
      refine AB.cnd rfl (fun h8 => ?_) (fun h8 => ?_)
      · replace hr := iteT hr h8
        refine AB.skip <| Ex.then_mk ?_
        exact hG1 _ _ _ _ (zG [0]) (J1 (op_Code == 16) hr)
      · replace hr := iteF hr h8
        refine AB.rw <| wS (v := (eB (op_Code == 17))) (sv (d_bin rfl rfl (bin_eql ..))) <| za rfl <| zn ?_
        exact hG1 _ _ _ _ (zG [0]) (J1 (op_Code == 17) hr)
set_option maxRecDepth 20000 in
set_option maxHeartbeats 1000000 in
theorem script_machine_top_ok (N : Nat) (m_Env_Message : List Int) (m_Env_Height : Int) (m_Env_Age : Int) (m_stack : List (List Int)) (m_branches : List S_script_branch) (m_cost : Int) (r : (List Int)) (hr : script_machine_top N m_Env_Message m_Env_Height m_Env_Age m_stack m_branches m_cost = some r) :
    Vm.Fn Tryd.prog 24 [some ⟨49, (ar32 (eI .u8) m_Env_Message [(eI .i64 m_Env_Height), (eI .i64 m_Env_Age), (.sl 1 0 m_stack.length 1 false), (.sl 2 0 m_branches.length 2 true), (eI .i64 m_cost)])⟩, some ⟨22, m_stack.map (eL 1 (eI .u8))⟩, some ⟨62, m_branches.flatMap C_script_branch⟩] [(.ptr 0 0)] (.row none 1 (r.map (eI .u8))) [some ⟨49, (ar32 (eI .u8) m_Env_Message [(eI .i64 m_Env_Height), (eI .i64 m_Env_Age), (.sl 1 0 m_stack.length 1 false), (.sl 2 0 m_branches.length 2 true), (eI .i64 m_cost)])⟩, some ⟨22, m_stack.map (eL 1 (eI .u8))⟩, some ⟨62, m_branches.flatMap C_script_branch⟩] := by
  refine fn_ab Tryd.func24 rfl (by kernel_rfl) Tryd.ntmps24 zl rfl (fr := [(0, (.ptr 0 0))]) rfl ?_
  unfold script_machine_top at hr
  refine zq <| wS (v := (.row (some true) 1 [])) (sv (d_assign rfl)) <| zn <| AB.seq ?_
  replace hr := bnd hr; obtain ⟨x13, h_1, hr⟩ := hr
  refine AB.rg E0 (fun _ => by show drawOk (fun _ => false) _ = true; decide +kernel) <| tS (sv (d_move rfl)) <| tS (v := (.ptr 0 0)) (sv (d_nilP rfl)) <| tS (v := (.ptr 0 34)) (sv (d_fa rfl (fap49_1 ..))) <| tS (v := (.sl 1 0 m_stack.length 1 false)) (sv (d_load rfl (ldP rfl (part1 ti23 rfl rfl)))) <| tS (sv (d_move rfl)) <| tS (v := (.ptr 0 0)) (sv (d_nilP rfl)) <| tS (v := (.ptr 0 34)) (sv (d_fa rfl (fap49_1 ..))) <| tS (v := (.sl 1 0 m_stack.length 1 false)) (sv (d_load rfl (ldP rfl (part1 ti23 rfl rfl)))) <| tS (v := (eI .i64 (m_stack.length : Int))) (sv (d_len rfl (lenS ti23))) ?_
  refine tS (v := (eI .i64 (IntKind.i64.wrap ((m_stack.length : Int) - 1)))) (sv (d_bin rfl rfl (bin_sub ..))) <| tS (v := (.ptr 1 (Int.toNat (IntKind.i64.wrap ((m_stack.length : Int) - 1))))) (sv (d_ia rfl rfl (iaS rfl ti23 ti22 rfl h_1))) <| tS (v := (.row none 1 (x13.map (eI .u8)))) (sv (d_load rfl (ldX (E := (eL 1 (eI .u8))) (y := x13) ti22 rfl rfl h_1))) <| tS (sv (d_assign rfl)) <| OpsTo.nil <| Ex.then_mk <| AB.ret ?_
  obtain rfl := Option.some.inj hr
  exact done_ret (r1 := (.row none 1 (x13.map (eI .u8)))) (res1 Tryd.results24 (rvT rfl)) (zG [0, 1, 2])
set_option maxRecDepth 20000 in
set_option maxHeartbeats 1000000 in
theorem script_truth_ok (N : Nat) (item : List Int) (r : Bool) (hr : script_truth N item = some r) :
    Vm.Fn Tryd.prog 18 [] [(.row none 1 (item.map (eI .u8)))] (eB r) [] := by
  refine fn_ab Tryd.func18 rfl (by kernel_rfl) Tryd.ntmps18 zl rfl (fr := [(0, (.row none 1 (item.map (eI .u8))))]) rfl ?_
  unfold script_truth at hr
  refine zq <| wS (v := (eB false)) (sv (d_assign rfl)) <| zn ?_
  refine AB.seq_g fun K1 hK1 hG1 => ?_
  have J1 : script_truth_J1 N = some r → K1 (mkF 14 []) [] := by
    intro hr
    unfold script_truth_J1 at hr
    refine hK1 _ _ <| zq <| wS (v := (eB false)) (sv (d_assign rfl)) <| zn <| AB.ret ?_
    obtain rfl := Option.some.inj hr
    exact done_ret (r1 := (eB false)) (res1 Tryd.results18 (rvT rfl)) (zG [])
  refine zq <| zm rfl <| wS (v := (eI .i64 (item.length : Int))) (sv (d_len rfl (lenR ti22))) <| wS (v := (eI .i64 0)) (sv (d_move rfl)) <| zn ?_
  replace hr := bnd hr; obtain ⟨res2, hL2, hr⟩ := hr
  refine AB.block <| AB.loopN (fun m s h => ∃ (x7 : Int), script_truth_L2 N item m x7 = some res2 ∧ Ghost 0 s h (mkF 14 [(5, (.row none 1 (item.map (eI .u8)))), (6, (eI .i64 (item.length : Int))), (7, (eI .i64 x7))]) []) (n := N) ⟨0, hL2, (zG [])⟩ (by rintro s h ⟨_, h0, _⟩; simp [script_truth_L2] at h0) ?_
  rintro m2 s h ⟨x7, hr2, hg⟩
  refine AB.ghost hg ?_
  clear hg hL2
  rw [script_truth_L2] at hr2
  refine zq <| wS (sv (d_bin rfl rfl (bin_lss ..))) <| zn <| AB.seq ?_
  refine AB.cnd rfl (fun h1 => ?_) (fun h1 => ?_)
  · replace hr2 := iteT hr2 h1
    refine AB.skip <| Ex.then_mk <| AB.seq <| AB.block <| AB.seq ?_
    replace hr2 := bnd hr2; obtain ⟨x9, h_2, hr2⟩ := hr2
    refine AB.rw <| wS (sv (d_ia rfl rfl (iaR ti22 ti5 h_2))) <| wS (v := (eI .u8 x9)) (sv (d_load rfl (ldR h_2 (part1 ti5 rfl rfl)))) <| za rfl <| zn <| zq <| zm rfl <| wS (v := (eB (x9 != 0))) (sv (d_bin rfl rfl (bin_neq ..))) <| zn ?_
    refine AB.cnd rfl (fun h3 => ?_) (fun h3 => ?_)
    · replace hr2 := iteT hr2 h3
      refine zq <| wS (v := (eB true)) (sv (d_assign rfl)) <| zn <| AB.ret <| Ex.inBlock_ret_mk <| Ex.then_ret_mk <| Ex.then_ret_mk <| Ex.inBlock_ret_mk <| Ex.then_ret_mk ?_
      obtain rfl := Option.some.inj hr2
      obtain rfl := Option.some.inj hr
      exact done_ret (r1 := (eB true)) (res1 Tryd.results18 (rvT rfl)) (zG [])
    · replace hr2 := iteF hr2 h3
      refine AB.skip <| Ex.inBlock_mk <| Ex.then_mk <| AB.rw <| wS (v := (eI .i64 (IntKind.i64.wrap (x7 + 1)))) (sv (d_bin rfl rfl (bin_add ..))) <| zm rfl <| zn ?_
      exact ⟨IntKind.i64.wrap (x7 + 1), hr2, (zG [])⟩
  · replace hr2 := iteF hr2 h1
    refine AB.exit <| Ex.then_exit_mk <| Ex.then_exit_mk <| Ex.inBlock_same_mk ?_
    obtain rfl := Option.some.inj hr2
    refine Ex.then_mk ?_
    exact hG1 _ _ _ _ (zG []) (J1 hr)
set_option maxRecDepth 20000 in
set_option maxHeartbeats 1000000 in
theorem script_machine_drop_ok (N : Nat) (m_Env_Message : List Int) (m_Env_Height : Int) (m_Env_Age : Int) (m_stack : List (List Int)) (m_branches : List S_script_branch) (m_cost : Int) (vn : Int) (r : (List Int) × Int × Int × (List (List Int)) × (List S_script_branch) × Int) (hr : script_machine_drop N m_Env_Message m_Env_Height m_Env_Age m_stack m_branches m_cost vn = some r) :
    Vm.Fn Tryd.prog 25 [some ⟨49, (ar32 (eI .u8) m_Env_Message [(eI .i64 m_Env_Height), (eI .i64 m_Env_Age), (.sl 1 0 m_stack.length 1 false), (.sl 2 0 m_branches.length 2 true), (eI .i64 m_cost)])⟩, some ⟨22, m_stack.map (eL 1 (eI .u8))⟩, some ⟨62, m_branches.flatMap C_script_branch⟩] [(.ptr 0 0), (eI .i64 vn)] (.tup []) [some ⟨49, (ar32 (eI .u8) r.1 [(eI .i64 r.2.1), (eI .i64 r.2.2.1), (.sl 3 0 r.2.2.2.1.length 1 false), (.sl 4 0 r.2.2.2.2.1.length 2 true), (eI .i64 r.2.2.2.2.2)])⟩, none, none, some ⟨22, r.2.2.2.1.map (eL 1 (eI .u8))⟩, some ⟨62, r.2.2.2.2.1.flatMap C_script_branch⟩] := by
  refine fn_ab Tryd.func25 rfl (by kernel_rfl) Tryd.ntmps25 zl rfl (fr := [(0, (.ptr 0 0)), (1, (eI .i64 vn))]) rfl ?_
  unfold script_machine_drop at hr
  replace hr := bnd hr; obtain ⟨x16, h_1, hr⟩ := hr
  refine AB.rd (memF []) (memF []) mixed <| DrawG.pick (n := 15) (i := 0) (by decide +kernel) rfl (gS (v := (.ptr 0 0)) (sv (d_move rfl))) <| DrawG.pick (n := 14) (i := 1) (by decide +kernel) rfl (gS (v := (.ptr 0 0)) (sv (d_move rfl))) <| DrawG.pick (n := 13) (i := 2) (by decide +kernel) rfl (gS (v := (.ptr 0 0)) (sv (d_nilP rfl))) <| DrawG.pick (n := 12) (i := 3) (by decide +kernel) rfl (gS (v := (.ptr 0 34)) (sv (d_fa rfl (fap49_1 ..)))) <| DrawG.pick (n := 11) (i := 4) (by decide +kernel) rfl (gS (v := (.sl 1 0 m_stack.length 1 false)) (sv (d_load rfl (ldP rfl (part1 ti23 rfl rfl))))) ?_
  refine DrawG.pick (n := 10) (i := 5) (by decide +kernel) rfl (gS (v := (.ptr 0 0)) (sv (d_move rfl))) <| DrawG.pick (n := 9) (i := 6) (by decide +kernel) rfl (gS (v := (.ptr 0 0)) (sv (d_nilP rfl))) <| DrawG.pick (n := 8) (i := 7) (by decide +kernel) rfl (gS (v := (.ptr 0 34)) (sv (d_fa rfl (fap49_1 ..)))) <| DrawG.pick (n := 7) (i := 8) (by decide +kernel) rfl (gS (v := (.sl 1 0 m_stack.length 1 false)) (sv (d_load rfl (ldP rfl (part1 ti23 rfl rfl))))) <| DrawG.pick (n := 6) (i := 9) (by decide +kernel) rfl (gS (v := (eI .i64 (m_stack.length : Int))) (sv (d_len rfl (lenS ti23)))) ?_
  refine DrawG.pick (n := 5) (i := 10) (by decide +kernel) rfl (gS (v := (eI .i64 vn)) (sv (d_move rfl))) <| DrawG.pick (n := 4) (i := 11) (by decide +kernel) rfl (gS (v := (eI .i64 (IntKind.i64.wrap ((m_stack.length : Int) - vn)))) (sv (d_bin rfl rfl (bin_sub ..)))) <| DrawG.pick (n := 3) (i := 12) (by decide +kernel) rfl (gS (v := (.sl 1 0 x16.length 1 false)) (sv (d_slice rfl rfl rfl (slPre (l := m_stack) rfl ti23 ti22 rfl rfl rfl h_1)))) ?_
  refine DrawG.gh (n := 2) (by decide +kernel) (Ghost.cutM (t := 16) (E := (eL 1 (eI .u8))) (l := m_stack) (h' := [some ⟨49, (ar32 (eI .u8) m_Env_Message [(eI .i64 m_Env_Height), (eI .i64 m_Env_Age), (.sl 1 0 m_stack.length 1 false), (.sl 2 0 m_branches.length 2 true), (eI .i64 m_cost)])⟩, some ⟨22, x16.map (eL 1 (eI .u8))⟩, some ⟨62, m_branches.flatMap C_script_branch⟩]) rfl rfl h_1 rfl) <| DrawG.pick (n := 2) (i := 13) (by decide +kernel) rfl (gS (v := (.ptr 0 0)) (sv (d_nilP rfl))) <| DrawG.pick (n := 1) (i := 14) (by decide +kernel) rfl (gS (v := (.ptr 0 34)) (sv (d_fa rfl (fap49_1 ..)))) ?_
  refine DrawG.pick (n := 0) (i := 15) (by decide +kernel) rfl (gN (h' := [some ⟨49, (ar32 (eI .u8) m_Env_Message [(eI .i64 m_Env_Height), (eI .i64 m_Env_Age), (.sl 1 0 x16.length 1 false), (.sl 2 0 m_branches.length 2 true), (eI .i64 m_cost)])⟩, some ⟨22, x16.map (eL 1 (eI .u8))⟩, some ⟨62, m_branches.flatMap C_script_branch⟩]) (sv (d_store rfl rfl (stP ti23 rfl rfl rfl zl rfl)))) <| DrawG.nil (by decide +kernel) ?_
  obtain rfl := Option.some.inj hr
  exact done_norm (r1 := (.tup [])) (res0 Tryd.results25) (zG [0, 1, 2, 1, 2])
set_option maxRecDepth 20000 in
set_option maxHeartbeats 1000000 in
theorem script_machine_push_ok (N : Nat) (m_Env_Message : List Int) (m_Env_Height : Int) (m_Env_Age : Int) (m_stack : List (List Int)) (m_branches : List S_script_branch) (m_cost : Int) (item : List Int) (r : Int × (List Int) × Int × Int × (List (List Int)) × (List S_script_branch) × Int) (hr : script_machine_push N m_Env_Message m_Env_Height m_Env_Age m_stack m_branches m_cost item = some r) :
    Vm.Fn Tryd.prog 29 [some ⟨49, (ar32 (eI .u8) m_Env_Message [(eI .i64 m_Env_Height), (eI .i64 m_Env_Age), (.sl 1 0 m_stack.length 1 false), (.sl 2 0 m_branches.length 2 true), (eI .i64 m_cost)])⟩, some ⟨22, m_stack.map (eL 1 (eI .u8))⟩, some ⟨62, m_branches.flatMap C_script_branch⟩] [(.ptr 0 0), (.row none 1 (item.map (eI .u8)))] (eI .i64 r.1) [some ⟨49, (ar32 (eI .u8) r.2.1 [(eI .i64 r.2.2.1), (eI .i64 r.2.2.2.1), (.sl 3 0 r.2.2.2.2.1.length 1 false), (.sl 4 0 r.2.2.2.2.2.1.length 2 true), (eI .i64 r.2.2.2.2.2.2)])⟩, none, none, some ⟨22, r.2.2.2.2.1.map (eL 1 (eI .u8))⟩, some ⟨62, r.2.2.2.2.2.1.flatMap C_script_branch⟩] := by
  refine fn_ab Tryd.func29 rfl (by kernel_rfl) Tryd.ntmps29 zl rfl (fr := [(0, (.ptr 0 0)), (1, (.row none 1 (item.map (eI .u8))))]) rfl ?_
  unfold script_machine_push at hr
  refine zq <| wS (v := (eI .i64 0)) (sv (d_assign rfl)) <| zn <| AB.seq <| zq <| zm rfl <| wS (v := (.ptr 0 0)) (sv (d_nilP rfl)) <| wS (v := (.ptr 0 34)) (sv (d_fa rfl (fap49_1 ..))) <| wS (v := (.sl 1 0 m_stack.length 1 false)) (sv (d_load rfl (ldP rfl (part1 ti23 rfl rfl)))) <| wS (v := (eI .i64 (m_stack.length : Int))) (sv (d_len rfl (lenS ti23))) <| wS (v := (eB (decide (64 ≤ (m_stack.length : Int))))) (sv (d_bin rfl rfl (bin_geq ..))) <| zn ?_
  refine AB.cnd rfl (fun h1 => ?_) (fun h1 => ?_)
  · replace hr := iteT hr h1
    refine zq <| wS (v := (eI .i64 4)) (sv (d_assign rfl)) <| zn <| AB.ret <| Ex.then_ret_mk ?_
    obtain rfl := Option.some.inj hr
    exact done_ret (r1 := (eI .i64 4)) (res1 Tryd.results29 (rvT rfl)) (zG [0, 1, 2, 1, 2])
  · replace hr := iteF hr h1
    refine AB.skip <| Ex.then_mk <| AB.seq ?_
    replace hr := bnd hr; obtain ⟨x18, h_2, hr⟩ := hr
    refine AB.rw <| zm rfl <| zm rfl <| wS (v := (.ptr 0 0)) (sv (d_nilP rfl)) <| wS (v := (.ptr 0 34)) (sv (d_fa rfl (fap49_1 ..))) <| wS (v := (.sl 1 0 m_stack.length 1 false)) (sv (d_load rfl (ldP rfl (part1 ti23 rfl rfl)))) <| zm rfl ?_
    refine wS (v := (.sl 3 0 1 1 false)) (h' := [some ⟨49, (ar32 (eI .u8) m_Env_Message [(eI .i64 m_Env_Height), (eI .i64 m_Env_Age), (.sl 1 0 m_stack.length 1 false), (.sl 2 0 m_branches.length 2 true), (eI .i64 m_cost)])⟩, some ⟨22, m_stack.map (eL 1 (eI .u8))⟩, some ⟨62, m_branches.flatMap C_script_branch⟩, some ⟨22, [item].map (eL 1 (eI .u8))⟩]) (sv (d_buildS rfl (bldL1 (xs := [item].map (eL 1 (eI .u8))) ti23 ti22 zl zl rfl rfl rfl rfl rfl rfl rfl))) ?_
    refine wS (v := (.sl 4 0 x18.length 1 false)) (h' := [some ⟨49, (ar32 (eI .u8) m_Env_Message [(eI .i64 m_Env_Height), (eI .i64 m_Env_Age), (.sl 1 0 m_stack.length 1 false), (.sl 2 0 m_branches.length 2 true), (eI .i64 m_cost)])⟩, none, some ⟨62, m_branches.flatMap C_script_branch⟩, some ⟨22, [item].map (eL 1 (eI .u8))⟩, some ⟨22, x18.map (eL 1 (eI .u8))⟩]) (sv (d_append rfl rfl (appS (E := (eL 1 (eI .u8))) rfl ti23 ti22 ⟨rfl, rfl, zl⟩ rfl (srcS rfl rfl) h_2 rfl rfl))) <| wS (v := (.ptr 0 0)) (sv (d_nilP rfl)) <| wS (v := (.ptr 0 34)) (sv (d_fa rfl (fap49_1 ..))) ?_
    refine wN (h' := [some ⟨49, (ar32 (eI .u8) m_Env_Message [(eI .i64 m_Env_Height), (eI .i64 m_Env_Age), (.sl 4 0 x18.length 1 false), (.sl 2 0 m_branches.length 2 true), (eI .i64 m_cost)])⟩, none, some ⟨62, m_branches.flatMap C_script_branch⟩, some ⟨22, [item].map (eL 1 (eI .u8))⟩, some ⟨22, x18.map (eL 1 (eI .u8))⟩]) (sv (d_store rfl rfl (stP ti23 rfl rfl rfl zl rfl))) <| zn <| zq <| wS (v := (eI .i64 0)) (sv (d_assign rfl)) <| zn <| AB.ret ?_
    obtain rfl := Option.some.inj hr
    exact done_ret (r1 := (eI .i64 0)) (res1 Tryd.results29 (rvT rfl)) (zG [0, 1, 2, 4, 2])
set_option maxRecDepth 20000 in
set_option maxHeartbeats 1000000 in
theorem bytes_Equal_ok (N : Nat) (va : List Int) (b : List Int) (r : Bool) (hr : bytes_Equal N va b = some r) :
    Vm.Fn Tryd.prog 32 [] [(.row none 1 (va.map (eI .u8))), (.row none 1 (b.map (eI .u8)))] (eB r) [] := by
  refine fn_ab Tryd.func32 rfl (by kernel_rfl) Tryd.ntmps32 zl rfl (fr := [(0, (.row none 1 (va.map (eI .u8)))), (1, (.row none 1 (b.map (eI .u8))))]) rfl ?_
  unfold bytes_Equal at hr
  refine zq <| wS (v := (eB false)) (sv (d_assign rfl)) <| zn <| zq <| zm rfl <| wS (v := (eS (strOf va))) (sv (d_conv rfl (convB ti22 ti9 ti5 (srcR (fun _ => rfl))))) <| zm rfl <| wS (v := (eS (strOf b))) (sv (d_conv rfl (convB ti22 ti9 ti5 (srcR (fun _ => rfl))))) <| wS (sv (d_bin rfl rfl (bin_eqlS ..))) <| za rfl <| zn <| AB.ret ?_
  obtain rfl := Option.some.inj hr
  exact done_ret (r1 := (eB ((strOf va).toList == (strOf b).toList))) (res1 Tryd.results32 (rvT rfl)) (zG [])
set_option maxRecDepth 20000 in
set_option maxHeartbeats 1000000 in
theorem script_Item_ok (N : Nat) (vn : Int) (r : (List Int)) (hr : script_Item N vn = some r) :
    Vm.Fn Tryd.prog 11 [] [(eI .u32 vn)] (.sl 0 0 r.length 1 false) [some ⟨5, r.map (eI .u8)⟩] := by
  refine fn_ab Tryd.func11 rfl (by kernel_rfl) Tryd.ntmps11 zl rfl (fr := [(0, (eI .u32 vn))]) rfl ?_
  unfold script_Item at hr
  refine zq <| wS (v := (.row (some true) 1 [])) (sv (d_assign rfl)) <| zn <| zq <| wS (v := (.row (some true) 1 [])) (sv (d_assign rfl)) <| zn ?_
  refine AB.seq_g fun K1 hK1 hG1 => ?_
  have J1 : ∀ (l0 : List Int), script_Item_J1 N l0 = some r → K1 (mkF 14 [(3, (.sl 0 0 l0.length 1 false))]) [some ⟨5, l0.map (eI .u8)⟩] := by
    intro l0 hr
    unfold script_Item_J1 at hr
    refine hK1 _ _ <| zq <| zm rfl <| za rfl <| zn <| AB.ret ?_
    obtain rfl := Option.some.inj hr
    exact done_ret (r1 := (.sl 0 0 l0.length 1 false)) (res1 Tryd.results11 (rvT rfl)) (zG [0])
  replace hr := bnd hr; obtain ⟨res2, hL2, hr⟩ := hr
  refine AB.block ?_
  refine AB.loopN (fun m s h => ∃ (vn_1 : Int) (l0_1 : List Int), script_Item_L2 N m vn_1 l0_1 = some res2 ∧ Ghost 0 s h (mkF 14 [(0, (eI .u32 vn_1)), (3, (.sl 0 0 l0_1.length 1 false))]) [some ⟨5, l0_1.map (eI .u8)⟩]) (n := N) ⟨vn, [], hL2, (Ghost.trans (Ghost.virt (fr' := [(0, (eI .u32 vn)), (3, (.sl 0 0 0 1 false))]) (h1 := []) 5 (FLe.same rfl (FLe.le rfl (V.le_virt rfl) FLe.nil)) HLv.nil) (Ghost.rn [0] rfl rfl (FLe.same rfl (FLe.le rfl (by first | exact V.le_refl _ _ | (simp only [len_set, len_cpy]; exact V.le_refl _ _)) FLe.nil)) (HLe.live rfl V.les_nil rfl HLe.nil) rfl))⟩ (by rintro s h ⟨_, _, h0, _⟩; simp [script_Item_L2] at h0) ?_
  rintro m2 s h ⟨vn_1, l0_1, hr2, hg⟩
  refine AB.ghost hg ?_
  clear hg hL2
  rw [script_Item_L2] at hr2
  refine AB.seq <| zq <| zm rfl <| wS (v := (eB (decide (0 < vn_1)))) (sv (d_bin rfl rfl (bin_gtr ..))) <| zn ?_
  refine AB.cnd rfl (fun h1 => ?_) (fun h1 => ?_)
  · replace hr2 := iteT hr2 h1
    refine AB.skip <| Ex.then_mk <| AB.seq <| AB.block ?_
    replace hr2 := bnd hr2; obtain ⟨x12, h_2, hr2⟩ := hr2
    refine AB.rw <| zm rfl <| zm rfl <| wS (sv (d_conv rfl (conv_int _ ⟨_, ti37⟩ ti5 rfl))) <| wS (v := (.sl 1 0 1 1 false)) (h' := [some ⟨5, l0_1.map (eI .u8)⟩, some ⟨5, [IntKind.u8.wrap vn_1].map (eI .u8)⟩]) (sv (d_buildS rfl (bldL1 (xs := [IntKind.u8.wrap vn_1].map (eI .u8)) ti22 ti5 zl zl rfl rfl rfl rfl rfl rfl rfl))) <| wS (v := (.sl 2 0 x12.length 1 false)) (h' := [none, some ⟨5, [IntKind.u8.wrap vn_1].map (eI .u8)⟩, some ⟨5, x12.map (eI .u8)⟩]) (sv (d_append rfl rfl (appS (E := (eI .u8)) rfl ti22 ti5 ⟨rfl, rfl, zl⟩ rfl (srcS rfl rfl) h_2 rfl rfl))) <| za rfl <| OpsW.nil <| Ex.inBlock_mk ?_
    refine Ex.then_mk ?_
    replace hr2 := bnd hr2; obtain ⟨x7, h_3, hr2⟩ := hr2
    refine AB.rw <| zm rfl <| wS (v := (eI .u32 x7)) (sv (d_bin rfl rfl (bin_shr' _ _ _ _ h_3))) <| za rfl <| zn ?_
    exact ⟨x7, x12, hr2, (zG [2])⟩
  · replace hr2 := iteF hr2 h1
    refine AB.exit <| Ex.then_exit_mk <| Ex.then_exit_mk <| Ex.inBlock_same_mk ?_
    obtain rfl := Option.some.inj hr2
    refine Ex.then_mk ?_
    exact hG1 _ _ _ _ (zG [0]) (J1 l0_1 hr)
set_option maxRecDepth 20000 in
set_option maxHeartbeats 1000000 in
theorem script_flag_ok (N : Nat) (v : Bool) (r : (List Int)) (hr : script_flag N v = some r) :
    Vm.Fn Tryd.prog 31 [] [(eB v)] (.sl 0 0 r.length 1 false) [some ⟨5, r.map (eI .u8)⟩] := by
  refine fn_ab Tryd.func31 rfl (by kernel_rfl) Tryd.ntmps31 zl rfl (fr := [(0, (eB v))]) rfl ?_
  unfold script_flag at hr
  refine zq <| wS (v := (.row (some true) 1 [])) (sv (d_assign rfl)) <| zn <| AB.seq <| zq <| zm rfl <| zn ?_
  refine AB.cnd rfl (fun h1 => ?_) (fun h1 => ?_)
  · replace hr := iteT hr h1
    refine AB.seq ?_
    replace hr := bnd hr; obtain ⟨x4, h_2, hr⟩ := hr
    refine AB.rw <| wC (v := (.sl 0 0 x4.length 1 false)) (h' := [some ⟨5, x4.map (eI .u8)⟩]) rfl (zB (script_Item_ok N 1 x4 h_2) []) <| za rfl <| zn <| AB.ret <| Ex.then_ret_mk ?_
    obtain rfl := Option.some.inj hr
    exact done_ret (r1 := (.sl 0 0 x4.length 1 false)) (res1 Tryd.results31 (rvT rfl)) (zG [0])
  · replace hr := iteF hr h1
    refine AB.skip <| Ex.then_mk <| AB.seq ?_
    replace hr := bnd hr; obtain ⟨x5, h_3, hr⟩ := hr
    refine AB.rw <| wC (v := (.sl 0 0 x5.length 1 false)) (h' := [some ⟨5, x5.map (eI .u8)⟩]) rfl (zB (script_Item_ok N 0 x5 h_3) []) <| za rfl <| zn <| AB.ret ?_
    obtain rfl := Option.some.inj hr
    exact done_ret (r1 := (.sl 0 0 x5.length 1 false)) (res1 Tryd.results31 (rvT rfl)) (zG [0])
set_option maxRecDepth 20000 in
set_option maxHeartbeats 1000000 in
theorem script_machine_replace_ok (N : Nat) (m_Env_Message : List Int) (m_Env_Height : Int) (m_Env_Age : Int) (m_stack : List (List Int)) (m_branches : List S_script_branch) (m_cost : Int) (vn : Int) (item : List Int) (r : (List Int) × Int × Int × (List (List Int)) × (List S_script_branch) × Int) (hr : script_machine_replace N m_Env_Message m_Env_Height m_Env_Age m_stack m_branches m_cost vn item = some r) :
    Vm.Fn Tryd.prog 30 [some ⟨49, (ar32 (eI .u8) m_Env_Message [(eI .i64 m_Env_Height), (eI .i64 m_Env_Age), (.sl 1 0 m_stack.length 1 false), (.sl 2 0 m_branches.length 2 true), (eI .i64 m_cost)])⟩, some ⟨22, m_stack.map (eL 1 (eI .u8))⟩, some ⟨62, m_branches.flatMap C_script_branch⟩] [(.ptr 0 0), (eI .i64 vn), (.row none 1 (item.map (eI .u8)))] (.tup []) [some ⟨49, (ar32 (eI .u8) r.1 [(eI .i64 r.2.1), (eI .i64 r.2.2.1), (.sl 3 0 r.2.2.2.1.length 1 false), (.sl 4 0 r.2.2.2.2.1.length 2 true), (eI .i64 r.2.2.2.2.2)])⟩, none, none, some ⟨22, r.2.2.2.1.map (eL 1 (eI .u8))⟩, some ⟨62, r.2.2.2.2.1.flatMap C_script_branch⟩] := by
  refine fn_ab Tryd.func30 rfl (by kernel_rfl) Tryd.ntmps30 zl rfl (fr := [(0, (.ptr 0 0)), (1, (eI .i64 vn)), (2, (.row none 1 (item.map (eI .u8))))]) rfl ?_
  unfold script_machine_replace at hr
  refine AB.seq ?_
  replace hr := bnd hr; obtain ⟨x8, h_1, hr⟩ := hr
  refine AB.rw <| zm rfl <| zm rfl <| wC (v := (.tup [])) (h' := [some ⟨49, (ar32 (eI .u8) x8.1 [(eI .i64 x8.2.1), (eI .i64 x8.2.2.1), (.sl 3 0 x8.2.2.2.1.length 1 false), (.sl 4 0 x8.2.2.2.2.1.length 2 true), (eI .i64 x8.2.2.2.2.2)])⟩, none, none, some ⟨22, x8.2.2.2.1.map (eL 1 (eI .u8))⟩, some ⟨62, x8.2.2.2.2.1.flatMap C_script_branch⟩]) rfl (zB (script_machine_drop_ok N m_Env_Message m_Env_Height m_Env_Age m_stack m_branches m_cost vn x8 h_1) [0, 1, 2]) <| zn ?_
  replace hr := bnd hr; obtain ⟨x16, h_2, hr⟩ := hr
  refine AB.rw <| zm rfl <| zm rfl <| wS (v := (.ptr 0 0)) (sv (d_nilP rfl)) <| wS (v := (.ptr 0 34)) (sv (d_fa rfl (fap49_1 ..))) <| wS (v := (.sl 3 0 x8.2.2.2.1.length 1 false)) (sv (d_load rfl (ldP rfl (part1 ti23 rfl rfl)))) <| zm rfl ?_
  refine wS (v := (.sl 5 0 1 1 false)) (h' := [some ⟨49, (ar32 (eI .u8) x8.1 [(eI .i64 x8.2.1), (eI .i64 x8.2.2.1), (.sl 3 0 x8.2.2.2.1.length 1 false), (.sl 4 0 x8.2.2.2.2.1.length 2 true), (eI .i64 x8.2.2.2.2.2)])⟩, none, none, some ⟨22, x8.2.2.2.1.map (eL 1 (eI .u8))⟩, some ⟨62, x8.2.2.2.2.1.flatMap C_script_branch⟩, some ⟨22, [item].map (eL 1 (eI .u8))⟩]) (sv (d_buildS rfl (bldL1 (xs := [item].map (eL 1 (eI .u8))) ti23 ti22 zl zl rfl rfl rfl rfl rfl rfl rfl))) ?_
  refine wS (v := (.sl 6 0 x16.length 1 false)) (h' := [some ⟨49, (ar32 (eI .u8) x8.1 [(eI .i64 x8.2.1), (eI .i64 x8.2.2.1), (.sl 3 0 x8.2.2.2.1.length 1 false), (.sl 4 0 x8.2.2.2.2.1.length 2 true), (eI .i64 x8.2.2.2.2.2)])⟩, none, none, none, some ⟨62, x8.2.2.2.2.1.flatMap C_script_branch⟩, some ⟨22, [item].map (eL 1 (eI .u8))⟩, some ⟨22, x16.map (eL 1 (eI .u8))⟩]) (sv (d_append rfl rfl (appS (E := (eL 1 (eI .u8))) rfl ti23 ti22 ⟨rfl, rfl, zl⟩ rfl (srcS rfl rfl) h_2 rfl rfl))) <| wS (v := (.ptr 0 0)) (sv (d_nilP rfl)) <| wS (v := (.ptr 0 34)) (sv (d_fa rfl (fap49_1 ..))) ?_
  refine wN (h' := [some ⟨49, (ar32 (eI .u8) x8.1 [(eI .i64 x8.2.1), (eI .i64 x8.2.2.1), (.sl 6 0 x16.length 1 false), (.sl 4 0 x8.2.2.2.2.1.length 2 true), (eI .i64 x8.2.2.2.2.2)])⟩, none, none, none, some ⟨62, x8.2.2.2.2.1.flatMap C_script_branch⟩, some ⟨22, [item].map (eL 1 (eI .u8))⟩, some ⟨22, x16.map (eL 1 (eI .u8))⟩]) (sv (d_store rfl rfl (stP ti23 rfl rfl rfl zl rfl))) <| OpsW.nil ?_
  obtain rfl := Option.some.inj hr
  exact done_norm (r1 := (.tup [])) (res0 Tryd.results30) (zG [0, 1, 2, 6, 4])
set_option maxRecDepth 20000 in
set_option maxHeartbeats 1000000 in
theorem sha_Pad_ok (N : Nat) (vn : Int) (r : (List Int)) (hr : sha_Pad N vn = some r) :
    Vm.Fn Tryd.prog 37 [] [(eI .u64 vn)] (.sl 0 0 r.length 1 false) [some ⟨5, r.map (eI .u8)⟩] := by
  refine fn_ab Tryd.func37 rfl (by kernel_rfl) Tryd.ntmps37 zl rfl (fr := [(0, (eI .u64 vn))]) rfl ?_
  unfold sha_Pad at hr
  refine zq <| wS (v := (.row (some true) 1 [])) (sv (d_assign rfl)) <| zn <| zq <| zm rfl <| wS (v := (eI .u64 (IntKind.u64.wrap (vn + 9)))) (sv (d_bin rfl rfl (bin_add ..))) <| wS (v := (eI .u64 (Int.tmod (IntKind.u64.wrap (vn + 9)) 64))) (sv (d_bin rfl rfl (bin_rem' _ _ _ _ rfl))) <| wS (v := (eI .u64 (IntKind.u64.wrap (64 - (Int.tmod (IntKind.u64.wrap (vn + 9)) 64))))) (sv (d_bin rfl rfl (bin_sub ..))) <| wS (v := (eI .u64 (Int.tmod (IntKind.u64.wrap (64 - (Int.tmod (IntKind.u64.wrap (vn + 9)) 64))) 64))) (sv (d_bin rfl rfl (bin_rem' _ _ _ _ rfl))) <| za rfl <| zn <| AB.seq ?_
  replace hr := bnd hr; obtain ⟨x15, h_1, hr⟩ := hr
  refine AB.rw <| zm rfl <| wS (v := (eI .u64 (IntKind.u64.wrap (1 + (Int.tmod (IntKind.u64.wrap (64 - (Int.tmod (IntKind.u64.wrap (vn + 9)) 64))) 64))))) (sv (d_bin rfl rfl (bin_add ..))) <| zm rfl <| wS (v := (eI .u64 (IntKind.u64.wrap (9 + (Int.tmod (IntKind.u64.wrap (64 - (Int.tmod (IntKind.u64.wrap (vn + 9)) 64))) 64))))) (sv (d_bin rfl rfl (bin_add ..))) <| wS (v := (.sl 0 0 x15.length 1 false)) (h' := [some ⟨5, x15.map (eI .u8)⟩]) (sv (d_mk rfl rfl (mkL (E := (eI .u8)) (y := 0) ti22 ti5 ⟨zl, rfl, rfl⟩ rfl rfl rfl h_1 rfl rfl))) <| za rfl <| zn <| AB.seq ?_
  replace hr := bnd hr; obtain ⟨x17, h_2, hr⟩ := hr
  refine AB.rw <| zm rfl <| wS (v := (.ptr 0 (Int.toNat 0))) (sv (d_ia rfl rfl (iaS rfl ti22 ti5 rfl h_2))) <| wN (h' := [some ⟨5, (x15.set (Int.toNat 0) 128).map (eI .u8)⟩]) (sv (d_store rfl rfl (stXe (E := (eI .u8)) (y := 128) ti5 rfl rfl h_2 rfl rfl rfl))) <| zn ?_
  refine AB.seq_g fun K1 hK1 hG1 => ?_
  have J1 : ∀ (l0 : List Int), sha_Pad_J1 N l0 = some r → K1 (mkF 33 [(4, (.sl 0 0 l0.length 1 false))]) [some ⟨5, l0.map (eI .u8)⟩] := by
    intro l0 hr
    unfold sha_Pad_J1 at hr
    refine hK1 _ _ <| zq <| zm rfl <| za rfl <| zn <| AB.ret ?_
    obtain rfl := Option.some.inj hr
    exact done_ret (r1 := (.sl 0 0 l0.length 1 false)) (res1 Tryd.results37 (rvT rfl)) (zG [0])
  refine zq <| wS (v := (eI .i64 0)) (sv (d_move rfl)) <| zn ?_
  replace hr := bnd hr; obtain ⟨res2, hL2, hr⟩ := hr
  refine AB.block <| AB.loopN (fun m s h => ∃ (x18 : Int) (l0_1 : List Int), sha_Pad_L2 N vn m x18 l0_1 = some res2 ∧ Ghost 0 s h (mkF 33 [(0, (eI .u64 vn)), (4, (.sl 0 0 l0_1.length 1 false)), (18, (eI .i64 x18))]) [some ⟨5, l0_1.map (eI .u8)⟩]) (n := N) ⟨0, x15.set (Int.toNat 0) 128, hL2, (Ghost.rn [0] rfl rfl (FLe.same rfl (FLe.le rfl (by first | exact V.le_refl _ _ | (simp only [len_set, len_cpy]; exact V.le_refl _ _)) (FLe.same rfl FLe.nil))) (HLe.live rfl (les_map (fun _ => rfl) _) (all_map (fun _ => rfl) _) HLe.nil) rfl)⟩ (by rintro s h ⟨_, _, h0, _⟩; simp [sha_Pad_L2] at h0) ?_
  rintro m2 s h ⟨x18, l0_1, hr2, hg⟩
  refine AB.ghost hg ?_
  clear hg hL2
  rw [sha_Pad_L2] at hr2
  refine zq <| wS (v := (eB (decide (x18 < 8)))) (sv (d_bin rfl rfl (bin_lss ..))) <| zn <| AB.seq ?_
  refine AB.cnd rfl (fun h3 => ?_) (fun h3 => ?_)
  · replace hr2 := iteT hr2 h3
    refine AB.skip <| Ex.then_mk <| AB.seq <| AB.block <| zq <| zm rfl <| za rfl <| zn ?_
    replace hr2 := bnd hr2; obtain ⟨x27, h_4, hr2⟩ := hr2
    replace hr2 := bnd hr2; obtain ⟨x30, h_5, hr2⟩ := hr2
    refine AB.rw <| zm rfl <| zm rfl <| wS (v := (eI .u64 (IntKind.u64.wrap (8 * vn)))) (sv (d_bin rfl rfl (bin_mul ..))) <| zm rfl <| wS (v := (eI .i64 (IntKind.i64.wrap (8 * x18)))) (sv (d_bin rfl rfl (bin_mul ..))) <| wS (v := (eI .i64 (IntKind.i64.wrap (56 - (IntKind.i64.wrap (8 * x18)))))) (sv (d_bin rfl rfl (bin_sub ..))) <| wS (sv (d_bin rfl rfl (bin_shr' _ _ _ _ h_4))) <| wS (sv (d_conv rfl (conv_int _ ⟨_, ti75⟩ ti5 rfl))) ?_
    refine wS (v := (.sl 1 0 1 1 false)) (h' := [some ⟨5, l0_1.map (eI .u8)⟩, some ⟨5, [IntKind.u8.wrap x27].map (eI .u8)⟩]) (sv (d_buildS rfl (bldL1 (xs := [IntKind.u8.wrap x27].map (eI .u8)) ti22 ti5 zl zl rfl rfl rfl rfl rfl rfl rfl))) <| wS (v := (.sl 2 0 x30.length 1 false)) (h' := [none, some ⟨5, [IntKind.u8.wrap x27].map (eI .u8)⟩, some ⟨5, x30.map (eI .u8)⟩]) (sv (d_append rfl rfl (appS (E := (eI .u8)) rfl ti22 ti5 ⟨rfl, rfl, zl⟩ rfl (srcS rfl rfl) h_5 rfl rfl))) <| za rfl <| OpsW.nil <| Ex.inBlock_mk <| Ex.then_mk <| AB.rw ?_
    refine wS (v := (eI .i64 (IntKind.i64.wrap (x18 + 1)))) (sv (d_bin rfl rfl (bin_add ..))) <| zm rfl <| zn ?_
    exact ⟨IntKind.i64.wrap (x18 + 1), x30, hr2, (zG [2])⟩
  · replace hr2 := iteF hr2 h3
    refine AB.exit <| Ex.then_exit_mk <| Ex.then_exit_mk <| Ex.inBlock_same_mk ?_
    obtain rfl := Option.some.inj hr2
    refine Ex.then_mk ?_
    exact hG1 _ _ _ _ (zG [0]) (J1 l0_1 hr)
set_option maxRecDepth 20000 in
set_option maxHeartbeats 1000000 in
theorem sha_row_ok (N : Nat) (parts : List (List Int)) (r : (List Int)) (hr : sha_row N parts = some r) :
    Vm.Fn Tryd.prog 36 [] [(.row none 1 (parts.map (eL 1 (eI .u8))))] (.sl 0 0 r.length 1 false) [some ⟨5, r.map (eI .u8)⟩] := by
  refine fn_ab Tryd.func36 rfl (by kernel_rfl) Tryd.ntmps36 zl rfl (fr := [(0, (.row none 1 (parts.map (eL 1 (eI .u8)))))]) rfl ?_
  unfold sha_row at hr
  refine zq <| wS (v := (.row (some true) 1 [])) (sv (d_assign rfl)) <| zn <| zq <| wS (v := (.row (some true) 1 [])) (sv (d_assign rfl)) <| zn ?_
  refine AB.seq_g fun K1 hK1 hG1 => ?_
  have J1 : ∀ (l0 : List Int), sha_row_J1 N l0 = some r → K1 (mkF 17 [(3, (.sl 0 0 l0.length 1 false))]) [some ⟨5, l0.map (eI .u8)⟩] := by
    intro l0 hr
    unfold sha_row_J1 at hr
    refine hK1 _ _ <| zq <| zm rfl <| za rfl <| zn <| AB.ret ?_
    obtain rfl := Option.some.inj hr
    exact done_ret (r1 := (.sl 0 0 l0.length 1 false)) (res1 Tryd.results36 (rvT rfl)) (zG [0])
  refine zq <| zm rfl <| wS (v := (eI .i64 (parts.length : Int))) (sv (d_len rfl (lenR ti23))) <| wS (v := (eI .i64 0)) (sv (d_move rfl)) <| zn ?_
  replace hr := bnd hr; obtain ⟨res2, hL2, hr⟩ := hr
  refine AB.block ?_
  refine AB.loopN (fun m s h => ∃ (x8 : Int) (l0_1 : List Int), sha_row_L2 N parts m x8 l0_1 = some res2 ∧ Ghost 0 s h (mkF 17 [(3, (.sl 0 0 l0_1.length 1 false)), (6, (.row none 1 (parts.map (eL 1 (eI .u8))))), (7, (eI .i64 (parts.length : Int))), (8, (eI .i64 x8))]) [some ⟨5, l0_1.map (eI .u8)⟩]) (n := N) ⟨0, [], hL2, (Ghost.trans (Ghost.virt (fr' := [(3, (.sl 0 0 0 1 false)), (6, (.row none 1 (parts.map (eL 1 (eI .u8))))), (7, (eI .i64 (parts.length : Int))), (8, (eI .i64 0))]) (h1 := []) 5 (FLe.le rfl (V.le_virt rfl) (FLe.same rfl (FLe.same rfl (FLe.same rfl FLe.nil)))) HLv.nil) (Ghost.rn [0] rfl rfl (FLe.le rfl (by first | exact V.le_refl _ _ | (simp only [len_set, len_cpy]; exact V.le_refl _ _)) (FLe.same rfl (FLe.same rfl (FLe.same rfl FLe.nil)))) (HLe.live rfl V.les_nil rfl HLe.nil) rfl))⟩ (by rintro s h ⟨_, _, h0, _⟩; simp [sha_row_L2] at h0) ?_
  rintro m2 s h ⟨x8, l0_1, hr2, hg⟩
  refine AB.ghost hg ?_
  clear hg hL2
  rw [sha_row_L2] at hr2
  refine zq <| wS (sv (d_bin rfl rfl (bin_lss ..))) <| zn <| AB.seq ?_
  refine AB.cnd rfl (fun h1 => ?_) (fun h1 => ?_)
  · replace hr2 := iteT hr2 h1
    refine AB.skip <| Ex.then_mk <| AB.seq <| AB.block <| AB.seq ?_
    replace hr2 := bnd hr2; obtain ⟨x10, h_2, hr2⟩ := hr2
    refine AB.rw <| wS (sv (d_ia rfl rfl (iaR ti23 ti22 h_2))) <| wS (v := (.row none 1 (x10.map (eI .u8)))) (sv (d_load rfl (ldR h_2 (part1 ti22 rfl rfl)))) <| za rfl <| zn ?_
    replace hr2 := bnd hr2; obtain ⟨x14, h_3, hr2⟩ := hr2
    refine AB.rw <| zm rfl <| zm rfl <| wS (v := (.sl 1 0 x14.length 1 false)) (h' := [none, some ⟨5, x14.map (eI .u8)⟩]) (sv (d_append rfl rfl (appS (E := (eI .u8)) rfl ti22 ti5 ⟨rfl, rfl, zl⟩ rfl (srcR (fun _ => rfl)) h_3 rfl rfl))) <| za rfl <| OpsW.nil <| Ex.inBlock_mk <| Ex.then_mk <| AB.rw <| wS (v := (eI .i64 (IntKind.i64.wrap (x8 + 1)))) (sv (d_bin rfl rfl (bin_add ..))) <| zm rfl <| zn ?_
    exact ⟨IntKind.i64.wrap (x8 + 1), x14, hr2, (zG [1])⟩
  · replace hr2 := iteF hr2 h1
    refine AB.exit <| Ex.then_exit_mk <| Ex.then_exit_mk <| Ex.inBlock_same_mk ?_
    obtain rfl := Option.some.inj hr2
    refine Ex.then_mk ?_
    exact hG1 _ _ _ _ (zG [0]) (J1 l0_1 hr)
set_option maxRecDepth 20000 in
set_option maxHeartbeats 1000000 in
theorem math_bits_RotateLeft32_ok (N : Nat) (x : Int) (k : Int) (r : Int) (hr : math_bits_RotateLeft32 N x k = some r) :
    Vm.Fn Tryd.prog 46 [] [(eI .u32 x), (eI .i64 k)] (eI .u32 r) [] := by
  refine fn_ab Tryd.func46 rfl (by kernel_rfl) Tryd.ntmps46 zl rfl (fr := [(0, (eI .u32 x)), (1, (eI .i64 k))]) rfl ?_
  unfold math_bits_RotateLeft32 at hr
  refine zq <| wS (v := (eI .u32 0)) (sv (d_assign rfl)) <| zn <| zq <| zm rfl <| wS (sv (d_conv rfl (conv_int _ ⟨_, ti3⟩ ti55 rfl))) <| wS (v := (eI .u64 (bits .and .u64 (IntKind.u64.wrap k) 31))) (sv (d_bin rfl rfl (bin_and ..))) <| za rfl <| zn <| AB.seq ?_
  replace hr := bnd hr; obtain ⟨x11, h_1, hr⟩ := hr
  replace hr := bnd hr; obtain ⟨x15, h_2, hr⟩ := hr
  refine AB.rw <| zm rfl <| zm rfl <| wS (sv (d_bin rfl rfl (bin_shl' _ _ _ _ h_1))) <| zm rfl <| zm rfl <| wS (v := (eI .u64 (IntKind.u64.wrap (32 - (bits .and .u64 (IntKind.u64.wrap k) 31))))) (sv (d_bin rfl rfl (bin_sub ..))) <| wS (sv (d_bin rfl rfl (bin_shr' _ _ _ _ h_2))) <| wS (sv (d_bin rfl rfl (bin_or ..))) <| za rfl <| zn <| AB.ret ?_
  obtain rfl := Option.some.inj hr
  exact done_ret (r1 := (eI .u32 (bits .or .u32 x11 x15))) (res1 Tryd.results46 (rvT rfl)) (zG [])
set_option maxRecDepth 20000 in
set_option maxHeartbeats 1000000 in
theorem sha_rotr_ok (N : Nat) (x : Int) (vn : Int) (r : Int) (hr : sha_rotr N x vn = some r) :
    Vm.Fn Tryd.prog 41 [] [(eI .u32 x), (eI .i64 vn)] (eI .u32 r) [] := by
  refine fn_ab Tryd.func41 rfl (by kernel_rfl) Tryd.ntmps41 zl rfl (fr := [(0, (eI .u32 x)), (1, (eI .i64 vn))]) rfl ?_
  unfold sha_rotr at hr
  refine zq <| wS (v := (eI .u32 0)) (sv (d_assign rfl)) <| zn <| AB.seq ?_
  replace hr := bnd hr; obtain ⟨x8, h_1, hr⟩ := hr
  refine AB.rw <| zm rfl <| zm rfl <| wS (sv (d_un rfl (un_neg ..))) <| wC rfl (Vm.Fn.pure (math_bits_RotateLeft32_ok N x (IntKind.i64.wrap (0 - vn)) x8 h_1) rfl rfl) <| za rfl <| zn <| AB.ret ?_
  obtain rfl := Option.some.inj hr
  exact done_ret (r1 := (eI .u32 x8)) (res1 Tryd.results41 (rvT rfl)) (zG [])
set_option maxRecDepth 20000 in
set_option maxHeartbeats 1000000 in
theorem sha_schedule_ok (N : Nat) (block : List Int) (r : (List Int)) (hr : sha_schedule N block = some r) :
    Vm.Fn Tryd.prog 40 [] [(.agg (block.map (eI .u8)))] (.agg (r.map (eI .u32))) [] := by
  refine fn_ab Tryd.func40 rfl (by kernel_rfl) Tryd.ntmps40 zl rfl (fr := [(0, (.agg (block.map (eI .u8))))]) rfl ?_
  unfold sha_schedule at hr
  refine zq <| wS (v := (.ptr 0 0)) (h' := [some ⟨78, block.map (eI .u8)⟩]) (sv (d_box rfl (flatA (fun _ => rfl)) rfl rfl)) <| wS (v := (.ptr 1 0)) (h' := [some ⟨78, block.map (eI .u8)⟩, some ⟨80, (List.replicate 64 0).map (eI .u32)⟩]) (sv (d_alloc ti80 rfl rfl rfl)) <| zn <| zq <| wS (v := (.ptr 2 0)) (h' := [some ⟨78, block.map (eI .u8)⟩, some ⟨80, (List.replicate 64 0).map (eI .u32)⟩, some ⟨80, (List.replicate 64 0).map (eI .u32)⟩]) (sv (d_alloc ti80 rfl rfl rfl)) <| zn ?_
  refine AB.seq_g fun K1 hK1 hG1 => ?_
  have J1 : ∀ (l1 : List Int), sha_schedule_J1 N l1 = some r → K1 (mkF 85 [(2, (.ptr 0 0)), (3, (.ptr 1 0))]) [some ⟨80, (List.replicate 64 0).map (eI .u32)⟩, some ⟨80, l1.map (eI .u32)⟩] := by
    intro l1 hr
    unfold sha_schedule_J1 at hr
    refine hK1 _ _ ?_
    refine AB.seq_g fun K2 hK2 hG2 => ?_
    have J2 : ∀ (l1_1 : List Int), sha_schedule_J2 N l1_1 = some r → K2 (mkF 85 [(2, (.ptr 0 0)), (3, (.ptr 1 0))]) [some ⟨80, (List.replicate 64 0).map (eI .u32)⟩, some ⟨80, l1_1.map (eI .u32)⟩] := by
      intro l1_1 hr
      unfold sha_schedule_J2 at hr
      refine hK2 _ _ <| AB.seq ?_
      replace hr := bnd hr; obtain ⟨q, h_1, hr⟩ := hr
      refine AB.rw <| wS (v := (.agg (l1_1.map (eI .u32)))) (sv (d_load rfl (ldA (E := (eI .u32)) (l := l1_1) ti80 rfl rfl (arr_len h_1)))) <| wN (h' := [some ⟨80, l1_1.map (eI .u32)⟩, some ⟨80, l1_1.map (eI .u32)⟩]) (sv (d_store rfl rfl (stA (E := (eI .u32)) (l := List.replicate 64 0) ti80 rfl rfl (fun _ => rfl) rfl (arr_len h_1) rfl))) <| zn <| AB.ret ?_
      obtain rfl := Option.some.inj hr
      exact done_ret (r1 := (.agg (l1_1.map (eI .u32)))) (res1 Tryd.results40 (rvC rfl (ldA (E := (eI .u32)) (l := l1_1) ti80 rfl rfl (arr_len h_1)))) (zG [])
    refine zq <| wS (v := (eI .i64 16)) (sv (d_assign rfl)) <| zn ?_
    replace hr := bnd hr; obtain ⟨res3, hL3, hr⟩ := hr
    refine AB.block <| AB.loopN (fun m s h => ∃ (vi : Int) (l1_2 : List Int), sha_schedule_L3 N m vi l1_2 = some res3 ∧ Ghost 0 s h (mkF 85 [(2, (.ptr 0 0)), (3, (.ptr 1 0)), (6, (eI .i64 vi))]) [some ⟨80, (List.replicate 64 0).map (eI .u32)⟩, some ⟨80, l1_2.map (eI .u32)⟩]) (n := N) ⟨16, l1, hL3, (zG [0, 1])⟩ (by rintro s h ⟨_, _, h0, _⟩; simp [sha_schedule_L3] at h0) ?_
    rintro m3 s h ⟨vi, l1_2, hr3, hg⟩
    refine AB.ghost hg ?_
    clear hg hL3
    rw [sha_schedule_L3] at hr3
    refine AB.seq <| zq <| zm rfl <| wS (v := (eB (decide (vi < 64)))) (sv (d_bin rfl rfl (bin_lss ..))) <| zn ?_
    refine AB.cnd rfl (fun h2 => ?_) (fun h2 => ?_)
    · replace hr3 := iteT hr3 h2
      refine AB.skip <| Ex.then_mk <| AB.seq <| AB.block <| AB.seq ?_
      replace hr3 := bnd hr3; obtain ⟨x37, h_3, hr3⟩ := hr3
      replace hr3 := bnd hr3; obtain ⟨x39, h_4, hr3⟩ := hr3
      replace hr3 := bnd hr3; obtain ⟨x44, h_6, hr3⟩ := hr3
      replace hr3 := bnd hr3; obtain ⟨x50, h_8, hr3⟩ := hr3
      refine AB.rd (memF [41]) (memF []) mixed <| DrawG.pick (n := 17) (i := 0) (by decide +kernel) rfl (gS (v := (eI .i64 vi)) (sv (d_move rfl))) <| DrawG.pick (n := 16) (i := 1) (by decide +kernel) rfl (gS (v := (eI .i64 (IntKind.i64.wrap (vi - 15)))) (sv (d_bin rfl rfl (bin_sub ..)))) <| DrawG.pick (n := 15) (i := 2) (by decide +kernel) rfl (gS (v := (.ptr 1 (Int.toNat (IntKind.i64.wrap (vi - 15))))) (sv (d_ia rfl rfl (iaB ti80 ti37 rfl h_3)))) <| DrawG.pick (n := 14) (i := 3) (by decide +kernel) rfl (gS (v := (eI .u32 x37)) (sv (d_load rfl (ldX (E := (eI .u32)) (y := x37) ti37 rfl rfl (aix_idx h_3))))) ?_
      refine DrawG.pick (n := 13) (i := 4) (by decide +kernel) rfl (gU (fun _ => (Vm.Fn.pure (sha_rotr_ok N x37 7 x39 h_4) rfl rfl)) rfl (sv (d_call rfl orcU_hit))) <| DrawG.pick (n := 12) (i := 5) (by decide +kernel) rfl (gS (v := (eI .i64 vi)) (sv (d_move rfl))) <| DrawG.pick (n := 11) (i := 6) (by decide +kernel) rfl (gS (v := (eI .i64 (IntKind.i64.wrap (vi - 15)))) (sv (d_bin rfl rfl (bin_sub ..)))) <| DrawG.pick (n := 10) (i := 7) (by decide +kernel) rfl (gS (v := (.ptr 1 (Int.toNat (IntKind.i64.wrap (vi - 15))))) (sv (d_ia rfl rfl (iaB ti80 ti37 rfl h_3)))) ?_
      refine DrawG.pick (n := 9) (i := 8) (by decide +kernel) rfl (gS (v := (eI .u32 x37)) (sv (d_load rfl (ldX (E := (eI .u32)) (y := x37) ti37 rfl rfl (aix_idx h_3))))) <| DrawG.pick (n := 8) (i := 9) (by decide +kernel) rfl (gU (fun _ => (Vm.Fn.pure (sha_rotr_ok N x37 18 x44 h_6) rfl rfl)) rfl (sv (d_call rfl orcU_hit))) <| DrawG.pick (n := 7) (i := 10) (by decide +kernel) rfl (gS (v := (eI .u32 (bits .xor .u32 x39 x44))) (sv (d_bin rfl rfl (bin_xor ..)))) <| DrawG.pick (n := 6) (i := 11) (by decide +kernel) rfl (gS (v := (eI .i64 vi)) (sv (d_move rfl))) ?_
      refine DrawG.pick (n := 5) (i := 12) (by decide +kernel) rfl (gS (v := (eI .i64 (IntKind.i64.wrap (vi - 15)))) (sv (d_bin rfl rfl (bin_sub ..)))) <| DrawG.pick (n := 4) (i := 13) (by decide +kernel) rfl (gS (v := (.ptr 1 (Int.toNat (IntKind.i64.wrap (vi - 15))))) (sv (d_ia rfl rfl (iaB ti80 ti37 rfl h_3)))) <| DrawG.pick (n := 3) (i := 14) (by decide +kernel) rfl (gS (v := (eI .u32 x37)) (sv (d_load rfl (ldX (E := (eI .u32)) (y := x37) ti37 rfl rfl (aix_idx h_3))))) <| DrawG.pick (n := 2) (i := 15) (by decide +kernel) rfl (gS (v := (eI .u32 x50)) (sv (d_bin rfl rfl (bin_shr' _ _ _ _ h_8)))) ?_
      refine DrawG.pick (n := 1) (i := 16) (by decide +kernel) rfl (gS (v := (eI .u32 (bits .xor .u32 (bits .xor .u32 x39 x44) x50))) (sv (d_bin rfl rfl (bin_xor ..)))) <| DrawG.pick (n := 0) (i := 17) (by decide +kernel) rfl (gS (v := (eI .u32 (bits .xor .u32 (bits .xor .u32 x39 x44) x50))) (sv (d_assign rfl))) <| DrawG.nil (by decide +kernel) <| Ex.then_mk <| AB.seq ?_
      replace hr3 := bnd hr3; obtain ⟨x54, h_9, hr3⟩ := hr3
      replace hr3 := bnd hr3; obtain ⟨x56, h_10, hr3⟩ := hr3
      replace hr3 := bnd hr3; obtain ⟨x61, h_12, hr3⟩ := hr3
      replace hr3 := bnd hr3; obtain ⟨x67, h_14, hr3⟩ := hr3
      refine AB.rd (memF [41]) (memF []) mixed <| DrawG.pick (n := 17) (i := 0) (by decide +kernel) rfl (gS (v := (eI .i64 vi)) (sv (d_move rfl))) <| DrawG.pick (n := 16) (i := 1) (by decide +kernel) rfl (gS (v := (eI .i64 (IntKind.i64.wrap (vi - 2)))) (sv (d_bin rfl rfl (bin_sub ..)))) <| DrawG.pick (n := 15) (i := 2) (by decide +kernel) rfl (gS (v := (.ptr 1 (Int.toNat (IntKind.i64.wrap (vi - 2))))) (sv (d_ia rfl rfl (iaB ti80 ti37 rfl h_9)))) <| DrawG.pick (n := 14) (i := 3) (by decide +kernel) rfl (gS (v := (eI .u32 x54)) (sv (d_load rfl (ldX (E := (eI .u32)) (y := x54) ti37 rfl rfl (aix_idx h_9))))) ?_
      refine DrawG.pick (n := 13) (i := 4) (by decide +kernel) rfl (gU (fun _ => (Vm.Fn.pure (sha_rotr_ok N x54 17 x56 h_10) rfl rfl)) rfl (sv (d_call rfl orcU_hit))) <| DrawG.pick (n := 12) (i := 5) (by decide +kernel) rfl (gS (v := (eI .i64 vi)) (sv (d_move rfl))) <| DrawG.pick (n := 11) (i := 6) (by decide +kernel) rfl (gS (v := (eI .i64 (IntKind.i64.wrap (vi - 2)))) (sv (d_bin rfl rfl (bin_sub ..)))) <| DrawG.pick (n := 10) (i := 7) (by decide +kernel) rfl (gS (v := (.ptr 1 (Int.toNat (IntKind.i64.wrap (vi - 2))))) (sv (d_ia rfl rfl (iaB ti80 ti37 rfl h_9)))) ?_
      refine DrawG.pick (n := 9) (i := 8) (by decide +kernel) rfl (gS (v := (eI .u32 x54)) (sv (d_load rfl (ldX (E := (eI .u32)) (y := x54) ti37 rfl rfl (aix_idx h_9))))) <| DrawG.pick (n := 8) (i := 9) (by decide +kernel) rfl (gU (fun _ => (Vm.Fn.pure (sha_rotr_ok N x54 19 x61 h_12) rfl rfl)) rfl (sv (d_call rfl orcU_hit))) <| DrawG.pick (n := 7) (i := 10) (by decide +kernel) rfl (gS (v := (eI .u32 (bits .xor .u32 x56 x61))) (sv (d_bin rfl rfl (bin_xor ..)))) <| DrawG.pick (n := 6) (i := 11) (by decide +kernel) rfl (gS (v := (eI .i64 vi)) (sv (d_move rfl))) ?_
      refine DrawG.pick (n := 5) (i := 12) (by decide +kernel) rfl (gS (v := (eI .i64 (IntKind.i64.wrap (vi - 2)))) (sv (d_bin rfl rfl (bin_sub ..)))) <| DrawG.pick (n := 4) (i := 13) (by decide +kernel) rfl (gS (v := (.ptr 1 (Int.toNat (IntKind.i64.wrap (vi - 2))))) (sv (d_ia rfl rfl (iaB ti80 ti37 rfl h_9)))) <| DrawG.pick (n := 3) (i := 14) (by decide +kernel) rfl (gS (v := (eI .u32 x54)) (sv (d_load rfl (ldX (E := (eI .u32)) (y := x54) ti37 rfl rfl (aix_idx h_9))))) <| DrawG.pick (n := 2) (i := 15) (by decide +kernel) rfl (gS (v := (eI .u32 x67)) (sv (d_bin rfl rfl (bin_shr' _ _ _ _ h_14)))) ?_
      refine DrawG.pick (n := 1) (i := 16) (by decide +kernel) rfl (gS (v := (eI .u32 (bits .xor .u32 (bits .xor .u32 x56 x61) x67))) (sv (d_bin rfl rfl (bin_xor ..)))) <| DrawG.pick (n := 0) (i := 17) (by decide +kernel) rfl (gS (v := (eI .u32 (bits .xor .u32 (bits .xor .u32 x56 x61) x67))) (sv (d_assign rfl))) <| DrawG.nil (by decide +kernel) <| Ex.then_mk ?_
      replace hr3 := bnd hr3; obtain ⟨x72, h_15, hr3⟩ := hr3
      replace hr3 := bnd hr3; obtain ⟨x78, h_16, hr3⟩ := hr3
      replace hr3 := bnd hr3; obtain ⟨x83, h_17, hr3⟩ := hr3
      refine AB.rg E0 (fun _ => by show drawOk (fun _ => false) _ = true; decide +kernel) <| tS (sv (d_move rfl)) <| tS (sv (d_move rfl)) <| tS (v := (eI .i64 (IntKind.i64.wrap (vi - 16)))) (sv (d_bin rfl rfl (bin_sub ..))) <| tS (v := (.ptr 1 (Int.toNat (IntKind.i64.wrap (vi - 16))))) (sv (d_ia rfl rfl (iaB ti80 ti37 rfl h_15))) <| tS (v := (eI .u32 x72)) (sv (d_load rfl (ldX (E := (eI .u32)) (y := x72) ti37 rfl rfl (aix_idx h_15)))) <| tS (sv (d_move rfl)) <| tS (sv (d_bin rfl rfl (bin_add ..))) <| tS (sv (d_move rfl)) <| tS (v := (eI .i64 (IntKind.i64.wrap (vi - 7)))) (sv (d_bin rfl rfl (bin_sub ..))) ?_
      refine tS (v := (.ptr 1 (Int.toNat (IntKind.i64.wrap (vi - 7))))) (sv (d_ia rfl rfl (iaB ti80 ti37 rfl h_16))) <| tS (v := (eI .u32 x78)) (sv (d_load rfl (ldX (E := (eI .u32)) (y := x78) ti37 rfl rfl (aix_idx h_16)))) <| tS (sv (d_bin rfl rfl (bin_add ..))) <| tS (sv (d_move rfl)) <| tS (sv (d_bin rfl rfl (bin_add ..))) <| tS (v := (.ptr 1 (Int.toNat vi))) (sv (d_ia rfl rfl (iaB ti80 ti37 rfl h_17))) ?_
      refine tN (h' := [some ⟨80, (List.replicate 64 0).map (eI .u32)⟩, some ⟨80, (l1_2.set (Int.toNat vi) (IntKind.u32.wrap ((IntKind.u32.wrap ((IntKind.u32.wrap (x72 + (bits .xor .u32 (bits .xor .u32 x39 x44) x50))) + x78)) + (bits .xor .u32 (bits .xor .u32 x56 x61) x67)))).map (eI .u32)⟩]) (sv (d_store rfl rfl (stXe (E := (eI .u32)) (y := IntKind.u32.wrap ((IntKind.u32.wrap ((IntKind.u32.wrap (x72 + (bits .xor .u32 (bits .xor .u32 x39 x44) x50))) + x78)) + (bits .xor .u32 (bits .xor .u32 x56 x61) x67))) ti37 rfl rfl (aix_idx h_17) rfl rfl rfl))) <| OpsTo.nil <| Ex.inBlock_mk <| Ex.then_mk <| AB.rw ?_
      refine zm rfl <| wS (v := (eI .i64 (IntKind.i64.wrap (vi + 1)))) (sv (d_bin rfl rfl (bin_add ..))) <| za rfl <| zn ?_
      exact ⟨IntKind.i64.wrap (vi + 1), l1_2.set (Int.toNat vi) (IntKind.u32.wrap ((IntKind.u32.wrap ((IntKind.u32.wrap (x72 + (bits .xor .u32 (bits .xor .u32 x39 x44) x50))) + x78)) + (bits .xor .u32 (bits .xor .u32 x56 x61) x67))), hr3, (zG [0, 1])⟩
    · replace hr3 := iteF hr3 h2
      refine AB.exit <| Ex.then_exit_mk <| Ex.then_exit_mk <| Ex.inBlock_same_mk ?_
      obtain rfl := Option.some.inj hr3
      refine Ex.then_mk ?_
      exact hG2 _ _ _ _ (zG [0, 1]) (J2 l1_2 hr)
  refine zq <| wS (v := (eI .i64 0)) (sv (d_move rfl)) <| zn ?_
  replace hr := bnd hr; obtain ⟨res4, hL4, hr⟩ := hr
  refine AB.block <| AB.loopN (fun m s h => ∃ (x9 : Int) (l2 : List Int), sha_schedule_L4 N block m x9 l2 = some res4 ∧ Ghost 0 s h (mkF 85 [(1, (.ptr 0 0)), (2, (.ptr 1 0)), (3, (.ptr 2 0)), (9, (eI .i64 x9))]) [some ⟨78, block.map (eI .u8)⟩, some ⟨80, (List.replicate 64 0).map (eI .u32)⟩, some ⟨80, l2.map (eI .u32)⟩]) (n := N) ⟨0, List.replicate 64 0, hL4, (zG [0, 1, 2])⟩ (by rintro s h ⟨_, _, h0, _⟩; simp [sha_schedule_L4] at h0) ?_
  rintro m4 s h ⟨x9, l2, hr4, hg⟩
  refine AB.ghost hg ?_
  clear hg hL4
  rw [sha_schedule_L4] at hr4
  refine zq <| wS (v := (eB (decide (x9 < 16)))) (sv (d_bin rfl rfl (bin_lss ..))) <| zn <| AB.seq ?_
  refine AB.cnd rfl (fun h18 => ?_) (fun h18 => ?_)
  · replace hr4 := iteT hr4 h18
    refine AB.skip <| Ex.then_mk ?_
    refine AB.seq_g fun K5 hK5 hG5 => ?_
    have J5 : ∀ (l2_1 : List Int), sha_schedule_J5 N block x9 (sha_schedule_L4 N block m4) l2_1 = some res4 → K5 (mkF 85 [(1, (.ptr 0 0)), (2, (.ptr 1 0)), (3, (.ptr 2 0)), (9, (eI .i64 x9))]) [some ⟨78, block.map (eI .u8)⟩, some ⟨80, (List.replicate 64 0).map (eI .u32)⟩, some ⟨80, l2_1.map (eI .u32)⟩] := by
      intro l2_1 hr4
      unfold sha_schedule_J5 at hr4
      refine hK5 _ _ <| AB.rw <| wS (v := (eI .i64 (IntKind.i64.wrap (x9 + 1)))) (sv (d_bin rfl rfl (bin_add ..))) <| zm rfl <| zn ?_
      exact ⟨IntKind.i64.wrap (x9 + 1), l2_1, hr4, (zG [0, 1, 2])⟩
    refine AB.block <| zq <| zm rfl <| za rfl <| zn <| zq <| wS (v := (eI .i64 0)) (sv (d_move rfl)) <| zn ?_
    replace hr4 := bnd hr4; obtain ⟨res6, hL6, hr4⟩ := hr4
    refine AB.block <| AB.loopN (fun m s h => ∃ (x12 : Int) (l2_2 : List Int), sha_schedule_L6 N block x9 m x12 l2_2 = some res6 ∧ Ghost 0 s h (mkF 85 [(1, (.ptr 0 0)), (2, (.ptr 1 0)), (3, (.ptr 2 0)), (4, (eI .i64 x9)), (9, (eI .i64 x9)), (12, (eI .i64 x12))]) [some ⟨78, block.map (eI .u8)⟩, some ⟨80, (List.replicate 64 0).map (eI .u32)⟩, some ⟨80, l2_2.map (eI .u32)⟩]) (n := N) ⟨0, l2, hL6, (zG [0, 1, 2])⟩ (by rintro s h ⟨_, _, h0, _⟩; simp [sha_schedule_L6] at h0) ?_
    rintro m6 s h ⟨x12, l2_2, hr6, hg⟩
    refine AB.ghost hg ?_
    clear hg hL6
    rw [sha_schedule_L6] at hr6
    refine zq <| wS (v := (eB (decide (x12 < 4)))) (sv (d_bin rfl rfl (bin_lss ..))) <| zn <| AB.seq ?_
    refine AB.cnd rfl (fun h19 => ?_) (fun h19 => ?_)
    · replace hr6 := iteT hr6 h19
      refine AB.skip <| Ex.then_mk <| AB.seq <| AB.block <| zq <| zm rfl <| za rfl <| zn ?_
      replace hr6 := bnd hr6; obtain ⟨x17, h_20, hr6⟩ := hr6
      replace hr6 := bnd hr6; obtain ⟨x19, h_21, hr6⟩ := hr6
      replace hr6 := bnd hr6; obtain ⟨x24, h_22, hr6⟩ := hr6
      refine AB.rg E0 (fun _ => by show drawOk (fun _ => false) _ = true; decide +kernel) <| tS (sv (d_move rfl)) <| tS (sv (d_move rfl)) <| tS (v := (.ptr 2 (Int.toNat x9))) (sv (d_ia rfl rfl (iaB ti80 ti37 rfl h_20))) <| tS (v := (eI .u32 x17)) (sv (d_load rfl (ldX (E := (eI .u32)) (y := x17) ti37 rfl rfl (aix_idx h_20)))) <| tS (v := (eI .u32 x19)) (sv (d_bin rfl rfl (bin_shl' _ _ _ _ h_21))) <| tS (sv (d_move rfl)) <| tS (v := (eI .i64 (IntKind.i64.wrap (4 * x9)))) (sv (d_bin rfl rfl (bin_mul ..))) <| tS (sv (d_move rfl)) <| tS (sv (d_bin rfl rfl (bin_add ..))) ?_
      refine tS (v := (.ptr 0 (Int.toNat (IntKind.i64.wrap ((IntKind.i64.wrap (4 * x9)) + x12))))) (sv (d_ia rfl rfl (iaB ti78 ti5 rfl h_22))) <| tS (v := (eI .u8 x24)) (sv (d_load rfl (ldX (E := (eI .u8)) (y := x24) ti5 rfl rfl (aix_idx h_22)))) <| tS (sv (d_conv rfl (conv_int _ ⟨_, ti5⟩ ti37 rfl))) <| tS (sv (d_bin rfl rfl (bin_or ..))) <| tS (v := (.ptr 2 (Int.toNat x9))) (sv (d_ia rfl rfl (iaB ti80 ti37 rfl h_20))) ?_
      refine tN (h' := [some ⟨78, block.map (eI .u8)⟩, some ⟨80, (List.replicate 64 0).map (eI .u32)⟩, some ⟨80, (l2_2.set (Int.toNat x9) (bits .or .u32 x19 (IntKind.u32.wrap x24))).map (eI .u32)⟩]) (sv (d_store rfl rfl (stXe (E := (eI .u32)) (y := bits .or .u32 x19 (IntKind.u32.wrap x24)) ti37 rfl rfl (aix_idx h_20) rfl rfl rfl))) <| OpsTo.nil <| Ex.inBlock_mk <| Ex.then_mk <| AB.rw <| wS (v := (eI .i64 (IntKind.i64.wrap (x12 + 1)))) (sv (d_bin rfl rfl (bin_add ..))) <| zm rfl <| zn ?_
      exact ⟨IntKind.i64.wrap (x12 + 1), l2_2.set (Int.toNat x9) (bits .or .u32 x19 (IntKind.u32.wrap x24)), hr6, (zG [0, 1, 2])⟩
    · replace hr6 := iteF hr6 h19
      refine AB.exit <| Ex.then_exit_mk <| Ex.then_exit_mk <| Ex.inBlock_same_mk ?_
      obtain rfl := Option.some.inj hr6
      refine Ex.inBlock_mk <| Ex.then_mk ?_
      exact hG5 _ _ _ _ (zG [0, 1, 2]) (J5 l2_2 hr4)
  · replace hr4 := iteF hr4 h18
    refine AB.exit <| Ex.then_exit_mk <| Ex.then_exit_mk <| Ex.inBlock_same_mk ?_
    obtain rfl := Option.some.inj hr4
    refine Ex.then_mk ?_
    exact hG1 _ _ _ _ (zG [1, 2]) (J1 l2 hr)
set_option maxRecDepth 20000 in
set_option maxHeartbeats 1000000 in
theorem sha_Compress_ok (N : Nat) (state : List Int) (block : List Int) (r : (List Int)) (hr : sha_Compress N state block = some r) :
    Vm.Fn Tryd.prog 38 [] [(.agg (state.map (eI .u32))), (.agg (block.map (eI .u8)))] (.agg (r.map (eI .u32))) [] := by
  refine fn_ab Tryd.func38 rfl (by kernel_rfl) Tryd.ntmps38 zl rfl (fr := [(0, (.agg (state.map (eI .u32)))), (1, (.agg (block.map (eI .u8))))]) rfl ?_
  unfold sha_Compress at hr
  refine zq <| wS (v := (.ptr 0 0)) (h' := [some ⟨76, state.map (eI .u32)⟩]) (sv (d_box rfl (flatA (fun _ => rfl)) rfl rfl)) <| wS (v := (.ptr 1 0)) (h' := [some ⟨76, state.map (eI .u32)⟩, some ⟨78, block.map (eI .u8)⟩]) (sv (d_box rfl (flatA (fun _ => rfl)) rfl rfl)) <| wS (v := (.ptr 2 0)) (h' := [some ⟨76, state.map (eI .u32)⟩, some ⟨78, block.map (eI .u8)⟩, some ⟨76, (List.replicate 8 0).map (eI .u32)⟩]) (sv (d_alloc ti76 rfl rfl rfl)) <| zn <| AB.seq ?_
  replace hr := bnd hr; obtain ⟨q, h_1, hr⟩ := hr
  replace hr := bnd hr; obtain ⟨x18, h_2, hr⟩ := hr
  replace hr := bnd hr; obtain ⟨q_1, h_3, hr⟩ := hr
  refine AB.rw <| wS (v := (.agg (block.map (eI .u8)))) (sv (d_load rfl (ldA (E := (eI .u8)) (l := block) ti78 rfl rfl (arr_len h_1)))) <| wC rfl (Vm.Fn.pure (sha_schedule_ok N block x18 h_2) zR zR) <| wS (v := (.ptr 3 0)) (h' := [some ⟨76, state.map (eI .u32)⟩, some ⟨78, block.map (eI .u8)⟩, some ⟨76, (List.replicate 8 0).map (eI .u32)⟩, some ⟨80, (List.replicate 64 0).map (eI .u32)⟩]) (sv (d_alloc ti80 rfl rfl rfl)) ?_
  refine wN (h' := [some ⟨76, state.map (eI .u32)⟩, some ⟨78, block.map (eI .u8)⟩, some ⟨76, (List.replicate 8 0).map (eI .u32)⟩, some ⟨80, x18.map (eI .u32)⟩]) (sv (d_store rfl rfl (stA (E := (eI .u32)) (l := List.replicate 64 0) ti80 rfl rfl (fun _ => rfl) rfl (arr_len h_3) rfl))) <| zn <| AB.seq ?_
  replace hr := bnd hr; obtain ⟨x19, h_4, hr⟩ := hr
  replace hr := bnd hr; obtain ⟨x21, h_5, hr⟩ := hr
  replace hr := bnd hr; obtain ⟨x23, h_6, hr⟩ := hr
  replace hr := bnd hr; obtain ⟨x25, h_7, hr⟩ := hr
  refine AB.rg E0 (fun _ => by show drawOk (fun _ => false) _ = true; decide +kernel) <| tS (v := (.ptr 0 (Int.toNat 0))) (sv (d_ia rfl rfl (iaB ti76 ti37 rfl h_4))) <| tS (v := (eI .u32 x19)) (sv (d_load rfl (ldX (E := (eI .u32)) (y := x19) ti37 rfl rfl (aix_idx h_4)))) <| tS (v := (.ptr 0 (Int.toNat 1))) (sv (d_ia rfl rfl (iaB ti76 ti37 rfl h_5))) <| tS (v := (eI .u32 x21)) (sv (d_load rfl (ldX (E := (eI .u32)) (y := x21) ti37 rfl rfl (aix_idx h_5)))) <| tS (v := (.ptr 0 (Int.toNat 2))) (sv (d_ia rfl rfl (iaB ti76 ti37 rfl h_6))) ?_
  refine tS (v := (eI .u32 x23)) (sv (d_load rfl (ldX (E := (eI .u32)) (y := x23) ti37 rfl rfl (aix_idx h_6)))) <| tS (v := (.ptr 0 (Int.toNat 3))) (sv (d_ia rfl rfl (iaB ti76 ti37 rfl h_7))) <| tS (v := (eI .u32 x25)) (sv (d_load rfl (ldX (E := (eI .u32)) (y := x25) ti37 rfl rfl (aix_idx h_7)))) <| tS (sv (d_assign rfl)) <| tS (sv (d_assign rfl)) <| tS (sv (d_assign rfl)) <| tS (sv (d_assign rfl)) <| OpsTo.nil <| Ex.then_mk <| AB.seq ?_
  replace hr := bnd hr; obtain ⟨x27, h_8, hr⟩ := hr
  replace hr := bnd hr; obtain ⟨x29, h_9, hr⟩ := hr
  replace hr := bnd hr; obtain ⟨x31, h_10, hr⟩ := hr
  replace hr := bnd hr; obtain ⟨x33, h_11, hr⟩ := hr
  refine AB.rg E0 (fun _ => by show drawOk (fun _ => false) _ = true; decide +kernel) <| tS (v := (.ptr 0 (Int.toNat 4))) (sv (d_ia rfl rfl (iaB ti76 ti37 rfl h_8))) <| tS (v := (eI .u32 x27)) (sv (d_load rfl (ldX (E := (eI .u32)) (y := x27) ti37 rfl rfl (aix_idx h_8)))) <| tS (v := (.ptr 0 (Int.toNat 5))) (sv (d_ia rfl rfl (iaB ti76 ti37 rfl h_9))) <| tS (v := (eI .u32 x29)) (sv (d_load rfl (ldX (E := (eI .u32)) (y := x29) ti37 rfl rfl (aix_idx h_9)))) <| tS (v := (.ptr 0 (Int.toNat 6))) (sv (d_ia rfl rfl (iaB ti76 ti37 rfl h_10))) ?_
  refine tS (v := (eI .u32 x31)) (sv (d_load rfl (ldX (E := (eI .u32)) (y := x31) ti37 rfl rfl (aix_idx h_10)))) <| tS (v := (.ptr 0 (Int.toNat 7))) (sv (d_ia rfl rfl (iaB ti76 ti37 rfl h_11))) <| tS (v := (eI .u32 x33)) (sv (d_load rfl (ldX (E := (eI .u32)) (y := x33) ti37 rfl rfl (aix_idx h_11)))) <| tS (sv (d_assign rfl)) <| tS (sv (d_assign rfl)) <| tS (sv (d_assign rfl)) <| tS (sv (d_assign rfl)) <| OpsTo.nil <| Ex.then_mk ?_
  refine AB.seq_g fun K1 hK1 hG1 => ?_
  have J1 : ∀ (va : Int) (b : Int) (c : Int) (d : Int) (ve : Int) (f : Int) (g : Int) (vh : Int), sha_Compress_J1 N state va b c d ve f g vh = some r → K1 (mkF 131 [(2, (.ptr 0 0)), (4, (.ptr 1 0)), (6, (eI .u32 va)), (7, (eI .u32 b)), (8, (eI .u32 c)), (9, (eI .u32 d)), (10, (eI .u32 ve)), (11, (eI .u32 f)), (12, (eI .u32 g)), (13, (eI .u32 vh))]) [some ⟨76, state.map (eI .u32)⟩, some ⟨76, (List.replicate 8 0).map (eI .u32)⟩] := by
    intro va b c d ve f g vh hr
    unfold sha_Compress_J1 at hr
    refine hK1 _ _ <| AB.seq ?_
    replace hr := bnd hr; obtain ⟨x98, h_12, hr⟩ := hr
    replace hr := bnd hr; obtain ⟨x102, h_13, hr⟩ := hr
    replace hr := bnd hr; obtain ⟨x106, h_14, hr⟩ := hr
    replace hr := bnd hr; obtain ⟨x110, h_15, hr⟩ := hr
    replace hr := bnd hr; obtain ⟨x114, h_16, hr⟩ := hr
    replace hr := bnd hr; obtain ⟨x118, h_17, hr⟩ := hr
    replace hr := bnd hr; obtain ⟨x122, h_18, hr⟩ := hr
    replace hr := bnd hr; obtain ⟨x126, h_19, hr⟩ := hr
    refine AB.rw <| wS (v := (.ptr 0 (Int.toNat 0))) (sv (d_ia rfl rfl (iaB ti76 ti37 rfl h_12))) <| wS (v := (eI .u32 x98)) (sv (d_load rfl (ldX (E := (eI .u32)) (y := x98) ti37 rfl rfl (aix_idx h_12)))) <| zm rfl <| wS (sv (d_bin rfl rfl (bin_add ..))) <| wS (v := (.ptr 0 (Int.toNat 1))) (sv (d_ia rfl rfl (iaB ti76 ti37 rfl h_13))) <| wS (v := (eI .u32 x102)) (sv (d_load rfl (ldX (E := (eI .u32)) (y := x102) ti37 rfl rfl (aix_idx h_13)))) <| zm rfl <| wS (sv (d_bin rfl rfl (bin_add ..))) <| wS (v := (.ptr 0 (Int.toNat 2))) (sv (d_ia rfl rfl (iaB ti76 ti37 rfl h_14))) ?_
    refine wS (v := (eI .u32 x106)) (sv (d_load rfl (ldX (E := (eI .u32)) (y := x106) ti37 rfl rfl (aix_idx h_14)))) <| zm rfl <| wS (sv (d_bin rfl rfl (bin_add ..))) <| wS (v := (.ptr 0 (Int.toNat 3))) (sv (d_ia rfl rfl (iaB ti76 ti37 rfl h_15))) <| wS (v := (eI .u32 x110)) (sv (d_load rfl (ldX (E := (eI .u32)) (y := x110) ti37 rfl rfl (aix_idx h_15)))) <| zm rfl <| wS (sv (d_bin rfl rfl (bin_add ..))) <| wS (v := (.ptr 0 (Int.toNat 4))) (sv (d_ia rfl rfl (iaB ti76 ti37 rfl h_16))) <| wS (v := (eI .u32 x114)) (sv (d_load rfl (ldX (E := (eI .u32)) (y := x114) ti37 rfl rfl (aix_idx h_16)))) <| zm rfl ?_
    refine wS (sv (d_bin rfl rfl (bin_add ..))) <| wS (v := (.ptr 0 (Int.toNat 5))) (sv (d_ia rfl rfl (iaB ti76 ti37 rfl h_17))) <| wS (v := (eI .u32 x118)) (sv (d_load rfl (ldX (E := (eI .u32)) (y := x118) ti37 rfl rfl (aix_idx h_17)))) <| zm rfl <| wS (sv (d_bin rfl rfl (bin_add ..))) <| wS (v := (.ptr 0 (Int.toNat 6))) (sv (d_ia rfl rfl (iaB ti76 ti37 rfl h_18))) <| wS (v := (eI .u32 x122)) (sv (d_load rfl (ldX (E := (eI .u32)) (y := x122) ti37 rfl rfl (aix_idx h_18)))) <| zm rfl <| wS (sv (d_bin rfl rfl (bin_add ..))) <| wS (v := (.ptr 0 (Int.toNat 7))) (sv (d_ia rfl rfl (iaB ti76 ti37 rfl h_19))) ?_
    refine wS (v := (eI .u32 x126)) (sv (d_load rfl (ldX (E := (eI .u32)) (y := x126) ti37 rfl rfl (aix_idx h_19)))) <| zm rfl <| wS (sv (d_bin rfl rfl (bin_add ..))) <| wS (v := (.agg ([IntKind.u32.wrap (x98 + va), IntKind.u32.wrap (x102 + b), IntKind.u32.wrap (x106 + c), IntKind.u32.wrap (x110 + d), IntKind.u32.wrap (x114 + ve), IntKind.u32.wrap (x118 + f), IntKind.u32.wrap (x122 + g), IntKind.u32.wrap (x126 + vh)].map (eI .u32)))) (sv (d_build rfl (bldA ti76 ti37 rfl))) ?_
    refine wN (h' := [some ⟨76, state.map (eI .u32)⟩, some ⟨76, [IntKind.u32.wrap (x98 + va), IntKind.u32.wrap (x102 + b), IntKind.u32.wrap (x106 + c), IntKind.u32.wrap (x110 + d), IntKind.u32.wrap (x114 + ve), IntKind.u32.wrap (x118 + f), IntKind.u32.wrap (x122 + g), IntKind.u32.wrap (x126 + vh)].map (eI .u32)⟩]) (sv (d_store rfl rfl (stA (E := (eI .u32)) (l := List.replicate 8 0) ti76 rfl rfl (fun _ => rfl) rfl rfl rfl))) <| zn <| AB.ret ?_
    obtain rfl := Option.some.inj hr
    exact done_ret (r1 := (.agg ([IntKind.u32.wrap (x98 + va), IntKind.u32.wrap (x102 + b), IntKind.u32.wrap (x106 + c), IntKind.u32.wrap (x110 + d), IntKind.u32.wrap (x114 + ve), IntKind.u32.wrap (x118 + f), IntKind.u32.wrap (x122 + g), IntKind.u32.wrap (x126 + vh)].map (eI .u32)))) (res1 Tryd.results38 (rvC rfl (ldA (E := (eI .u32)) (l := [IntKind.u32.wrap (x98 + va), IntKind.u32.wrap (x102 + b), IntKind.u32.wrap (x106 + c), IntKind.u32.wrap (x110 + d), IntKind.u32.wrap (x114 + ve), IntKind.u32.wrap (x118 + f), IntKind.u32.wrap (x122 + g), IntKind.u32.wrap (x126 + vh)]) ti76 rfl rfl rfl))) (zG [])
  refine zq <| wS (v := (eI .i64 0)) (sv (d_move rfl)) <| zn ?_
  replace hr := bnd hr; obtain ⟨res2, hL2, hr⟩ := hr
  refine AB.block ?_
  refine AB.loopN (fun m s h => ∃ (va_1 : Int) (b_1 : Int) (c_1 : Int) (d_1 : Int) (ve_1 : Int) (f_1 : Int) (g_1 : Int) (vh_1 : Int) (x35 : Int), sha_Compress_L2 N state x18 m va_1 b_1 c_1 d_1 ve_1 f_1 g_1 vh_1 x35 = some res2 ∧ Ghost 0 s h (mkF 131 [(2, (.ptr 0 0)), (4, (.ptr 1 0)), (5, (.ptr 2 0)), (6, (eI .u32 va_1)), (7, (eI .u32 b_1)), (8, (eI .u32 c_1)), (9, (eI .u32 d_1)), (10, (eI .u32 ve_1)), (11, (eI .u32 f_1)), (12, (eI .u32 g_1)), (13, (eI .u32 vh_1)), (35, (eI .i64 x35))]) [some ⟨76, state.map (eI .u32)⟩, some ⟨76, (List.replicate 8 0).map (eI .u32)⟩, some ⟨80, x18.map (eI .u32)⟩]) (n := N) ⟨x19, x21, x23, x25, x27, x29, x31, x33, 0, hL2, (zG [0, 2, 3])⟩ (by rintro s h ⟨_, _, _, _, _, _, _, _, _, h0, _⟩; simp [sha_Compress_L2] at h0) ?_
  rintro m2 s h ⟨va_1, b_1, c_1, d_1, ve_1, f_1, g_1, vh_1, x35, hr2, hg⟩
  refine AB.ghost hg ?_
  clear hg hL2
  rw [sha_Compress_L2] at hr2
  refine zq <| wS (v := (eB (decide (x35 < 64)))) (sv (d_bin rfl rfl (bin_lss ..))) <| zn <| AB.seq ?_
  refine AB.cnd rfl (fun h20 => ?_) (fun h20 => ?_)
  · replace hr2 := iteT hr2 h20
    refine AB.skip <| Ex.then_mk <| AB.seq <| AB.block <| zq <| zm rfl <| za rfl <| zn <| AB.seq ?_
    replace hr2 := bnd hr2; obtain ⟨x40, h_21, hr2⟩ := hr2
    replace hr2 := bnd hr2; obtain ⟨x42, h_23, hr2⟩ := hr2
    replace hr2 := bnd hr2; obtain ⟨x45, h_25, hr2⟩ := hr2
    replace hr2 := bnd hr2; obtain ⟨x58, h_27, hr2⟩ := hr2
    replace hr2 := bnd hr2; obtain ⟨x62, h_28, hr2⟩ := hr2
    refine AB.rd (memF [41]) (memF []) mixed <| DrawG.pick (n := 27) (i := 0) (by decide +kernel) rfl (gS (v := (eI .u32 vh_1)) (sv (d_move rfl))) <| DrawG.pick (n := 26) (i := 1) (by decide +kernel) rfl (gS (v := (eI .u32 ve_1)) (sv (d_move rfl))) <| DrawG.pick (n := 25) (i := 2) (by decide +kernel) rfl (gU (fun _ => (Vm.Fn.pure (sha_rotr_ok N ve_1 6 x40 h_21) rfl rfl)) rfl (sv (d_call rfl orcU_hit))) <| DrawG.pick (n := 24) (i := 3) (by decide +kernel) rfl (gS (v := (eI .u32 ve_1)) (sv (d_move rfl))) ?_
    refine DrawG.pick (n := 23) (i := 4) (by decide +kernel) rfl (gU (fun _ => (Vm.Fn.pure (sha_rotr_ok N ve_1 11 x42 h_23) rfl rfl)) rfl (sv (d_call rfl orcU_hit))) <| DrawG.pick (n := 22) (i := 5) (by decide +kernel) rfl (gS (v := (eI .u32 (bits .xor .u32 x40 x42))) (sv (d_bin rfl rfl (bin_xor ..)))) <| DrawG.pick (n := 21) (i := 6) (by decide +kernel) rfl (gS (v := (eI .u32 ve_1)) (sv (d_move rfl))) <| DrawG.pick (n := 20) (i := 7) (by decide +kernel) rfl (gU (fun _ => (Vm.Fn.pure (sha_rotr_ok N ve_1 25 x45 h_25) rfl rfl)) rfl (sv (d_call rfl orcU_hit))) ?_
    refine DrawG.pick (n := 19) (i := 8) (by decide +kernel) rfl (gS (v := (eI .u32 (bits .xor .u32 (bits .xor .u32 x40 x42) x45))) (sv (d_bin rfl rfl (bin_xor ..)))) <| DrawG.pick (n := 18) (i := 9) (by decide +kernel) rfl (gS (v := (eI .u32 (IntKind.u32.wrap (vh_1 + (bits .xor .u32 (bits .xor .u32 x40 x42) x45))))) (sv (d_bin rfl rfl (bin_add ..)))) <| DrawG.pick (n := 17) (i := 10) (by decide +kernel) rfl (gS (v := (eI .u32 ve_1)) (sv (d_move rfl))) <| DrawG.pick (n := 16) (i := 11) (by decide +kernel) rfl (gS (v := (eI .u32 f_1)) (sv (d_move rfl))) ?_
    refine DrawG.pick (n := 15) (i := 12) (by decide +kernel) rfl (gS (v := (eI .u32 (bits .and .u32 ve_1 f_1))) (sv (d_bin rfl rfl (bin_and ..)))) <| DrawG.pick (n := 14) (i := 13) (by decide +kernel) rfl (gS (v := (eI .u32 ve_1)) (sv (d_move rfl))) <| DrawG.pick (n := 13) (i := 14) (by decide +kernel) rfl (gS (v := (eI .u32 (bits .xor .u32 (IntKind.max .u32) ve_1))) (sv (d_un rfl (un_xorU rfl _)))) <| DrawG.pick (n := 12) (i := 15) (by decide +kernel) rfl (gS (v := (eI .u32 g_1)) (sv (d_move rfl))) ?_
    refine DrawG.pick (n := 11) (i := 16) (by decide +kernel) rfl (gS (v := (eI .u32 (bits .and .u32 (bits .xor .u32 (IntKind.max .u32) ve_1) g_1))) (sv (d_bin rfl rfl (bin_and ..)))) <| DrawG.pick (n := 10) (i := 17) (by decide +kernel) rfl (gS (v := (eI .u32 (bits .xor .u32 (bits .and .u32 ve_1 f_1) (bits .and .u32 (bits .xor .u32 (IntKind.max .u32) ve_1) g_1)))) (sv (d_bin rfl rfl (bin_xor ..)))) ?_
    refine DrawG.pick (n := 9) (i := 18) (by decide +kernel) rfl (gS (v := (eI .u32 (IntKind.u32.wrap ((IntKind.u32.wrap (vh_1 + (bits .xor .u32 (bits .xor .u32 x40 x42) x45))) + (bits .xor .u32 (bits .and .u32 ve_1 f_1) (bits .and .u32 (bits .xor .u32 (IntKind.max .u32) ve_1) g_1)))))) (sv (d_bin rfl rfl (bin_add ..)))) <| DrawG.pick (n := 8) (i := 19) (by decide +kernel) rfl (gS (v := (eI .i64 x35)) (sv (d_move rfl))) <| DrawG.pick (n := 7) (i := 20) (by decide +kernel) rfl (gS (v := (.eptr [(.agg (shaK.map (eI .u32)))] 0 (Int.toNat x35))) (sv (d_ia rfl rfl (iaG ti80 ti37 rfl h_27)))) ?_
    refine DrawG.pick (n := 6) (i := 21) (by decide +kernel) rfl (gS (v := (eI .u32 x58)) (sv (d_load rfl (ldG (E := (eI .u32)) (y := x58) ti37 rfl (aix_idx h_27))))) <| DrawG.pick (n := 5) (i := 22) (by decide +kernel) rfl (gS (v := (eI .u32 (IntKind.u32.wrap ((IntKind.u32.wrap ((IntKind.u32.wrap (vh_1 + (bits .xor .u32 (bits .xor .u32 x40 x42) x45))) + (bits .xor .u32 (bits .and .u32 ve_1 f_1) (bits .and .u32 (bits .xor .u32 (IntKind.max .u32) ve_1) g_1)))) + x58)))) (sv (d_bin rfl rfl (bin_add ..)))) <| DrawG.pick (n := 4) (i := 23) (by decide +kernel) rfl (gS (v := (eI .i64 x35)) (sv (d_move rfl))) ?_
    refine DrawG.pick (n := 3) (i := 24) (by decide +kernel) rfl (gS (v := (.ptr 2 (Int.toNat x35))) (sv (d_ia rfl rfl (iaB ti80 ti37 rfl h_28)))) <| DrawG.pick (n := 2) (i := 25) (by decide +kernel) rfl (gS (v := (eI .u32 x62)) (sv (d_load rfl (ldX (E := (eI .u32)) (y := x62) ti37 rfl rfl (aix_idx h_28))))) ?_
    refine DrawG.pick (n := 1) (i := 26) (by decide +kernel) rfl (gS (v := (eI .u32 (IntKind.u32.wrap ((IntKind.u32.wrap ((IntKind.u32.wrap ((IntKind.u32.wrap (vh_1 + (bits .xor .u32 (bits .xor .u32 x40 x42) x45))) + (bits .xor .u32 (bits .and .u32 ve_1 f_1) (bits .and .u32 (bits .xor .u32 (IntKind.max .u32) ve_1) g_1)))) + x58)) + x62)))) (sv (d_bin rfl rfl (bin_add ..)))) ?_
    refine DrawG.pick (n := 0) (i := 27) (by decide +kernel) rfl (gS (v := (eI .u32 (IntKind.u32.wrap ((IntKind.u32.wrap ((IntKind.u32.wrap ((IntKind.u32.wrap (vh_1 + (bits .xor .u32 (bits .xor .u32 x40 x42) x45))) + (bits .xor .u32 (bits .and .u32 ve_1 f_1) (bits .and .u32 (bits .xor .u32 (IntKind.max .u32) ve_1) g_1)))) + x58)) + x62)))) (sv (d_assign rfl))) <| DrawG.nil (by decide +kernel) <| Ex.then_mk <| AB.seq ?_
    replace hr2 := bnd hr2; obtain ⟨x66, h_29, hr2⟩ := hr2
    replace hr2 := bnd hr2; obtain ⟨x68, h_30, hr2⟩ := hr2
    replace hr2 := bnd hr2; obtain ⟨x71, h_31, hr2⟩ := hr2
    refine AB.rw <| zm rfl <| wC rfl (Vm.Fn.pure (sha_rotr_ok N va_1 2 x66 h_29) rfl rfl) <| zm rfl <| wC rfl (Vm.Fn.pure (sha_rotr_ok N va_1 13 x68 h_30) rfl rfl) <| wS (sv (d_bin rfl rfl (bin_xor ..))) <| zm rfl <| wC rfl (Vm.Fn.pure (sha_rotr_ok N va_1 22 x71 h_31) rfl rfl) <| wS (sv (d_bin rfl rfl (bin_xor ..))) <| zm rfl <| zm rfl <| wS (sv (d_bin rfl rfl (bin_and ..))) <| zm rfl <| zm rfl <| wS (sv (d_bin rfl rfl (bin_and ..))) <| wS (sv (d_bin rfl rfl (bin_xor ..))) <| zm rfl <| zm rfl <| wS (sv (d_bin rfl rfl (bin_and ..))) <| wS (sv (d_bin rfl rfl (bin_xor ..))) ?_
    refine wS (sv (d_bin rfl rfl (bin_add ..))) <| za rfl <| zn <| AB.rw <| zm rfl <| zm rfl <| wS (sv (d_bin rfl rfl (bin_add ..))) <| zm rfl <| zm rfl <| zm rfl <| zm rfl <| zm rfl <| wS (sv (d_bin rfl rfl (bin_add ..))) <| zm rfl <| zm rfl <| zm rfl <| za rfl <| za rfl <| za rfl <| za rfl <| za rfl <| za rfl <| za rfl <| za rfl <| OpsW.nil <| Ex.inBlock_mk <| Ex.then_mk <| AB.rw <| wS (v := (eI .i64 (IntKind.i64.wrap (x35 + 1)))) (sv (d_bin rfl rfl (bin_add ..))) <| zm rfl <| zn ?_
    exact ⟨IntKind.u32.wrap ((IntKind.u32.wrap ((IntKind.u32.wrap ((IntKind.u32.wrap ((IntKind.u32.wrap (vh_1 + (bits .xor .u32 (bits .xor .u32 x40 x42) x45))) + (bits .xor .u32 (bits .and .u32 ve_1 f_1) (bits .and .u32 (bits .xor .u32 (IntKind.max .u32) ve_1) g_1)))) + x58)) + x62)) + (IntKind.u32.wrap ((bits .xor .u32 (bits .xor .u32 x66 x68) x71) + (bits .xor .u32 (bits .xor .u32 (bits .and .u32 va_1 b_1) (bits .and .u32 va_1 c_1)) (bits .and .u32 b_1 c_1))))), va_1, b_1, c_1, IntKind.u32.wrap (d_1 + (IntKind.u32.wrap ((IntKind.u32.wrap ((IntKind.u32.wrap ((IntKind.u32.wrap (vh_1 + (bits .xor .u32 (bits .xor .u32 x40 x42) x45))) + (bits .xor .u32 (bits .and .u32 ve_1 f_1) (bits .and .u32 (bits .xor .u32 (IntKind.max .u32) ve_1) g_1)))) + x58)) + x62))), ve_1, f_1, g_1, IntKind.i64.wrap (x35 + 1), hr2, (zG [0, 1, 2])⟩
  · replace hr2 := iteF hr2 h20
    refine AB.exit <| Ex.then_exit_mk <| Ex.then_exit_mk <| Ex.inBlock_same_mk ?_
    obtain rfl := Option.some.inj hr2
    refine Ex.then_mk ?_
    exact hG1 _ _ _ _ (zG [0, 1]) (J1 va_1 b_1 c_1 d_1 ve_1 f_1 g_1 vh_1 hr)
set_option maxRecDepth 20000 in
set_option maxHeartbeats 1000000 in
theorem sha_Sum_ok (N : Nat) (b : List Int) (r : (List Int)) (hr : sha_Sum N b = some r) :
    Vm.Fn Tryd.prog 33 [] [(.row none 1 (b.map (eI .u8)))] (.agg (r.map (eI .u8))) [] := by
  refine fn_ab Tryd.func33 rfl (by kernel_rfl) Tryd.ntmps33 zl rfl (fr := [(0, (.row none 1 (b.map (eI .u8))))]) rfl ?_
  unfold sha_Sum at hr
  refine zq <| wS (v := (.ptr 0 0)) (h' := [some ⟨25, (List.replicate 32 0).map (eI .u8)⟩]) (sv (d_alloc ti25 rfl rfl rfl)) <| zn <| AB.seq ?_
  replace hr := bnd hr; obtain ⟨x12, h_1, hr⟩ := hr
  replace hr := bnd hr; obtain ⟨x14, h_2, hr⟩ := hr
  refine AB.rw <| zm rfl <| zm rfl <| wS (v := (eI .i64 (b.length : Int))) (sv (d_len rfl (lenR ti22))) <| wS (sv (d_conv rfl (conv_int _ ⟨_, ti3⟩ ti75 rfl))) <| wC (v := (.sl 1 0 x12.length 1 false)) (h' := [some ⟨25, (List.replicate 32 0).map (eI .u8)⟩, some ⟨5, x12.map (eI .u8)⟩]) rfl (zB (sha_Pad_ok N (IntKind.u64.wrap (b.length : Int)) x12 h_1) []) ?_
  refine OpsW.ghost (Ghost.conv (fr' := [(0, (.row none 1 (b.map (eI .u8)))), (2, (.ptr 0 0)), (8, (.row none 1 (b.map (eI .u8)))), (9, (.row none 1 (b.map (eI .u8)))), (10, (eI .i64 (b.length : Int))), (11, (eI .u64 (IntKind.u64.wrap (b.length : Int)))), (12, (.row none 1 (x12.map (eI .u8))))]) (h' := [some ⟨25, (List.replicate 32 0).map (eI .u8)⟩, none]) (FCv.cons rfl (Conv.same (subB_sub rfl)) (FCv.cons rfl (Conv.same (subB_sub rfl)) (FCv.cons rfl (Conv.same (subB_sub rfl)) (FCv.cons rfl (Conv.same (subB_sub rfl)) (FCv.cons rfl (Conv.same (subB_sub rfl)) (FCv.cons rfl (Conv.same (subB_sub rfl)) (FCv.cons rfl (Conv.row (subB_sub rfl) rfl rfl (all_mapE (fun _ => rfl)) (by first | rfl | (simp only [List.length_map, len_set, len_cpy]; done))) FCv.nil))))))) (HCv.live (Convs.same (subB_sub rfl)) (all_map (fun _ => rfl) _) (HCv.dead HCv.nil))) ?_
  refine wS (v := (.sl 2 0 2 1 false)) (h' := [some ⟨25, (List.replicate 32 0).map (eI .u8)⟩, none, some ⟨22, [b, x12].map (eL 1 (eI .u8))⟩]) (sv (d_buildS rfl (bldL1 (xs := [b, x12].map (eL 1 (eI .u8))) ti23 ti22 zl zl rfl rfl rfl rfl rfl rfl rfl))) <| wC (v := (.sl 3 0 x14.length 1 false)) (h' := [some ⟨25, (List.replicate 32 0).map (eI .u8)⟩, none, some ⟨22, [b, x12].map (eL 1 (eI .u8))⟩, some ⟨5, x14.map (eI .u8)⟩]) rfl (zL (sha_row_ok N [b, x12] x14 h_2) [] [2]) <| za rfl <| zn <| zq <| wS (v := (.agg (shaI.map (eI .u32)))) (sv (d_load rfl (ldAE (E := (eI .u32)) (l := shaI) ti76 rfl rfl))) ?_
  refine wS (v := (.ptr 4 0)) (h' := [some ⟨25, (List.replicate 32 0).map (eI .u8)⟩, none, some ⟨22, [b, x12].map (eL 1 (eI .u8))⟩, some ⟨5, x14.map (eI .u8)⟩, some ⟨76, (List.replicate 8 0).map (eI .u32)⟩]) (sv (d_alloc ti76 rfl rfl rfl)) <| wN (h' := [some ⟨25, (List.replicate 32 0).map (eI .u8)⟩, none, some ⟨22, [b, x12].map (eL 1 (eI .u8))⟩, some ⟨5, x14.map (eI .u8)⟩, some ⟨76, shaI.map (eI .u32)⟩]) (sv (d_store rfl rfl (stA (E := (eI .u32)) (l := List.replicate 8 0) ti76 rfl rfl (fun _ => rfl) rfl rfl rfl))) <| zn ?_
  refine AB.seq_g fun K1 hK1 hG1 => ?_
  have J1 : ∀ (l1 : List Int), sha_Sum_J1 N l1 = some r → K1 (mkF 48 [(2, (.ptr 0 0)), (4, (.ptr 1 0))]) [some ⟨25, (List.replicate 32 0).map (eI .u8)⟩, some ⟨76, l1.map (eI .u32)⟩] := by
    intro l1 hr
    unfold sha_Sum_J1 at hr
    refine hK1 _ _ <| zq <| wS (v := (.ptr 2 0)) (h' := [some ⟨25, (List.replicate 32 0).map (eI .u8)⟩, some ⟨76, l1.map (eI .u32)⟩, some ⟨25, (List.replicate 32 0).map (eI .u8)⟩]) (sv (d_alloc ti25 rfl rfl rfl)) <| zn ?_
    refine AB.seq_g fun K2 hK2 hG2 => ?_
    have J2 : ∀ (l1_1 : List Int), sha_Sum_J2 N l1_1 = some r → K2 (mkF 48 [(2, (.ptr 0 0)), (6, (.ptr 1 0))]) [some ⟨25, (List.replicate 32 0).map (eI .u8)⟩, some ⟨25, l1_1.map (eI .u8)⟩] := by
      intro l1_1 hr
      unfold sha_Sum_J2 at hr
      refine hK2 _ _ <| AB.seq ?_
      replace hr := bnd hr; obtain ⟨q, h_3, hr⟩ := hr
      refine AB.rw <| wS (v := (.agg (l1_1.map (eI .u8)))) (sv (d_load rfl (ldA (E := (eI .u8)) (l := l1_1) ti25 rfl rfl (arr_len h_3)))) <| wN (h' := [some ⟨25, l1_1.map (eI .u8)⟩, some ⟨25, l1_1.map (eI .u8)⟩]) (sv (d_store rfl rfl (stA (E := (eI .u8)) (l := List.replicate 32 0) ti25 rfl rfl (fun _ => rfl) rfl (arr_len h_3) rfl))) <| zn <| AB.ret ?_
      obtain rfl := Option.some.inj hr
      exact done_ret (r1 := (.agg (l1_1.map (eI .u8)))) (res1 Tryd.results33 (rvC rfl (ldA (E := (eI .u8)) (l := l1_1) ti25 rfl rfl (arr_len h_3)))) (zG [])
    refine zq <| wS (v := (eI .i64 0)) (sv (d_move rfl)) <| zn ?_
    replace hr := bnd hr; obtain ⟨res3, hL3, hr⟩ := hr
    refine AB.block <| AB.loopN (fun m s h => ∃ (x31 : Int) (l2 : List Int), sha_Sum_L3 N l1 m x31 l2 = some res3 ∧ Ghost 0 s h (mkF 48 [(2, (.ptr 0 0)), (4, (.ptr 1 0)), (6, (.ptr 2 0)), (31, (eI .i64 x31))]) [some ⟨25, (List.replicate 32 0).map (eI .u8)⟩, some ⟨76, l1.map (eI .u32)⟩, some ⟨25, l2.map (eI .u8)⟩]) (n := N) ⟨0, List.replicate 32 0, hL3, (zG [0, 1, 2])⟩ (by rintro s h ⟨_, _, h0, _⟩; simp [sha_Sum_L3] at h0) ?_
    rintro m3 s h ⟨x31, l2, hr3, hg⟩
    refine AB.ghost hg ?_
    clear hg hL3
    rw [sha_Sum_L3] at hr3
    refine zq <| wS (v := (eB (decide (x31 < 32)))) (sv (d_bin rfl rfl (bin_lss ..))) <| zn <| AB.seq ?_
    refine AB.cnd rfl (fun h4 => ?_) (fun h4 => ?_)
    · replace hr3 := iteT hr3 h4
      refine AB.skip <| Ex.then_mk <| AB.seq <| AB.block <| zq <| zm rfl <| za rfl <| zn ?_
      replace hr3 := bnd hr3; obtain ⟨x37, h_5, hr3⟩ := hr3
      replace hr3 := bnd hr3; obtain ⟨x43, h_6, hr3⟩ := hr3
      replace hr3 := bnd hr3; obtain ⟨x45, h_7, hr3⟩ := hr3
      refine AB.rw <| zm rfl <| zm rfl <| wS (v := (eI .i64 (IntKind.i64.wrap (Int.tdiv x31 4)))) (sv (d_bin rfl rfl (bin_quo' _ _ _ _ rfl))) <| wS (v := (.ptr 1 (Int.toNat (IntKind.i64.wrap (Int.tdiv x31 4))))) (sv (d_ia rfl rfl (iaB ti76 ti37 rfl h_5))) <| wS (v := (eI .u32 x37)) (sv (d_load rfl (ldX (E := (eI .u32)) (y := x37) ti37 rfl rfl (aix_idx h_5)))) <| zm rfl <| wS (v := (eI .i64 (Int.tmod x31 4))) (sv (d_bin rfl rfl (bin_rem' _ _ _ _ rfl))) <| wS (v := (eI .i64 (IntKind.i64.wrap ((Int.tmod x31 4) * 8)))) (sv (d_bin rfl rfl (bin_mul ..))) ?_
      refine wS (v := (eI .i64 (IntKind.i64.wrap (24 - (IntKind.i64.wrap ((Int.tmod x31 4) * 8)))))) (sv (d_bin rfl rfl (bin_sub ..))) <| wS (sv (d_bin rfl rfl (bin_shr' _ _ _ _ h_6))) <| wS (sv (d_conv rfl (conv_int _ ⟨_, ti37⟩ ti5 rfl))) <| wS (v := (.ptr 2 (Int.toNat x31))) (sv (d_ia rfl rfl (iaB ti25 ti5 rfl h_7))) <| wN (h' := [some ⟨25, (List.replicate 32 0).map (eI .u8)⟩, some ⟨76, l1.map (eI .u32)⟩, some ⟨25, (l2.set (Int.toNat x31) (IntKind.u8.wrap x43)).map (eI .u8)⟩]) (sv (d_store rfl rfl (stXe (E := (eI .u8)) (y := IntKind.u8.wrap x43) ti5 rfl rfl (aix_idx h_7) rfl rfl rfl))) <| OpsW.nil ?_
      refine Ex.inBlock_mk <| Ex.then_mk <| AB.rw <| wS (v := (eI .i64 (IntKind.i64.wrap (x31 + 1)))) (sv (d_bin rfl rfl (bin_add ..))) <| zm rfl <| zn ?_
      exact ⟨IntKind.i64.wrap (x31 + 1), l2.set (Int.toNat x31) (IntKind.u8.wrap x43), hr3, (zG [0, 1, 2])⟩
    · replace hr3 := iteF hr3 h4
      refine AB.exit <| Ex.then_exit_mk <| Ex.then_exit_mk <| Ex.inBlock_same_mk ?_
      obtain rfl := Option.some.inj hr3
      refine Ex.then_mk ?_
      exact hG2 _ _ _ _ (zG [0, 2]) (J2 l2 hr)
  refine zq <| zm rfl <| wS (v := (eI .i64 (x14.length : Int))) (sv (d_len rfl (lenS ti22))) <| wS (v := (eI .i64 (IntKind.i64.wrap (Int.tdiv (x14.length : Int) 64)))) (sv (d_bin rfl rfl (bin_quo' _ _ _ _ rfl))) <| wS (v := (eI .i64 0)) (sv (d_move rfl)) <| zn ?_
  refine AB.ghost (Ghost.conv (fr' := [(0, (.row none 1 (b.map (eI .u8)))), (2, (.ptr 0 0)), (3, (.row none 1 (x14.map (eI .u8)))), (4, (.ptr 4 0)), (8, (.row none 1 (b.map (eI .u8)))), (9, (.row none 1 (b.map (eI .u8)))), (10, (eI .i64 (b.length : Int))), (11, (eI .u64 (IntKind.u64.wrap (b.length : Int)))), (12, (.row none 1 (x12.map (eI .u8)))), (13, (.sl 2 0 2 1 false)), (14, (.row none 1 (x14.map (eI .u8)))), (15, (.agg (shaI.map (eI .u32)))), (16, (.row none 1 (x14.map (eI .u8)))), (17, (eI .i64 (x14.length : Int))), (18, (eI .i64 (IntKind.i64.wrap (Int.tdiv (x14.length : Int) 64)))), (19, (eI .i64 0))]) (h' := [some ⟨25, (List.replicate 32 0).map (eI .u8)⟩, none, some ⟨22, [b, x12].map (eL 1 (eI .u8))⟩, none, some ⟨76, shaI.map (eI .u32)⟩]) (FCv.cons rfl (Conv.same (subB_sub rfl)) (FCv.cons rfl (Conv.same (subB_sub rfl)) (FCv.cons rfl (Conv.row (subB_sub rfl) rfl rfl (all_mapE (fun _ => rfl)) (by first | rfl | (simp only [List.length_map, len_set, len_cpy]; done))) (FCv.cons rfl (Conv.same (subB_sub rfl)) (FCv.cons rfl (Conv.same (subB_sub rfl)) (FCv.cons rfl (Conv.same (subB_sub rfl)) (FCv.cons rfl (Conv.same (subB_sub rfl)) (FCv.cons rfl (Conv.same (subB_sub rfl)) (FCv.cons rfl (Conv.same (subB_sub rfl)) (FCv.cons rfl (Conv.same (subB_sub rfl)) (FCv.cons rfl (Conv.row (subB_sub rfl) rfl rfl (all_mapE (fun _ => rfl)) (by first | rfl | (simp only [List.length_map, len_set, len_cpy]; done))) (FCv.cons rfl (Conv.same (subB_sub rfl)) (FCv.cons rfl (Conv.row (subB_sub rfl) rfl rfl (all_mapE (fun _ => rfl)) (by first | rfl | (simp only [List.length_map, len_set, len_cpy]; done))) (FCv.cons rfl (Conv.same (subB_sub rfl)) (FCv.cons rfl (Conv.same (subB_sub rfl)) (FCv.cons rfl (Conv.same (subB_sub rfl)) FCv.nil)))))))))))))))) (HCv.live (Convs.same (subB_sub rfl)) (all_map (fun _ => rfl) _) (HCv.dead (HCv.live (Convs.same (subB_sub rfl)) (all_map (fun _ => rfl) _) (HCv.dead (HCv.live (Convs.same (subB_sub rfl)) (all_map (fun _ => rfl) _) HCv.nil)))))) ?_
  replace hr := bnd hr; obtain ⟨res4, hL4, hr⟩ := hr
  refine AB.block <| AB.loopN (fun m s h => ∃ (x19 : Int) (l1_2 : List Int), sha_Sum_L4 N x14 m x19 l1_2 = some res4 ∧ Ghost 0 s h (mkF 48 [(2, (.ptr 0 0)), (3, (.row none 1 (x14.map (eI .u8)))), (4, (.ptr 1 0)), (18, (eI .i64 (IntKind.i64.wrap (Int.tdiv (x14.length : Int) 64)))), (19, (eI .i64 x19))]) [some ⟨25, (List.replicate 32 0).map (eI .u8)⟩, some ⟨76, l1_2.map (eI .u32)⟩]) (n := N) ⟨0, shaI, hL4, (zG [0, 4])⟩ (by rintro s h ⟨_, _, h0, _⟩; simp [sha_Sum_L4] at h0) ?_
  rintro m4 s h ⟨x19, l1_2, hr4, hg⟩
  refine AB.ghost hg ?_
  clear hg hL4
  rw [sha_Sum_L4] at hr4
  refine zq <| wS (sv (d_bin rfl rfl (bin_lss ..))) <| zn <| AB.seq ?_
  refine AB.cnd rfl (fun h8 => ?_) (fun h8 => ?_)
  · replace hr4 := iteT hr4 h8
    refine AB.skip <| Ex.then_mk <| AB.seq <| AB.block <| zq <| zm rfl <| za rfl <| zn ?_
    replace hr4 := bnd hr4; obtain ⟨q_1, h_9, hr4⟩ := hr4
    replace hr4 := bnd hr4; obtain ⟨x26, h_10, hr4⟩ := hr4
    replace hr4 := bnd hr4; obtain ⟨x27, h_11, hr4⟩ := hr4
    replace hr4 := bnd hr4; obtain ⟨x29, h_12, hr4⟩ := hr4
    replace hr4 := bnd hr4; obtain ⟨q_2, h_14, hr4⟩ := hr4
    have hc13 : Vm.Fn Tryd.prog 38 [some ⟨25, (List.replicate 32 0).map (eI .u8)⟩, some ⟨76, l1_2.map (eI .u32)⟩] [(.agg (l1_2.map (eI .u32))), (.agg (x27.map (eI .u8)))] (.agg (x29.map (eI .u32))) [some ⟨25, (List.replicate 32 0).map (eI .u8)⟩, some ⟨76, l1_2.map (eI .u32)⟩] := (Vm.Fn.pure (sha_Compress_ok N l1_2 x27 x29 h_12) zR zR)
    refine AB.rg (Env.one mixed hc13 allF (fun _ _ => rfl)) (fun _ => by show drawOk allF _ = true; decide +kernel) <| tS (v := (.agg (l1_2.map (eI .u32)))) (sv (d_load rfl (ldA (E := (eI .u32)) (l := l1_2) ti76 rfl rfl (arr_len h_9)))) <| tS (sv (d_move rfl)) <| tS (sv (d_move rfl)) <| tS (v := (eI .i64 (IntKind.i64.wrap (64 * x19)))) (sv (d_bin rfl rfl (bin_mul ..))) <| tS (v := (.row none 1 (x26.map (eI .u8)))) (sv (d_slice rfl rfl rfl (slR ti22 ti5 rfl rfl h_10))) <| tS (v := (.eptr [.agg (x27.map (eI .u8))] 0 0)) (sv (d_sap rfl (apR (E := (eI .u8)) ti78 (fun _ => rfl) zl h_11))) ?_
    refine tS (v := (.agg (x27.map (eI .u8)))) (sv (d_load rfl (ldAE (E := (eI .u8)) (l := x27) ti78 rfl (arp_len h_11)))) <| tS (v := (.agg (x29.map (eI .u32)))) (h' := [some ⟨25, (List.replicate 32 0).map (eI .u8)⟩, some ⟨76, l1_2.map (eI .u32)⟩]) (sv (d_call rfl Env.one_O)) <| tN (h' := [some ⟨25, (List.replicate 32 0).map (eI .u8)⟩, some ⟨76, x29.map (eI .u32)⟩]) (sv (d_store rfl rfl (stA (E := (eI .u32)) (l := l1_2) ti76 rfl rfl (fun _ => rfl) (arr_len h_9) (arr_len h_14) rfl))) <| OpsTo.nil <| Ex.inBlock_mk <| Ex.then_mk <| AB.rw ?_
    refine wS (v := (eI .i64 (IntKind.i64.wrap (x19 + 1)))) (sv (d_bin rfl rfl (bin_add ..))) <| zm rfl <| zn ?_
    exact ⟨IntKind.i64.wrap (x19 + 1), x29, hr4, (zG [0, 1])⟩
  · replace hr4 := iteF hr4 h8
    refine AB.exit <| Ex.then_exit_mk <| Ex.then_exit_mk <| Ex.inBlock_same_mk ?_
    obtain rfl := Option.some.inj hr4
    refine Ex.then_mk ?_
    exact hG1 _ _ _ _ (zG [0, 1]) (J1 l1_2 hr)
set_option maxRecDepth 20000 in
set_option maxHeartbeats 1000000 in
theorem wide_FromBytes_ok (N : Nat) (vh : List Int) (r : (List Int)) (hr : wide_FromBytes N vh = some r) :
    Vm.Fn Tryd.prog 42 [] [(.agg (vh.map (eI .u8)))] (.agg (r.map (eI .u64))) [] := by
  refine fn_ab Tryd.func42 rfl (by kernel_rfl) Tryd.ntmps42 zl rfl (fr := [(0, (.agg (vh.map (eI .u8))))]) rfl ?_
  unfold wide_FromBytes at hr
  refine zq <| wS (v := (.ptr 0 0)) (h' := [some ⟨25, vh.map (eI .u8)⟩]) (sv (d_box rfl (flatA (fun _ => rfl)) rfl rfl)) <| wS (v := (.ptr 1 0)) (h' := [some ⟨25, vh.map (eI .u8)⟩, some ⟨84, (List.replicate 4 0).map (eI .u64)⟩]) (sv (d_alloc ti84 rfl rfl rfl)) <| zn <| zq <| wS (v := (.ptr 2 0)) (h' := [some ⟨25, vh.map (eI .u8)⟩, some ⟨84, (List.replicate 4 0).map (eI .u64)⟩, some ⟨84, (List.replicate 4 0).map (eI .u64)⟩]) (sv (d_alloc ti84 rfl rfl rfl)) <| zn ?_
  refine AB.seq_g fun K1 hK1 hG1 => ?_
  have J1 : ∀ (l1 : List Int), wide_FromBytes_J1 N l1 = some r → K1 (mkF 26 [(2, (.ptr 0 0)), (3, (.ptr 1 0))]) [some ⟨84, (List.replicate 4 0).map (eI .u64)⟩, some ⟨84, l1.map (eI .u64)⟩] := by
    intro l1 hr
    unfold wide_FromBytes_J1 at hr
    refine hK1 _ _ <| AB.seq ?_
    replace hr := bnd hr; obtain ⟨q, h_1, hr⟩ := hr
    refine AB.rw <| wS (v := (.agg (l1.map (eI .u64)))) (sv (d_load rfl (ldA (E := (eI .u64)) (l := l1) ti84 rfl rfl (arr_len h_1)))) <| wN (h' := [some ⟨84, l1.map (eI .u64)⟩, some ⟨84, l1.map (eI .u64)⟩]) (sv (d_store rfl rfl (stA (E := (eI .u64)) (l := List.replicate 4 0) ti84 rfl rfl (fun _ => rfl) rfl (arr_len h_1) rfl))) <| zn <| AB.ret ?_
    obtain rfl := Option.some.inj hr
    exact done_ret (r1 := (.agg (l1.map (eI .u64)))) (res1 Tryd.results42 (rvC rfl (ldA (E := (eI .u64)) (l := l1) ti84 rfl rfl (arr_len h_1)))) (zG [])
  refine AB.seq ?_
  replace hr := bnd hr; obtain ⟨q_1, h_2, hr⟩ := hr
  refine AB.rw <| wS (v := (.agg (vh.map (eI .u8)))) (sv (d_load rfl (ldA (E := (eI .u8)) (l := vh) ti25 rfl rfl (arr_len h_2)))) <| wS (v := (eI .i64 0)) (sv (d_move rfl)) <| zn ?_
  replace hr := bnd hr; obtain ⟨res2, hL2, hr⟩ := hr
  refine AB.block <| AB.loopN (fun m s h => ∃ (x8 : Int) (l1_1 : List Int), wide_FromBytes_L2 N vh m x8 l1_1 = some res2 ∧ Ghost 0 s h (mkF 26 [(2, (.ptr 0 0)), (3, (.ptr 1 0)), (7, (.agg (vh.map (eI .u8)))), (8, (eI .i64 x8))]) [some ⟨84, (List.replicate 4 0).map (eI .u64)⟩, some ⟨84, l1_1.map (eI .u64)⟩]) (n := N) ⟨0, List.replicate 4 0, hL2, (zG [1, 2])⟩ (by rintro s h ⟨_, _, h0, _⟩; simp [wide_FromBytes_L2] at h0) ?_
  rintro m2 s h ⟨x8, l1_1, hr2, hg⟩
  refine AB.ghost hg ?_
  clear hg hL2
  rw [wide_FromBytes_L2] at hr2
  refine zq <| wS (v := (eB (decide (x8 < 32)))) (sv (d_bin rfl rfl (bin_lss ..))) <| zn <| AB.seq ?_
  refine AB.cnd rfl (fun h3 => ?_) (fun h3 => ?_)
  · replace hr2 := iteT hr2 h3
    refine AB.skip <| Ex.then_mk <| AB.seq <| AB.block <| AB.seq ?_
    replace hr2 := bnd hr2; obtain ⟨x11, h_4, hr2⟩ := hr2
    refine AB.rw <| zm rfl <| wS (v := (eI .u8 x11)) (sv (d_ix rfl rfl (ixA (E := (eI .u8)) ti25 ti5 rfl rfl h_4))) <| za rfl <| za rfl <| zn <| zq <| zm rfl <| wS (v := (eI .i64 (IntKind.i64.wrap (Int.tdiv x8 8)))) (sv (d_bin rfl rfl (bin_quo' _ _ _ _ rfl))) <| wS (v := (eI .i64 (IntKind.i64.wrap (3 - (IntKind.i64.wrap (Int.tdiv x8 8)))))) (sv (d_bin rfl rfl (bin_sub ..))) <| za rfl <| zn ?_
    replace hr2 := bnd hr2; obtain ⟨x17, h_5, hr2⟩ := hr2
    replace hr2 := bnd hr2; obtain ⟨x19, h_6, hr2⟩ := hr2
    refine AB.rw <| zm rfl <| zm rfl <| wS (v := (.ptr 1 (Int.toNat (IntKind.i64.wrap (3 - (IntKind.i64.wrap (Int.tdiv x8 8))))))) (sv (d_ia rfl rfl (iaB ti84 ti75 rfl h_5))) <| wS (v := (eI .u64 x17)) (sv (d_load rfl (ldX (E := (eI .u64)) (y := x17) ti75 rfl rfl (aix_idx h_5)))) <| wS (v := (eI .u64 x19)) (sv (d_bin rfl rfl (bin_shl' _ _ _ _ h_6))) <| zm rfl <| wS (sv (d_conv rfl (conv_int _ ⟨_, ti5⟩ ti75 rfl))) <| wS (sv (d_bin rfl rfl (bin_or ..))) <| wS (v := (.ptr 1 (Int.toNat (IntKind.i64.wrap (3 - (IntKind.i64.wrap (Int.tdiv x8 8))))))) (sv (d_ia rfl rfl (iaB ti84 ti75 rfl h_5))) ?_
    refine wN (h' := [some ⟨84, (List.replicate 4 0).map (eI .u64)⟩, some ⟨84, (l1_1.set (Int.toNat (IntKind.i64.wrap (3 - (IntKind.i64.wrap (Int.tdiv x8 8))))) (bits .or .u64 x19 (IntKind.u64.wrap x11))).map (eI .u64)⟩]) (sv (d_store rfl rfl (stXe (E := (eI .u64)) (y := bits .or .u64 x19 (IntKind.u64.wrap x11)) ti75 rfl rfl (aix_idx h_5) rfl rfl rfl))) <| OpsW.nil <| Ex.inBlock_mk <| Ex.then_mk <| AB.rw <| wS (v := (eI .i64 (IntKind.i64.wrap (x8 + 1)))) (sv (d_bin rfl rfl (bin_add ..))) <| zm rfl <| zn ?_
    exact ⟨IntKind.i64.wrap (x8 + 1), l1_1.set (Int.toNat (IntKind.i64.wrap (3 - (IntKind.i64.wrap (Int.tdiv x8 8))))) (bits .or .u64 x19 (IntKind.u64.wrap x11)), hr2, (zG [0, 1])⟩
  · replace hr2 := iteF hr2 h3
    refine AB.exit <| Ex.then_exit_mk <| Ex.then_exit_mk <| Ex.inBlock_same_mk ?_
    obtain rfl := Option.some.inj hr2
    refine Ex.then_mk ?_
    exact hG1 _ _ _ _ (zG [0, 1]) (J1 l1_1 hr)
set_option maxRecDepth 20000 in
set_option maxHeartbeats 1000000 in
theorem wide_FromUint_ok (N : Nat) (vn : Int) (r : (List Int)) (hr : wide_FromUint N vn = some r) :
    Vm.Fn Tryd.prog 47 [] [(eI .u64 vn)] (.agg (r.map (eI .u64))) [] := by
  refine fn_ab Tryd.func47 rfl (by kernel_rfl) Tryd.ntmps47 zl rfl (fr := [(0, (eI .u64 vn))]) rfl ?_
  unfold wide_FromUint at hr
  refine zq <| wS (v := (.ptr 0 0)) (h' := [some ⟨84, (List.replicate 4 0).map (eI .u64)⟩]) (sv (d_alloc ti84 rfl rfl rfl)) <| zn <| zq <| zm rfl <| wS (v := (.agg ([vn, 0, 0, 0].map (eI .u64)))) (sv (d_build rfl (bldA ti84 ti75 rfl))) <| wN (h' := [some ⟨84, [vn, 0, 0, 0].map (eI .u64)⟩]) (sv (d_store rfl rfl (stA (E := (eI .u64)) (l := List.replicate 4 0) ti84 rfl rfl (fun _ => rfl) rfl rfl rfl))) <| zn <| AB.ret ?_
  obtain rfl := Option.some.inj hr
  exact done_ret (r1 := (.agg ([vn, 0, 0, 0].map (eI .u64)))) (res1 Tryd.results47 (rvC rfl (ldA (E := (eI .u64)) (l := [vn, 0, 0, 0]) ti84 rfl rfl rfl))) (zG [])
set_option maxRecDepth 20000 in
set_option maxHeartbeats 1000000 in
theorem group_Modulus_ok (N : Nat) (r : (List Int)) (hr : group_Modulus N = some r) :
    Vm.Fn Tryd.prog 57 [] [] (.agg (r.map (eI .u64))) [] := by
  refine fn_ab Tryd.func57 rfl (by kernel_rfl) Tryd.ntmps57 zl rfl (fr := []) rfl ?_
  unfold group_Modulus at hr
  refine zq <| wS (v := (.ptr 0 0)) (h' := [some ⟨84, (List.replicate 4 0).map (eI .u64)⟩]) (sv (d_alloc ti84 rfl rfl rfl)) <| zn <| zq <| wS (v := (.agg ([18446744073709515503, 18446744073709551615, 18446744073709551615, 18446744073709551615].map (eI .u64)))) (sv (d_build rfl (bldA ti84 ti75 rfl))) <| wN (h' := [some ⟨84, [18446744073709515503, 18446744073709551615, 18446744073709551615, 18446744073709551615].map (eI .u64)⟩]) (sv (d_store rfl rfl (stA (E := (eI .u64)) (l := List.replicate 4 0) ti84 rfl rfl (fun _ => rfl) rfl rfl rfl))) <| zn <| AB.ret ?_
  obtain rfl := Option.some.inj hr
  exact done_ret (r1 := (.agg ([18446744073709515503, 18446744073709551615, 18446744073709551615, 18446744073709551615].map (eI .u64)))) (res1 Tryd.results57 (rvC rfl (ldA (E := (eI .u64)) (l := [18446744073709515503, 18446744073709551615, 18446744073709551615, 18446744073709551615]) ti84 rfl rfl rfl))) (zG [])
set_option maxRecDepth 20000 in
set_option maxHeartbeats 1000000 in
theorem wide_Cmp_ok (N : Nat) (va : List Int) (b : List Int) (r : Int) (hr : wide_Cmp N va b = some r) :
    Vm.Fn Tryd.prog 56 [] [(.agg (va.map (eI .u64))), (.agg (b.map (eI .u64)))] (eI .i64 r) [] := by
  refine fn_ab Tryd.func56 rfl (by kernel_rfl) Tryd.ntmps56 zl rfl (fr := [(0, (.agg (va.map (eI .u64)))), (1, (.agg (b.map (eI .u64))))]) rfl ?_
  unfold wide_Cmp at hr
  refine zq <| wS (v := (.ptr 0 0)) (h' := [some ⟨84, va.map (eI .u64)⟩]) (sv (d_box rfl (flatA (fun _ => rfl)) rfl rfl)) <| wS (v := (.ptr 1 0)) (h' := [some ⟨84, va.map (eI .u64)⟩, some ⟨84, b.map (eI .u64)⟩]) (sv (d_box rfl (flatA (fun _ => rfl)) rfl rfl)) <| wS (v := (eI .i64 0)) (sv (d_assign rfl)) <| zn ?_
  refine AB.seq_g fun K1 hK1 hG1 => ?_
  have J1 : wide_Cmp_J1 N = some r → K1 (mkF 24 []) [] := by
    intro hr
    unfold wide_Cmp_J1 at hr
    refine hK1 _ _ <| zq <| wS (v := (eI .i64 0)) (sv (d_assign rfl)) <| zn <| AB.ret ?_
    obtain rfl := Option.some.inj hr
    exact done_ret (r1 := (eI .i64 0)) (res1 Tryd.results56 (rvT rfl)) (zG [])
  refine zq <| wS (v := (eI .i64 3)) (sv (d_assign rfl)) <| zn ?_
  replace hr := bnd hr; obtain ⟨res2, hL2, hr⟩ := hr
  refine AB.block <| AB.loopN (fun m s h => ∃ (vi : Int), wide_Cmp_L2 N va b m vi = some res2 ∧ Ghost 0 s h (mkF 24 [(2, (.ptr 0 0)), (3, (.ptr 1 0)), (5, (eI .i64 vi))]) [some ⟨84, va.map (eI .u64)⟩, some ⟨84, b.map (eI .u64)⟩]) (n := N) ⟨3, hL2, (zG [0, 1])⟩ (by rintro s h ⟨_, h0, _⟩; simp [wide_Cmp_L2] at h0) ?_
  rintro m2 s h ⟨vi, hr2, hg⟩
  refine AB.ghost hg ?_
  clear hg hL2
  rw [wide_Cmp_L2] at hr2
  refine AB.seq <| zq <| zm rfl <| wS (v := (eB (decide (0 ≤ vi)))) (sv (d_bin rfl rfl (bin_geq ..))) <| zn ?_
  refine AB.cnd rfl (fun h1 => ?_) (fun h1 => ?_)
  · replace hr2 := iteT hr2 h1
    refine AB.skip <| Ex.then_mk <| AB.seq <| AB.block <| AB.seq <| AB.seq ?_
    replace hr2 := bnd hr2; obtain ⟨x11, h_2, hr2⟩ := hr2
    replace hr2 := bnd hr2; obtain ⟨x14, h_3, hr2⟩ := hr2
    refine AB.rg E0 (fun _ => by show drawOk (fun _ => false) _ = true; decide +kernel) <| tS (sv (d_move rfl)) <| tS (v := (.ptr 0 (Int.toNat vi))) (sv (d_ia rfl rfl (iaB ti84 ti75 rfl h_2))) <| tS (v := (eI .u64 x11)) (sv (d_load rfl (ldX (E := (eI .u64)) (y := x11) ti75 rfl rfl (aix_idx h_2)))) <| tS (sv (d_move rfl)) <| tS (v := (.ptr 1 (Int.toNat vi))) (sv (d_ia rfl rfl (iaB ti84 ti75 rfl h_3))) <| tS (v := (eI .u64 x14)) (sv (d_load rfl (ldX (E := (eI .u64)) (y := x14) ti75 rfl rfl (aix_idx h_3)))) <| tS (sv (d_bin rfl rfl (bin_lss ..))) <| OpsTo.nil <| Ex.then_mk ?_
    refine AB.cnd rfl (fun h4 => ?_) (fun h4 => ?_)
    · replace hr2 := iteT hr2 h4
      refine zq <| wS (v := (eI .i64 (-1))) (sv (d_assign rfl)) <| zn <| AB.ret <| Ex.then_ret_mk <| Ex.inBlock_ret_mk <| Ex.then_ret_mk <| Ex.then_ret_mk <| Ex.inBlock_ret_mk <| Ex.then_ret_mk ?_
      obtain rfl := Option.some.inj hr2
      obtain rfl := Option.some.inj hr
      exact done_ret (r1 := (eI .i64 (-1))) (res1 Tryd.results56 (rvT rfl)) (zG [])
    · replace hr2 := iteF hr2 h4
      refine AB.skip <| Ex.then_mk <| AB.seq <| AB.rg E0 (fun _ => by show drawOk (fun _ => false) _ = true; decide +kernel) <| tS (sv (d_move rfl)) <| tS (v := (.ptr 0 (Int.toNat vi))) (sv (d_ia rfl rfl (iaB ti84 ti75 rfl h_2))) <| tS (v := (eI .u64 x11)) (sv (d_load rfl (ldX (E := (eI .u64)) (y := x11) ti75 rfl rfl (aix_idx h_2)))) <| tS (sv (d_move rfl)) <| tS (v := (.ptr 1 (Int.toNat vi))) (sv (d_ia rfl rfl (iaB ti84 ti75 rfl h_3))) <| tS (v := (eI .u64 x14)) (sv (d_load rfl (ldX (E := (eI .u64)) (y := x14) ti75 rfl rfl (aix_idx h_3)))) <| tS (sv (d_bin rfl rfl (bin_gtr ..))) <| OpsTo.nil <| Ex.then_mk ?_
      refine AB.cnd rfl (fun h5 => ?_) (fun h5 => ?_)
      · replace hr2 := iteT hr2 h5
        refine zq <| wS (v := (eI .i64 1)) (sv (d_assign rfl)) <| zn <| AB.ret <| Ex.inBlock_ret_mk <| Ex.then_ret_mk <| Ex.then_ret_mk <| Ex.inBlock_ret_mk <| Ex.then_ret_mk ?_
        obtain rfl := Option.some.inj hr2
        obtain rfl := Option.some.inj hr
        exact done_ret (r1 := (eI .i64 1)) (res1 Tryd.results56 (rvT rfl)) (zG [])
      · replace hr2 := iteF hr2 h5
        refine AB.skip <| Ex.inBlock_mk <| Ex.then_mk <| AB.rw <| zm rfl <| wS (v := (eI .i64 (IntKind.i64.wrap (vi - 1)))) (sv (d_bin rfl rfl (bin_sub ..))) <| za rfl <| zn ?_
        exact ⟨IntKind.i64.wrap (vi - 1), hr2, (zG [0, 1])⟩
  · replace hr2 := iteF hr2 h1
    refine AB.exit <| Ex.then_exit_mk <| Ex.then_exit_mk <| Ex.inBlock_same_mk ?_
    obtain rfl := Option.some.inj hr2
    refine Ex.then_mk ?_
    exact hG1 _ _ _ _ (zG []) (J1 hr)
set_option maxRecDepth 20000 in
set_option maxHeartbeats 1000000 in
theorem group_Order_ok (N : Nat) (r : (List Int)) (hr : group_Order N = some r) :
    Vm.Fn Tryd.prog 51 [] [] (.agg (r.map (eI .u64))) [] := by
  refine fn_ab Tryd.func51 rfl (by kernel_rfl) Tryd.ntmps51 zl rfl (fr := []) rfl ?_
  unfold group_Order at hr
  refine zq <| wS (v := (.ptr 0 0)) (h' := [some ⟨84, (List.replicate 4 0).map (eI .u64)⟩]) (sv (d_alloc ti84 rfl rfl rfl)) <| zn <| zq <| wS (v := (.agg ([18446744073709533559, 18446744073709551615, 18446744073709551615, 9223372036854775807].map (eI .u64)))) (sv (d_build rfl (bldA ti84 ti75 rfl))) <| wN (h' := [some ⟨84, [18446744073709533559, 18446744073709551615, 18446744073709551615, 9223372036854775807].map (eI .u64)⟩]) (sv (d_store rfl rfl (stA (E := (eI .u64)) (l := List.replicate 4 0) ti84 rfl rfl (fun _ => rfl) rfl rfl rfl))) <| zn <| AB.ret ?_
  obtain rfl := Option.some.inj hr
  exact done_ret (r1 := (.agg ([18446744073709533559, 18446744073709551615, 18446744073709551615, 9223372036854775807].map (eI .u64)))) (res1 Tryd.results51 (rvC rfl (ldA (E := (eI .u64)) (l := [18446744073709533559, 18446744073709551615, 18446744073709551615, 9223372036854775807]) ti84 rfl rfl rfl))) (zG [])
set_option maxRecDepth 20000 in
set_option maxHeartbeats 1000000 in
theorem math_bits_Len64_ok (N : Nat) (x : Int) (r : Int) (hr : math_bits_Len64 N x = some r) :
    Vm.Fn Tryd.prog 68 [] [(eI .u64 x)] (eI .i64 r) [] := by
  refine fn_ab Tryd.func68 rfl (by kernel_rfl) Tryd.ntmps68 zl rfl (fr := [(0, (eI .u64 x))]) rfl ?_
  unfold math_bits_Len64 at hr
  refine zq <| wS (v := (eI .i64 0)) (sv (d_assign rfl)) <| zn ?_
  refine AB.seq_g fun K1 hK1 hG1 => ?_
  have J1 : ∀ (x_1 : Int) (vn : Int), math_bits_Len64_J1 N x_1 vn = some r → K1 (mkF 25 [(0, (eI .u64 x_1)), (2, (eI .i64 vn))]) [] := by
    intro x_1 vn hr
    unfold math_bits_Len64_J1 at hr
    refine hK1 _ _ ?_
    refine AB.seq_g fun K2 hK2 hG2 => ?_
    have J2 : ∀ (x_2 : Int) (vn_1 : Int), math_bits_Len64_J2 N x_2 vn_1 = some r → K2 (mkF 25 [(0, (eI .u64 x_2)), (2, (eI .i64 vn_1))]) [] := by
      intro x_2 vn_1 hr
      unfold math_bits_Len64_J2 at hr
      refine hK2 _ _ ?_
      refine AB.seq_g fun K3 hK3 hG3 => ?_
      have J3 : ∀ (x_3 : Int) (vn_2 : Int), math_bits_Len64_J3 N x_3 vn_2 = some r → K3 (mkF 25 [(0, (eI .u64 x_3)), (2, (eI .i64 vn_2))]) [] := by
        intro x_3 vn_2 hr
        unfold math_bits_Len64_J3 at hr
        refine hK3 _ _ <| AB.seq ?_
        replace hr := bnd hr; obtain ⟨x22, h_1, hr⟩ := hr
        refine AB.rw <| zm rfl <| zm rfl <| wS (sv (d_conv rfl (conv_int _ ⟨_, ti75⟩ ti5 rfl))) <| wS (v := (eI .u8 x22)) (sv (d_ix rfl rfl (ixT ti9 h_1))) <| wS (sv (d_conv rfl (conv_int _ ⟨_, ti5⟩ ti3 rfl))) <| wS (sv (d_bin rfl rfl (bin_add ..))) <| za rfl <| zn <| AB.ret ?_
        obtain rfl := Option.some.inj hr
        exact done_ret (r1 := (eI .i64 (IntKind.i64.wrap (vn_2 + (IntKind.i64.wrap x22))))) (res1 Tryd.results68 (rvT rfl)) (zG [])
      refine zq <| zm rfl <| wS (v := (eB (decide (256 ≤ x_2)))) (sv (d_bin rfl rfl (bin_geq ..))) <| zn ?_
      refine AB.cnd rfl (fun h2 => ?_) (fun h2 => ?_)
      · replace hr := iteT hr h2
        refine AB.seq ?_
        replace hr := bnd hr; obtain ⟨x16, h_3, hr⟩ := hr
        refine AB.rw <| zm rfl <| wS (v := (eI .u64 x16)) (sv (d_bin rfl rfl (bin_shr' _ _ _ _ h_3))) <| za rfl <| zn <| AB.rw <| zm rfl <| wS (v := (eI .i64 (IntKind.i64.wrap (vn_1 + 8)))) (sv (d_bin rfl rfl (bin_add ..))) <| za rfl <| zn ?_
        exact hG3 _ _ _ _ (zG []) (J3 x16 (IntKind.i64.wrap (vn_1 + 8)) hr)
      · replace hr := iteF hr h2
        refine AB.skip <| Ex.then_mk ?_
        exact hG3 _ _ _ _ (zG []) (J3 x_2 vn_1 hr)
    refine zq <| zm rfl <| wS (v := (eB (decide (65536 ≤ x_1)))) (sv (d_bin rfl rfl (bin_geq ..))) <| zn ?_
    refine AB.cnd rfl (fun h4 => ?_) (fun h4 => ?_)
    · replace hr := iteT hr h4
      refine AB.seq ?_
      replace hr := bnd hr; obtain ⟨x10, h_5, hr⟩ := hr
      refine AB.rw <| zm rfl <| wS (v := (eI .u64 x10)) (sv (d_bin rfl rfl (bin_shr' _ _ _ _ h_5))) <| za rfl <| zn <| AB.rw <| zm rfl <| wS (v := (eI .i64 (IntKind.i64.wrap (vn + 16)))) (sv (d_bin rfl rfl (bin_add ..))) <| za rfl <| zn ?_
      exact hG2 _ _ _ _ (zG []) (J2 x10 (IntKind.i64.wrap (vn + 16)) hr)
    · replace hr := iteF hr h4
      refine AB.skip <| Ex.then_mk ?_
      exact hG2 _ _ _ _ (zG []) (J2 x_1 vn hr)
  refine zq <| zm rfl <| wS (v := (eB (decide (4294967296 ≤ x)))) (sv (d_bin rfl rfl (bin_geq ..))) <| zn ?_
  refine AB.cnd rfl (fun h6 => ?_) (fun h6 => ?_)
  · replace hr := iteT hr h6
    refine AB.seq ?_
    replace hr := bnd hr; obtain ⟨x6, h_7, hr⟩ := hr
    refine AB.rw <| zm rfl <| wS (v := (eI .u64 x6)) (sv (d_bin rfl rfl (bin_shr' _ _ _ _ h_7))) <| za rfl <| zn <| AB.rw <| wS (v := (eI .i64 32)) (sv (d_assign rfl)) <| zn ?_
    exact hG1 _ _ _ _ (zG []) (J1 x6 32 hr)
  · replace hr := iteF hr h6
    refine AB.skip <| Ex.then_mk ?_
    exact hG1 _ _ _ _ (zG []) (J1 x 0 hr)
set_option maxRecDepth 20000 in
set_option maxHeartbeats 1000000 in
theorem wide_Len_ok (N : Nat) (va : List Int) (r : Int) (hr : wide_Len N va = some r) :
    Vm.Fn Tryd.prog 60 [] [(.agg (va.map (eI .u64)))] (eI .i64 r) [] := by
  refine fn_ab Tryd.func60 rfl (by kernel_rfl) Tryd.ntmps60 zl rfl (fr := [(0, (.agg (va.map (eI .u64))))]) rfl ?_
  unfold wide_Len at hr
  refine zq <| wS (v := (.ptr 0 0)) (h' := [some ⟨84, va.map (eI .u64)⟩]) (sv (d_box rfl (flatA (fun _ => rfl)) rfl rfl)) <| wS (v := (eI .i64 0)) (sv (d_assign rfl)) <| zn ?_
  refine AB.seq_g fun K1 hK1 hG1 => ?_
  have J1 : wide_Len_J1 N = some r → K1 (mkF 19 []) [] := by
    intro hr
    unfold wide_Len_J1 at hr
    refine hK1 _ _ <| zq <| wS (v := (eI .i64 0)) (sv (d_assign rfl)) <| zn <| AB.ret ?_
    obtain rfl := Option.some.inj hr
    exact done_ret (r1 := (eI .i64 0)) (res1 Tryd.results60 (rvT rfl)) (zG [])
  refine zq <| wS (v := (eI .i64 3)) (sv (d_assign rfl)) <| zn ?_
  replace hr := bnd hr; obtain ⟨res2, hL2, hr⟩ := hr
  refine AB.block <| AB.loopN (fun m s h => ∃ (vi : Int), wide_Len_L2 N va m vi = some res2 ∧ Ghost 0 s h (mkF 19 [(1, (.ptr 0 0)), (3, (eI .i64 vi))]) [some ⟨84, va.map (eI .u64)⟩]) (n := N) ⟨3, hL2, (zG [0])⟩ (by rintro s h ⟨_, h0, _⟩; simp [wide_Len_L2] at h0) ?_
  rintro m2 s h ⟨vi, hr2, hg⟩
  refine AB.ghost hg ?_
  clear hg hL2
  rw [wide_Len_L2] at hr2
  refine AB.seq <| zq <| zm rfl <| wS (v := (eB (decide (0 ≤ vi)))) (sv (d_bin rfl rfl (bin_geq ..))) <| zn ?_
  refine AB.cnd rfl (fun h1 => ?_) (fun h1 => ?_)
  · replace hr2 := iteT hr2 h1
    refine AB.skip <| Ex.then_mk <| AB.seq <| AB.block <| AB.seq ?_
    replace hr2 := bnd hr2; obtain ⟨x9, h_2, hr2⟩ := hr2
    refine AB.rw <| zm rfl <| wS (v := (.ptr 0 (Int.toNat vi))) (sv (d_ia rfl rfl (iaB ti84 ti75 rfl h_2))) <| wS (v := (eI .u64 x9)) (sv (d_load rfl (ldX (E := (eI .u64)) (y := x9) ti75 rfl rfl (aix_idx h_2)))) <| wS (v := (eB (x9 != 0))) (sv (d_bin rfl rfl (bin_neq ..))) <| zn ?_
    refine AB.cnd rfl (fun h3 => ?_) (fun h3 => ?_)
    · replace hr2 := iteT hr2 h3
      refine AB.seq ?_
      replace hr2 := bnd hr2; obtain ⟨x17, h_4, hr2⟩ := hr2
      refine AB.rw <| zm rfl <| wS (v := (eI .i64 (IntKind.i64.wrap (64 * vi)))) (sv (d_bin rfl rfl (bin_mul ..))) <| zm rfl <| wS (v := (.ptr 0 (Int.toNat vi))) (sv (d_ia rfl rfl (iaB ti84 ti75 rfl h_2))) <| wS (v := (eI .u64 x9)) (sv (d_load rfl (ldX (E := (eI .u64)) (y := x9) ti75 rfl rfl (aix_idx h_2)))) <| wC rfl (Vm.Fn.pure (math_bits_Len64_ok N x9 x17 h_4) rfl rfl) <| wS (sv (d_bin rfl rfl (bin_add ..))) <| za rfl <| zn <| AB.ret <| Ex.inBlock_ret_mk <| Ex.then_ret_mk <| Ex.then_ret_mk <| Ex.inBlock_ret_mk <| Ex.then_ret_mk ?_
      obtain rfl := Option.some.inj hr2
      obtain rfl := Option.some.inj hr
      exact done_ret (r1 := (eI .i64 (IntKind.i64.wrap ((IntKind.i64.wrap (64 * vi)) + x17)))) (res1 Tryd.results60 (rvT rfl)) (zG [])
    · replace hr2 := iteF hr2 h3
      refine AB.skip <| Ex.inBlock_mk <| Ex.then_mk <| AB.rw <| zm rfl <| wS (v := (eI .i64 (IntKind.i64.wrap (vi - 1)))) (sv (d_bin rfl rfl (bin_sub ..))) <| za rfl <| zn ?_
      exact ⟨IntKind.i64.wrap (vi - 1), hr2, (zG [0])⟩
  · replace hr2 := iteF hr2 h1
    refine AB.exit <| Ex.then_exit_mk <| Ex.then_exit_mk <| Ex.inBlock_same_mk ?_
    obtain rfl := Option.some.inj hr2
    refine Ex.then_mk ?_
    exact hG1 _ _ _ _ (zG []) (J1 hr)
set_option maxRecDepth 20000 in
set_option maxHeartbeats 1000000 in
theorem math_bits_Mul64_ok (N : Nat) (x : Int) (y : Int) (r : Int × Int) (hr : math_bits_Mul64 N x y = some r) :
    Vm.Fn Tryd.prog 70 [] [(eI .u64 x), (eI .u64 y)] (.tup [(eI .u64 r.1), (eI .u64 r.2)]) [] := by
  refine fn_ab Tryd.func70 rfl (by kernel_rfl) Tryd.ntmps70 zl rfl (fr := [(0, (eI .u64 x)), (1, (eI .u64 y))]) rfl ?_
  unfold math_bits_Mul64 at hr
  refine zq <| wS (v := (eI .u64 0)) (sv (d_assign rfl)) <| wS (v := (eI .u64 0)) (sv (d_assign rfl)) <| zn <| zq <| zm rfl <| wS (v := (eI .u64 (bits .and .u64 x 4294967295))) (sv (d_bin rfl rfl (bin_and ..))) <| za rfl <| zn <| AB.seq ?_
  replace hr := bnd hr; obtain ⟨x17, h_1, hr⟩ := hr
  refine AB.rw <| zm rfl <| wS (v := (eI .u64 x17)) (sv (d_bin rfl rfl (bin_shr' _ _ _ _ h_1))) <| za rfl <| zn <| zq <| zm rfl <| wS (v := (eI .u64 (bits .and .u64 y 4294967295))) (sv (d_bin rfl rfl (bin_and ..))) <| za rfl <| zn <| AB.seq ?_
  replace hr := bnd hr; obtain ⟨x21, h_2, hr⟩ := hr
  refine AB.rw <| zm rfl <| wS (v := (eI .u64 x21)) (sv (d_bin rfl rfl (bin_shr' _ _ _ _ h_2))) <| za rfl <| zn <| zq <| zm rfl <| zm rfl <| wS (sv (d_bin rfl rfl (bin_mul ..))) <| za rfl <| zn <| AB.seq ?_
  replace hr := bnd hr; obtain ⟨x29, h_3, hr⟩ := hr
  refine AB.rw <| zm rfl <| zm rfl <| wS (sv (d_bin rfl rfl (bin_mul ..))) <| zm rfl <| wS (v := (eI .u64 x29)) (sv (d_bin rfl rfl (bin_shr' _ _ _ _ h_3))) <| wS (sv (d_bin rfl rfl (bin_add ..))) <| za rfl <| zn <| zq <| zm rfl <| wS (v := (eI .u64 (bits .and .u64 (IntKind.u64.wrap ((IntKind.u64.wrap (x17 * (bits .and .u64 y 4294967295))) + x29)) 4294967295))) (sv (d_bin rfl rfl (bin_and ..))) <| za rfl <| zn <| AB.seq ?_
  replace hr := bnd hr; obtain ⟨x34, h_4, hr⟩ := hr
  refine AB.rw <| zm rfl <| wS (v := (eI .u64 x34)) (sv (d_bin rfl rfl (bin_shr' _ _ _ _ h_4))) <| za rfl <| zn <| zq <| zm rfl <| zm rfl <| zm rfl <| wS (sv (d_bin rfl rfl (bin_mul ..))) <| wS (sv (d_bin rfl rfl (bin_add ..))) <| za rfl <| zn <| AB.seq ?_
  replace hr := bnd hr; obtain ⟨x46, h_5, hr⟩ := hr
  refine AB.rw <| zm rfl <| zm rfl <| wS (sv (d_bin rfl rfl (bin_mul ..))) <| zm rfl <| wS (sv (d_bin rfl rfl (bin_add ..))) <| zm rfl <| wS (v := (eI .u64 x46)) (sv (d_bin rfl rfl (bin_shr' _ _ _ _ h_5))) <| wS (sv (d_bin rfl rfl (bin_add ..))) <| za rfl <| zn <| zq <| zm rfl <| zm rfl <| wS (sv (d_bin rfl rfl (bin_mul ..))) <| za rfl <| zn <| AB.ret ?_
  obtain rfl := Option.some.inj hr
  exact done_ret (r1 := (.tup [(eI .u64 (IntKind.u64.wrap ((IntKind.u64.wrap ((IntKind.u64.wrap (x17 * x21)) + x34)) + x46))), (eI .u64 (IntKind.u64.wrap (x * y)))])) (res2 Tryd.results70 (rvT rfl) (rvT rfl)) (zG [])
theorem math_bits_Add64_ok (N : Nat) (x y c : Int) (r : Int × Int) (hr : math_bits_Add64 N x y c = some r) : Vm.Fn Tryd.prog 71 [] [(eI .u64 x), (eI .u64 y), (eI .u64 c)] (.tup [(eI .u64 r.1), (eI .u64 r.2)]) [] :=
  fn_add64 Tryd.func71 (by kernel_rfl) (by kernel_rfl) (by kernel_rfl) (by kernel_rfl) hr
end Go.Proofs.YtokmcbfnfmpemaaDoor
