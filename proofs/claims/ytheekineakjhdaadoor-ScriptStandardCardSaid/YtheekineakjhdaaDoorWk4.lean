/- Walks printed by a program of ours (gen.py): each Go function of the list does what its shallow function says. -/
import Derived.Test.YtheekineakjhdaaDoorWk3
set_option linter.unusedVariables false
set_option linter.unusedSimpArgs false
namespace Go.Proofs.YtheekineakjhdaaDoor
open Go Go.Vm
set_option maxRecDepth 20000 in
set_option maxHeartbeats 1000000 in
theorem law08_ScriptStandard_ok (N : Nat) (keys : List (List Int)) (vm : Int) (vh : List Int) (vn : Int) (va : List Int) (b : List Int) (r : Bool) (hr : law08_ScriptStandard N keys vm vh vn va b = some r) :
    Vm.Fn Tryd.prog 6 [] [(.row none 4 (keys.map (eA (eI .u64)))), (eI .i64 vm), (.agg (vh.map (eI .u8))), (eI .u32 vn), (.row none 1 (va.map (eI .u8))), (.row none 1 (b.map (eI .u8)))] (eB r) [] := by
  refine fn_ab Tryd.func6 rfl (by kernel_rfl) Tryd.ntmps6 (Nat.le_of_ble_eq_true rfl) rfl (fr := [(0, (.row none 4 (keys.map (eA (eI .u64))))), (1, (eI .i64 vm)), (2, (.agg (vh.map (eI .u8)))), (3, (eI .u32 vn)), (4, (.row none 1 (va.map (eI .u8)))), (5, (.row none 1 (b.map (eI .u8))))]) rfl ?_
  unfold law08_ScriptStandard at hr
  refine AB.seq ?_
  refine AB.rw ?_
  refine wS (v := (.ptr 0 0)) (h' := [some ⟨42, vh.map (eI .u8)⟩]) (sv (d_box rfl (flatA (fun _ => rfl)) rfl rfl)) ?_
  refine wS (v := (eB false)) (sv (d_assign rfl)) ?_
  refine OpsW.nil ?_
  refine Ex.then_mk ?_
  refine AB.seq ?_
  refine AB.seq ?_
  replace hr := bnd hr; obtain ⟨x18, h_1, hr⟩ := hr
  refine AB.rw ?_
  refine wC (v := (eB x18)) (h' := [some ⟨42, vh.map (eI .u8)⟩]) rfl (Vm.Fn.pure (law08_sane_ok N x18 h_1) rfl rfl) ?_
  refine wS (v := (eB (!x18))) (sv (d_un rfl (un_not _ _))) ?_
  refine OpsW.nil ?_
  refine Ex.then_mk ?_
  refine AB.cnd rfl (fun h2 => ?_) (fun h2 => ?_)
  · replace hr := iteT hr h2
    refine AB.seq ?_
    refine AB.rw ?_
    refine wS (v := (eB false)) (sv (d_assign rfl)) ?_
    refine OpsW.nil ?_
    refine Ex.then_mk ?_
    refine AB.ret ?_
    refine Ex.then_ret_mk ?_
    obtain rfl := Option.some.inj hr
    exact done_ret (r1 := (eB false)) (res1 Tryd.results6 (rvT rfl)) (Ghost.rn [] rfl rfl (FLe.same rfl FLe.nil) HLe.nil rfl)
  · replace hr := iteF hr h2
    refine AB.skip ?_
    refine Ex.then_mk ?_
    refine AB.seq ?_
    refine AB.seq_g fun K1 hK1 hG1 => ?_
    have J1 : ∀ (x32 : Bool), law08_ScriptStandard_J1 N keys vm vh vn va b x32 = some r → K1 (mkF 102 [(0, (.row none 4 (keys.map (eA (eI .u64))))), (1, (eI .i64 vm)), (3, (eI .u32 vn)), (4, (.row none 1 (va.map (eI .u8)))), (5, (.row none 1 (b.map (eI .u8)))), (8, (.ptr 0 0)), (32, (eB x32))]) [some ⟨42, vh.map (eI .u8)⟩] := by
      intro x32 hr
      unfold law08_ScriptStandard_J1 at hr
      refine hK1 _ _ ?_
      refine AB.cnd rfl (fun h3 => ?_) (fun h3 => ?_)
      · replace hr := iteT hr h3
        refine AB.seq ?_
        refine AB.rw ?_
        refine wS (v := (eB true)) (sv (d_assign rfl)) ?_
        refine OpsW.nil ?_
        refine Ex.then_mk ?_
        refine AB.ret ?_
        refine Ex.then_ret_mk ?_
        obtain rfl := Option.some.inj hr
        exact done_ret (r1 := (eB true)) (res1 Tryd.results6 (rvT rfl)) (Ghost.rn [] rfl rfl (FLe.same rfl FLe.nil) HLe.nil rfl)
      · replace hr := iteF hr h3
        refine AB.skip ?_
        refine Ex.then_mk ?_
        refine AB.seq ?_
        replace hr := bnd hr; obtain ⟨x36, h_4, hr⟩ := hr
        refine AB.rw ?_
        refine wS (v := (eI .i64 vm)) (sv (d_move rfl)) ?_
        refine wS (v := (.row none 4 (keys.map (eA (eI .u64))))) (sv (d_move rfl)) ?_
        refine wC (v := (.tup [(.sl 1 0 x36.1.length 1 false), (eI .i64 x36.2)])) (h' := [some ⟨42, vh.map (eI .u8)⟩, some ⟨5, x36.1.map (eI .u8)⟩]) rfl (Vm.Fn.lendB (script_Multi_ok N vm keys x36 h_4) [] (by decide) rfl Lend.nil rfl rfl (by simp only [lent, lendSet, lendSet_nil, rnH, Blk.rn, V.rns, V.rn, sg, List.map_cons, List.map_nil, Option.map_some, Option.map_none, List.drop_succ_cons, List.drop_zero, List.drop_nil, List.set_cons_zero, List.set_cons_succ, List.cons_append, List.nil_append, List.append_nil, rns_eI, rns_eB, rns_eS, rns_eL, rns_C_api_Op, List.getElem?_cons_zero, List.getElem?_cons_succ, List.getElem?_nil, List.length_cons, List.length_nil, Nat.reduceAdd, Nat.reduceSub, Nat.add_zero, Nat.zero_add, Nat.sub_self, Nat.sub_zero])) ?_
        refine wS (v := (.tup [(.sl 1 0 x36.1.length 1 false), (eI .i64 x36.2)])) (sv (d_move rfl)) ?_
        refine wS (v := (.sl 1 0 x36.1.length 1 false)) (sv (d_ext rfl rfl)) ?_
        refine wS (v := (eI .i64 x36.2)) (sv (d_ext rfl rfl)) ?_
        refine wS (v := (.sl 1 0 x36.1.length 1 false)) (sv (d_assign rfl)) ?_
        refine wS (v := (eI .i64 x36.2)) (sv (d_assign rfl)) ?_
        refine OpsW.nil ?_
        refine Ex.then_mk ?_
        refine AB.seq ?_
        replace hr := bnd hr; obtain ⟨x42, h_5, hr⟩ := hr
        refine AB.rw ?_
        refine wS (v := (eI .i64 vm)) (sv (d_move rfl)) ?_
        refine wS (v := (.row none 4 (keys.map (eA (eI .u64))))) (sv (d_move rfl)) ?_
        refine wC (v := (.tup [(.sl 2 0 x42.1.length 1 false), (eI .i64 x42.2)])) (h' := [some ⟨42, vh.map (eI .u8)⟩, some ⟨5, x36.1.map (eI .u8)⟩, some ⟨5, x42.1.map (eI .u8)⟩]) rfl (Vm.Fn.lendB (ref08_Multi_ok N vm keys x42 h_5) [] (by decide) rfl Lend.nil rfl rfl (by simp only [lent, lendSet, lendSet_nil, rnH, Blk.rn, V.rns, V.rn, sg, List.map_cons, List.map_nil, Option.map_some, Option.map_none, List.drop_succ_cons, List.drop_zero, List.drop_nil, List.set_cons_zero, List.set_cons_succ, List.cons_append, List.nil_append, List.append_nil, rns_eI, rns_eB, rns_eS, rns_eL, rns_C_api_Op, List.getElem?_cons_zero, List.getElem?_cons_succ, List.getElem?_nil, List.length_cons, List.length_nil, Nat.reduceAdd, Nat.reduceSub, Nat.add_zero, Nat.zero_add, Nat.sub_self, Nat.sub_zero])) ?_
        refine wS (v := (.tup [(.sl 2 0 x42.1.length 1 false), (eI .i64 x42.2)])) (sv (d_move rfl)) ?_
        refine wS (v := (.sl 2 0 x42.1.length 1 false)) (sv (d_ext rfl rfl)) ?_
        refine wS (v := (eI .i64 x42.2)) (sv (d_ext rfl rfl)) ?_
        refine wS (v := (.sl 2 0 x42.1.length 1 false)) (sv (d_assign rfl)) ?_
        refine wS (v := (eI .i64 x42.2)) (sv (d_assign rfl)) ?_
        refine OpsW.nil ?_
        refine Ex.then_mk ?_
        refine AB.seq ?_
        refine AB.rw ?_
        refine wS (v := (.ptr 3 0)) (h' := [some ⟨42, vh.map (eI .u8)⟩, some ⟨5, x36.1.map (eI .u8)⟩, some ⟨5, x42.1.map (eI .u8)⟩, some ⟨46, (List.replicate 4 0).map (eI .u64)⟩]) (sv (d_alloc ti46 rfl rfl rfl)) ?_
        refine OpsW.nil ?_
        refine Ex.then_mk ?_
        refine AB.seq_g fun K2 hK2 hG2 => ?_
        have J2 : ∀ (l3 : List Int), law08_ScriptStandard_J2 N vh vn va b x36 x42 l3 = some r → K2 (mkF 102 [(3, (eI .u32 vn)), (4, (.row none 1 (va.map (eI .u8)))), (5, (.row none 1 (b.map (eI .u8)))), (8, (.ptr 0 0)), (13, (.sl 1 0 x36.1.length 1 false)), (14, (eI .i64 x36.2)), (15, (.sl 2 0 x42.1.length 1 false)), (16, (eI .i64 x42.2)), (17, (.ptr 3 0))]) [some ⟨42, vh.map (eI .u8)⟩, some ⟨5, x36.1.map (eI .u8)⟩, some ⟨5, x42.1.map (eI .u8)⟩, some ⟨46, l3.map (eI .u64)⟩] := by
          intro l3 hr
          unfold law08_ScriptStandard_J2 at hr
          refine hK2 _ _ ?_
          refine AB.seq_g fun K3 hK3 hG3 => ?_
          have J3 : ∀ (x12 : Bool), law08_ScriptStandard_J3 N x12 = some r → K3 (mkF 102 [(12, (eB x12))]) [] := by
            intro x12 hr
            unfold law08_ScriptStandard_J3 at hr
            refine hK3 _ _ ?_
            refine AB.ret ?_
            obtain rfl := Option.some.inj hr
            exact done_ret (r1 := (eB x12)) (res1 Tryd.results6 (rvT rfl)) (Ghost.rn [] rfl rfl (FLe.same rfl FLe.nil) HLe.nil rfl)
          rcases Bool.eq_false_or_eq_true (x36.2 == x42.2) with h6 | h6
          · replace hr := iteT hr h6
            replace hr := bnd hr; obtain ⟨x57, h_7, hr⟩ := hr
            rcases Bool.eq_false_or_eq_true x57 with h9 | h9
            · replace hr := iteT hr h9
              replace hr := bnd hr; obtain ⟨q, h_10, hr⟩ := hr
              replace hr := bnd hr; obtain ⟨x61, h_11, hr⟩ := hr
              replace hr := bnd hr; obtain ⟨x63, h_13, hr⟩ := hr
              replace hr := bnd hr; obtain ⟨x64, h_15, hr⟩ := hr
              rcases Bool.eq_false_or_eq_true x64 with h17 | h17
              · replace hr := iteT hr h17
                replace hr := bnd hr; obtain ⟨x69, h_18, hr⟩ := hr
                replace hr := bnd hr; obtain ⟨x72, h_20, hr⟩ := hr
                replace hr := bnd hr; obtain ⟨x73, h_22, hr⟩ := hr
                rcases Bool.eq_false_or_eq_true x73 with h24 | h24
                · replace hr := iteT hr h24
                  replace hr := bnd hr; obtain ⟨x78, h_25, hr⟩ := hr
                  replace hr := bnd hr; obtain ⟨x81, h_27, hr⟩ := hr
                  replace hr := bnd hr; obtain ⟨x82, h_29, hr⟩ := hr
                  rcases Bool.eq_false_or_eq_true x82 with h31 | h31
                  · replace hr := iteT hr h31
                    replace hr := bnd hr; obtain ⟨q_1, h_32, hr⟩ := hr
                    replace hr := bnd hr; obtain ⟨x87, h_33, hr⟩ := hr
                    replace hr := bnd hr; obtain ⟨x90, h_35, hr⟩ := hr
                    replace hr := bnd hr; obtain ⟨x91, h_37, hr⟩ := hr
                    rcases Bool.eq_false_or_eq_true x91 with h39 | h39
                    · replace hr := iteT hr h39
                      replace hr := bnd hr; obtain ⟨x96, h_40, hr⟩ := hr
                      replace hr := bnd hr; obtain ⟨x99, h_42, hr⟩ := hr
                      replace hr := bnd hr; obtain ⟨x100, h_44, hr⟩ := hr
                      refine AB.rd (memF [11, 20, 21, 22, 23, 24, 25, 26, 27, 28, 29]) (memF []) mixed ?_
                      refine DrawG.pick (n := 51) (i := 0) (by decide +kernel) rfl (gS (v := (eI .i64 x36.2)) (sv (d_move rfl))) ?_
                      refine DrawG.pick (n := 50) (i := 1) (by decide +kernel) rfl (gS (v := (eI .i64 x42.2)) (sv (d_move rfl))) ?_
                      refine DrawG.pick (n := 49) (i := 2) (by decide +kernel) rfl (gS (v := (eB (x36.2 == x42.2))) (sv (d_bin rfl rfl (bin_eql ..)))) ?_
                      refine DrawG.pick (n := 48) (i := 3) (by decide +kernel) rfl (gS (v := (eB (x36.2 == x42.2))) (sv (d_move rfl))) ?_
                      refine DrawG.pick (n := 47) (i := 4) (by decide +kernel) rfl (gS (v := (.sl 1 0 x36.1.length 1 false)) (svG rfl rfl h6 (d_move rfl))) ?_
                      refine DrawG.pick (n := 46) (i := 5) (by decide +kernel) rfl (gS (v := (.sl 2 0 x42.1.length 1 false)) (svG rfl rfl h6 (d_move rfl))) ?_
                      refine DrawG.pick (n := 45) (i := 6) (by decide +kernel) rfl (gC (v := (eB x57)) (h' := [some ⟨42, vh.map (eI .u8)⟩, some ⟨5, x36.1.map (eI .u8)⟩, some ⟨5, x42.1.map (eI .u8)⟩, some ⟨46, l3.map (eI .u64)⟩]) (Vm.Fn.lendR (ref01_Same_ok N x36.1 x42.1 x57 h_7) [] [1, 2] (by decide) rfl (by decide) Lend.nil (Brw.row (exp_slT rfl rfl (fun _ => rfl)) (Brw.row (exp_slT rfl rfl (fun _ => rfl)) Brw.nil)) rfl rfB.nil rfl (by simp only [lent, lendSet, lendSet_nil, rnH, Blk.rn, V.rns, V.rn, sg, List.map_cons, List.map_nil, Option.map_some, Option.map_none, List.drop_succ_cons, List.drop_zero, List.drop_nil, List.set_cons_zero, List.set_cons_succ, List.cons_append, List.nil_append, List.append_nil, rns_eI, rns_eB, rns_eS, rns_eL, rns_C_api_Op, List.getElem?_cons_zero, List.getElem?_cons_succ, List.getElem?_nil, List.length_cons, List.length_nil, Nat.reduceAdd, Nat.reduceSub, Nat.add_zero, Nat.zero_add, Nat.sub_self, Nat.sub_zero])) (fun _ => rfl) (fun h => absurd h (by decide)) (svG rfl rfl h6 (d_call rfl orc1_hit))) ?_
                      refine DrawG.pick (n := 44) (i := 7) (by decide +kernel) rfl (gS (v := (eB x57)) (sv (d_pickT rfl h6 rfl))) ?_
                      refine DrawG.pick (n := 43) (i := 8) (by decide +kernel) rfl (gS (v := (eB x57)) (sv (d_move rfl))) ?_
                      refine DrawG.pick (n := 42) (i := 9) (by decide +kernel) rfl (gS (v := (.agg (l3.map (eI .u64)))) (svG rfl rfl h9 (d_load rfl (ldA (E := (eI .u64)) (l := l3) ti46 rfl rfl (arr_len h_10))))) ?_
                      refine DrawG.pick (n := 41) (i := 10) (by decide +kernel) rfl (gC (v := (.row none 1 (x61.map (eI .u8)))) (h' := [some ⟨42, vh.map (eI .u8)⟩, some ⟨5, x36.1.map (eI .u8)⟩, some ⟨5, x42.1.map (eI .u8)⟩, some ⟨46, l3.map (eI .u64)⟩]) (Vm.Fn.pure (script_Single_ok N l3 x61 h_11) (by simp only [V.rn, V.rns, rns_eI, rns_eB]) rfl) (fun _ => rfl) (fun h => absurd h (by decide)) (svG rfl rfl h9 (d_call rfl orc1_hit))) ?_
                      refine DrawG.pick (n := 40) (i := 11) (by decide +kernel) rfl (gS (v := (.agg (l3.map (eI .u64)))) (svG rfl rfl h9 (d_load rfl (ldA (E := (eI .u64)) (l := l3) ti46 rfl rfl (arr_len h_10))))) ?_
                      refine DrawG.pick (n := 39) (i := 12) (by decide +kernel) rfl (gC (v := (.row none 1 (x63.map (eI .u8)))) (h' := [some ⟨42, vh.map (eI .u8)⟩, some ⟨5, x36.1.map (eI .u8)⟩, some ⟨5, x42.1.map (eI .u8)⟩, some ⟨46, l3.map (eI .u64)⟩]) (Vm.Fn.pure (ref08_Single_ok N l3 x63 h_13) (by simp only [V.rn, V.rns, rns_eI, rns_eB]) rfl) (fun _ => rfl) (fun h => absurd h (by decide)) (svG rfl rfl h9 (d_call rfl orc1_hit))) ?_
                      refine DrawG.pick (n := 38) (i := 13) (by decide +kernel) rfl (gC (v := (eB x64)) (h' := [some ⟨42, vh.map (eI .u8)⟩, some ⟨5, x36.1.map (eI .u8)⟩, some ⟨5, x42.1.map (eI .u8)⟩, some ⟨46, l3.map (eI .u64)⟩]) (Vm.Fn.pure (ref01_Same_ok N x61 x63 x64 h_15) rfl rfl) (fun _ => rfl) (fun h => absurd h (by decide)) (svG rfl rfl h9 (d_call rfl orc1_hit))) ?_
                      refine DrawG.pick (n := 37) (i := 14) (by decide +kernel) rfl (gS (v := (eB x64)) (sv (d_pickT rfl h9 rfl))) ?_
                      refine DrawG.pick (n := 36) (i := 15) (by decide +kernel) rfl (gS (v := (eB x64)) (sv (d_move rfl))) ?_
                      refine DrawG.pick (n := 35) (i := 16) (by decide +kernel) rfl (gS (v := (eI .u32 vn)) (svG rfl rfl h17 (d_move rfl))) ?_
                      refine DrawG.pick (n := 34) (i := 17) (by decide +kernel) rfl (gS (v := (.row none 1 (va.map (eI .u8)))) (svG rfl rfl h17 (d_move rfl))) ?_
                      refine DrawG.pick (n := 33) (i := 18) (by decide +kernel) rfl (gC (v := (.row none 1 (x69.map (eI .u8)))) (h' := [some ⟨42, vh.map (eI .u8)⟩, some ⟨5, x36.1.map (eI .u8)⟩, some ⟨5, x42.1.map (eI .u8)⟩, some ⟨46, l3.map (eI .u64)⟩]) (Vm.Fn.pure (script_After_ok N vn va x69 h_18) rfl rfl) (fun _ => rfl) (fun h => absurd h (by decide)) (svG rfl rfl h17 (d_call rfl orc1_hit))) ?_
                      refine DrawG.pick (n := 32) (i := 19) (by decide +kernel) rfl (gS (v := (eI .u32 vn)) (svG rfl rfl h17 (d_move rfl))) ?_
                      refine DrawG.pick (n := 31) (i := 20) (by decide +kernel) rfl (gS (v := (.row none 1 (va.map (eI .u8)))) (svG rfl rfl h17 (d_move rfl))) ?_
                      refine DrawG.pick (n := 30) (i := 21) (by decide +kernel) rfl (gC (v := (.row none 1 (x72.map (eI .u8)))) (h' := [some ⟨42, vh.map (eI .u8)⟩, some ⟨5, x36.1.map (eI .u8)⟩, some ⟨5, x42.1.map (eI .u8)⟩, some ⟨46, l3.map (eI .u64)⟩]) (Vm.Fn.pure (ref08_After_ok N vn va x72 h_20) rfl rfl) (fun _ => rfl) (fun h => absurd h (by decide)) (svG rfl rfl h17 (d_call rfl orc1_hit))) ?_
                      refine DrawG.pick (n := 29) (i := 22) (by decide +kernel) rfl (gC (v := (eB x73)) (h' := [some ⟨42, vh.map (eI .u8)⟩, some ⟨5, x36.1.map (eI .u8)⟩, some ⟨5, x42.1.map (eI .u8)⟩, some ⟨46, l3.map (eI .u64)⟩]) (Vm.Fn.pure (ref01_Same_ok N x69 x72 x73 h_22) rfl rfl) (fun _ => rfl) (fun h => absurd h (by decide)) (svG rfl rfl h17 (d_call rfl orc1_hit))) ?_
                      refine DrawG.pick (n := 28) (i := 23) (by decide +kernel) rfl (gS (v := (eB x73)) (sv (d_pickT rfl h17 rfl))) ?_
                      refine DrawG.pick (n := 27) (i := 24) (by decide +kernel) rfl (gS (v := (eB x73)) (sv (d_move rfl))) ?_
                      refine DrawG.pick (n := 26) (i := 25) (by decide +kernel) rfl (gS (v := (eI .u32 vn)) (svG rfl rfl h24 (d_move rfl))) ?_
                      refine DrawG.pick (n := 25) (i := 26) (by decide +kernel) rfl (gS (v := (.row none 1 (va.map (eI .u8)))) (svG rfl rfl h24 (d_move rfl))) ?_
                      refine DrawG.pick (n := 24) (i := 27) (by decide +kernel) rfl (gC (v := (.row none 1 (x78.map (eI .u8)))) (h' := [some ⟨42, vh.map (eI .u8)⟩, some ⟨5, x36.1.map (eI .u8)⟩, some ⟨5, x42.1.map (eI .u8)⟩, some ⟨46, l3.map (eI .u64)⟩]) (Vm.Fn.pure (script_Older_ok N vn va x78 h_25) rfl rfl) (fun _ => rfl) (fun h => absurd h (by decide)) (svG rfl rfl h24 (d_call rfl orc1_hit))) ?_
                      refine DrawG.pick (n := 23) (i := 28) (by decide +kernel) rfl (gS (v := (eI .u32 vn)) (svG rfl rfl h24 (d_move rfl))) ?_
                      refine DrawG.pick (n := 22) (i := 29) (by decide +kernel) rfl (gS (v := (.row none 1 (va.map (eI .u8)))) (svG rfl rfl h24 (d_move rfl))) ?_
                      refine DrawG.pick (n := 21) (i := 30) (by decide +kernel) rfl (gC (v := (.row none 1 (x81.map (eI .u8)))) (h' := [some ⟨42, vh.map (eI .u8)⟩, some ⟨5, x36.1.map (eI .u8)⟩, some ⟨5, x42.1.map (eI .u8)⟩, some ⟨46, l3.map (eI .u64)⟩]) (Vm.Fn.pure (ref08_Older_ok N vn va x81 h_27) rfl rfl) (fun _ => rfl) (fun h => absurd h (by decide)) (svG rfl rfl h24 (d_call rfl orc1_hit))) ?_
                      refine DrawG.pick (n := 20) (i := 31) (by decide +kernel) rfl (gC (v := (eB x82)) (h' := [some ⟨42, vh.map (eI .u8)⟩, some ⟨5, x36.1.map (eI .u8)⟩, some ⟨5, x42.1.map (eI .u8)⟩, some ⟨46, l3.map (eI .u64)⟩]) (Vm.Fn.pure (ref01_Same_ok N x78 x81 x82 h_29) rfl rfl) (fun _ => rfl) (fun h => absurd h (by decide)) (svG rfl rfl h24 (d_call rfl orc1_hit))) ?_
                      refine DrawG.pick (n := 19) (i := 32) (by decide +kernel) rfl (gS (v := (eB x82)) (sv (d_pickT rfl h24 rfl))) ?_
                      refine DrawG.pick (n := 18) (i := 33) (by decide +kernel) rfl (gS (v := (eB x82)) (sv (d_move rfl))) ?_
                      refine DrawG.pick (n := 17) (i := 34) (by decide +kernel) rfl (gS (v := (.agg (vh.map (eI .u8)))) (svG rfl rfl h31 (d_load rfl (ldA (E := (eI .u8)) (l := vh) ti42 rfl rfl (arr_len h_32))))) ?_
                      refine DrawG.pick (n := 16) (i := 35) (by decide +kernel) rfl (gS (v := (.row none 1 (va.map (eI .u8)))) (svG rfl rfl h31 (d_move rfl))) ?_
                      refine DrawG.pick (n := 15) (i := 36) (by decide +kernel) rfl (gC (v := (.row none 1 (x87.map (eI .u8)))) (h' := [some ⟨42, vh.map (eI .u8)⟩, some ⟨5, x36.1.map (eI .u8)⟩, some ⟨5, x42.1.map (eI .u8)⟩, some ⟨46, l3.map (eI .u64)⟩]) (Vm.Fn.pure (script_Hashed_ok N vh va x87 h_33) (by simp only [V.rn, V.rns, rns_eI, rns_eB]) rfl) (fun _ => rfl) (fun h => absurd h (by decide)) (svG rfl rfl h31 (d_call rfl orc1_hit))) ?_
                      refine DrawG.pick (n := 14) (i := 37) (by decide +kernel) rfl (gS (v := (.agg (vh.map (eI .u8)))) (svG rfl rfl h31 (d_load rfl (ldA (E := (eI .u8)) (l := vh) ti42 rfl rfl (arr_len h_32))))) ?_
                      refine DrawG.pick (n := 13) (i := 38) (by decide +kernel) rfl (gS (v := (.row none 1 (va.map (eI .u8)))) (svG rfl rfl h31 (d_move rfl))) ?_
                      refine DrawG.pick (n := 12) (i := 39) (by decide +kernel) rfl (gC (v := (.row none 1 (x90.map (eI .u8)))) (h' := [some ⟨42, vh.map (eI .u8)⟩, some ⟨5, x36.1.map (eI .u8)⟩, some ⟨5, x42.1.map (eI .u8)⟩, some ⟨46, l3.map (eI .u64)⟩]) (Vm.Fn.pure (ref08_Hashed_ok N vh va x90 h_35) (by simp only [V.rn, V.rns, rns_eI, rns_eB]) rfl) (fun _ => rfl) (fun h => absurd h (by decide)) (svG rfl rfl h31 (d_call rfl orc1_hit))) ?_
                      refine DrawG.pick (n := 11) (i := 40) (by decide +kernel) rfl (gC (v := (eB x91)) (h' := [some ⟨42, vh.map (eI .u8)⟩, some ⟨5, x36.1.map (eI .u8)⟩, some ⟨5, x42.1.map (eI .u8)⟩, some ⟨46, l3.map (eI .u64)⟩]) (Vm.Fn.pure (ref01_Same_ok N x87 x90 x91 h_37) rfl rfl) (fun _ => rfl) (fun h => absurd h (by decide)) (svG rfl rfl h31 (d_call rfl orc1_hit))) ?_
                      refine DrawG.pick (n := 10) (i := 41) (by decide +kernel) rfl (gS (v := (eB x91)) (sv (d_pickT rfl h31 rfl))) ?_
                      refine DrawG.pick (n := 9) (i := 42) (by decide +kernel) rfl (gS (v := (eB x91)) (sv (d_move rfl))) ?_
                      refine DrawG.pick (n := 8) (i := 43) (by decide +kernel) rfl (gS (v := (.row none 1 (va.map (eI .u8)))) (svG rfl rfl h39 (d_move rfl))) ?_
                      refine DrawG.pick (n := 7) (i := 44) (by decide +kernel) rfl (gS (v := (.row none 1 (b.map (eI .u8)))) (svG rfl rfl h39 (d_move rfl))) ?_
                      refine DrawG.pick (n := 6) (i := 45) (by decide +kernel) rfl (gC (v := (.row none 1 (x96.map (eI .u8)))) (h' := [some ⟨42, vh.map (eI .u8)⟩, some ⟨5, x36.1.map (eI .u8)⟩, some ⟨5, x42.1.map (eI .u8)⟩, some ⟨46, l3.map (eI .u64)⟩]) (Vm.Fn.pure (script_Either_ok N va b x96 h_40) rfl rfl) (fun _ => rfl) (fun h => absurd h (by decide)) (svG rfl rfl h39 (d_call rfl orc1_hit))) ?_
                      refine DrawG.pick (n := 5) (i := 46) (by decide +kernel) rfl (gS (v := (.row none 1 (va.map (eI .u8)))) (svG rfl rfl h39 (d_move rfl))) ?_
                      refine DrawG.pick (n := 4) (i := 47) (by decide +kernel) rfl (gS (v := (.row none 1 (b.map (eI .u8)))) (svG rfl rfl h39 (d_move rfl))) ?_
                      refine DrawG.pick (n := 3) (i := 48) (by decide +kernel) rfl (gC (v := (.row none 1 (x99.map (eI .u8)))) (h' := [some ⟨42, vh.map (eI .u8)⟩, some ⟨5, x36.1.map (eI .u8)⟩, some ⟨5, x42.1.map (eI .u8)⟩, some ⟨46, l3.map (eI .u64)⟩]) (Vm.Fn.pure (ref08_Either_ok N va b x99 h_42) rfl rfl) (fun _ => rfl) (fun h => absurd h (by decide)) (svG rfl rfl h39 (d_call rfl orc1_hit))) ?_
                      refine DrawG.pick (n := 2) (i := 49) (by decide +kernel) rfl (gC (v := (eB x100)) (h' := [some ⟨42, vh.map (eI .u8)⟩, some ⟨5, x36.1.map (eI .u8)⟩, some ⟨5, x42.1.map (eI .u8)⟩, some ⟨46, l3.map (eI .u64)⟩]) (Vm.Fn.pure (ref01_Same_ok N x96 x99 x100 h_44) rfl rfl) (fun _ => rfl) (fun h => absurd h (by decide)) (svG rfl rfl h39 (d_call rfl orc1_hit))) ?_
                      refine DrawG.pick (n := 1) (i := 50) (by decide +kernel) rfl (gS (v := (eB x100)) (sv (d_pickT rfl h39 rfl))) ?_
                      refine DrawG.pick (n := 0) (i := 51) (by decide +kernel) rfl (gS (v := (eB x100)) (sv (d_assign rfl))) ?_
                      refine DrawG.nil (by decide +kernel) ?_
                      refine Ex.then_mk ?_
                      exact hG3 _ _ _ _ (Ghost.rn [] rfl rfl (FLe.same rfl FLe.nil) HLe.nil rfl) (J3 x100 hr)
                    · replace hr := iteF hr h39
                      refine AB.rd (memF [11, 20, 21, 22, 23, 24, 25, 26, 27, 28, 29]) (memF []) mixed ?_
                      refine DrawG.pick (n := 51) (i := 0) (by decide +kernel) rfl (gS (v := (eI .i64 x36.2)) (sv (d_move rfl))) ?_
                      refine DrawG.pick (n := 50) (i := 1) (by decide +kernel) rfl (gS (v := (eI .i64 x42.2)) (sv (d_move rfl))) ?_
                      refine DrawG.pick (n := 49) (i := 2) (by decide +kernel) rfl (gS (v := (eB (x36.2 == x42.2))) (sv (d_bin rfl rfl (bin_eql ..)))) ?_
                      refine DrawG.pick (n := 48) (i := 3) (by decide +kernel) rfl (gS (v := (eB (x36.2 == x42.2))) (sv (d_move rfl))) ?_
                      refine DrawG.pick (n := 47) (i := 4) (by decide +kernel) rfl (gS (v := (.sl 1 0 x36.1.length 1 false)) (svG rfl rfl h6 (d_move rfl))) ?_
                      refine DrawG.pick (n := 46) (i := 5) (by decide +kernel) rfl (gS (v := (.sl 2 0 x42.1.length 1 false)) (svG rfl rfl h6 (d_move rfl))) ?_
                      refine DrawG.pick (n := 45) (i := 6) (by decide +kernel) rfl (gC (v := (eB x57)) (h' := [some ⟨42, vh.map (eI .u8)⟩, some ⟨5, x36.1.map (eI .u8)⟩, some ⟨5, x42.1.map (eI .u8)⟩, some ⟨46, l3.map (eI .u64)⟩]) (Vm.Fn.lendR (ref01_Same_ok N x36.1 x42.1 x57 h_7) [] [1, 2] (by decide) rfl (by decide) Lend.nil (Brw.row (exp_slT rfl rfl (fun _ => rfl)) (Brw.row (exp_slT rfl rfl (fun _ => rfl)) Brw.nil)) rfl rfB.nil rfl (by simp only [lent, lendSet, lendSet_nil, rnH, Blk.rn, V.rns, V.rn, sg, List.map_cons, List.map_nil, Option.map_some, Option.map_none, List.drop_succ_cons, List.drop_zero, List.drop_nil, List.set_cons_zero, List.set_cons_succ, List.cons_append, List.nil_append, List.append_nil, rns_eI, rns_eB, rns_eS, rns_eL, rns_C_api_Op, List.getElem?_cons_zero, List.getElem?_cons_succ, List.getElem?_nil, List.length_cons, List.length_nil, Nat.reduceAdd, Nat.reduceSub, Nat.add_zero, Nat.zero_add, Nat.sub_self, Nat.sub_zero])) (fun _ => rfl) (fun h => absurd h (by decide)) (svG rfl rfl h6 (d_call rfl orc1_hit))) ?_
                      refine DrawG.pick (n := 44) (i := 7) (by decide +kernel) rfl (gS (v := (eB x57)) (sv (d_pickT rfl h6 rfl))) ?_
                      refine DrawG.pick (n := 43) (i := 8) (by decide +kernel) rfl (gS (v := (eB x57)) (sv (d_move rfl))) ?_
                      refine DrawG.pick (n := 42) (i := 9) (by decide +kernel) rfl (gS (v := (.agg (l3.map (eI .u64)))) (svG rfl rfl h9 (d_load rfl (ldA (E := (eI .u64)) (l := l3) ti46 rfl rfl (arr_len h_10))))) ?_
                      refine DrawG.pick (n := 41) (i := 10) (by decide +kernel) rfl (gC (v := (.row none 1 (x61.map (eI .u8)))) (h' := [some ⟨42, vh.map (eI .u8)⟩, some ⟨5, x36.1.map (eI .u8)⟩, some ⟨5, x42.1.map (eI .u8)⟩, some ⟨46, l3.map (eI .u64)⟩]) (Vm.Fn.pure (script_Single_ok N l3 x61 h_11) (by simp only [V.rn, V.rns, rns_eI, rns_eB]) rfl) (fun _ => rfl) (fun h => absurd h (by decide)) (svG rfl rfl h9 (d_call rfl orc1_hit))) ?_
                      refine DrawG.pick (n := 40) (i := 11) (by decide +kernel) rfl (gS (v := (.agg (l3.map (eI .u64)))) (svG rfl rfl h9 (d_load rfl (ldA (E := (eI .u64)) (l := l3) ti46 rfl rfl (arr_len h_10))))) ?_
                      refine DrawG.pick (n := 39) (i := 12) (by decide +kernel) rfl (gC (v := (.row none 1 (x63.map (eI .u8)))) (h' := [some ⟨42, vh.map (eI .u8)⟩, some ⟨5, x36.1.map (eI .u8)⟩, some ⟨5, x42.1.map (eI .u8)⟩, some ⟨46, l3.map (eI .u64)⟩]) (Vm.Fn.pure (ref08_Single_ok N l3 x63 h_13) (by simp only [V.rn, V.rns, rns_eI, rns_eB]) rfl) (fun _ => rfl) (fun h => absurd h (by decide)) (svG rfl rfl h9 (d_call rfl orc1_hit))) ?_
                      refine DrawG.pick (n := 38) (i := 13) (by decide +kernel) rfl (gC (v := (eB x64)) (h' := [some ⟨42, vh.map (eI .u8)⟩, some ⟨5, x36.1.map (eI .u8)⟩, some ⟨5, x42.1.map (eI .u8)⟩, some ⟨46, l3.map (eI .u64)⟩]) (Vm.Fn.pure (ref01_Same_ok N x61 x63 x64 h_15) rfl rfl) (fun _ => rfl) (fun h => absurd h (by decide)) (svG rfl rfl h9 (d_call rfl orc1_hit))) ?_
                      refine DrawG.pick (n := 37) (i := 14) (by decide +kernel) rfl (gS (v := (eB x64)) (sv (d_pickT rfl h9 rfl))) ?_
                      refine DrawG.pick (n := 36) (i := 15) (by decide +kernel) rfl (gS (v := (eB x64)) (sv (d_move rfl))) ?_
                      refine DrawG.pick (n := 35) (i := 16) (by decide +kernel) rfl (gS (v := (eI .u32 vn)) (svG rfl rfl h17 (d_move rfl))) ?_
                      refine DrawG.pick (n := 34) (i := 17) (by decide +kernel) rfl (gS (v := (.row none 1 (va.map (eI .u8)))) (svG rfl rfl h17 (d_move rfl))) ?_
                      refine DrawG.pick (n := 33) (i := 18) (by decide +kernel) rfl (gC (v := (.row none 1 (x69.map (eI .u8)))) (h' := [some ⟨42, vh.map (eI .u8)⟩, some ⟨5, x36.1.map (eI .u8)⟩, some ⟨5, x42.1.map (eI .u8)⟩, some ⟨46, l3.map (eI .u64)⟩]) (Vm.Fn.pure (script_After_ok N vn va x69 h_18) rfl rfl) (fun _ => rfl) (fun h => absurd h (by decide)) (svG rfl rfl h17 (d_call rfl orc1_hit))) ?_
                      refine DrawG.pick (n := 32) (i := 19) (by decide +kernel) rfl (gS (v := (eI .u32 vn)) (svG rfl rfl h17 (d_move rfl))) ?_
                      refine DrawG.pick (n := 31) (i := 20) (by decide +kernel) rfl (gS (v := (.row none 1 (va.map (eI .u8)))) (svG rfl rfl h17 (d_move rfl))) ?_
                      refine DrawG.pick (n := 30) (i := 21) (by decide +kernel) rfl (gC (v := (.row none 1 (x72.map (eI .u8)))) (h' := [some ⟨42, vh.map (eI .u8)⟩, some ⟨5, x36.1.map (eI .u8)⟩, some ⟨5, x42.1.map (eI .u8)⟩, some ⟨46, l3.map (eI .u64)⟩]) (Vm.Fn.pure (ref08_After_ok N vn va x72 h_20) rfl rfl) (fun _ => rfl) (fun h => absurd h (by decide)) (svG rfl rfl h17 (d_call rfl orc1_hit))) ?_
                      refine DrawG.pick (n := 29) (i := 22) (by decide +kernel) rfl (gC (v := (eB x73)) (h' := [some ⟨42, vh.map (eI .u8)⟩, some ⟨5, x36.1.map (eI .u8)⟩, some ⟨5, x42.1.map (eI .u8)⟩, some ⟨46, l3.map (eI .u64)⟩]) (Vm.Fn.pure (ref01_Same_ok N x69 x72 x73 h_22) rfl rfl) (fun _ => rfl) (fun h => absurd h (by decide)) (svG rfl rfl h17 (d_call rfl orc1_hit))) ?_
                      refine DrawG.pick (n := 28) (i := 23) (by decide +kernel) rfl (gS (v := (eB x73)) (sv (d_pickT rfl h17 rfl))) ?_
                      refine DrawG.pick (n := 27) (i := 24) (by decide +kernel) rfl (gS (v := (eB x73)) (sv (d_move rfl))) ?_
                      refine DrawG.pick (n := 26) (i := 25) (by decide +kernel) rfl (gS (v := (eI .u32 vn)) (svG rfl rfl h24 (d_move rfl))) ?_
                      refine DrawG.pick (n := 25) (i := 26) (by decide +kernel) rfl (gS (v := (.row none 1 (va.map (eI .u8)))) (svG rfl rfl h24 (d_move rfl))) ?_
                      refine DrawG.pick (n := 24) (i := 27) (by decide +kernel) rfl (gC (v := (.row none 1 (x78.map (eI .u8)))) (h' := [some ⟨42, vh.map (eI .u8)⟩, some ⟨5, x36.1.map (eI .u8)⟩, some ⟨5, x42.1.map (eI .u8)⟩, some ⟨46, l3.map (eI .u64)⟩]) (Vm.Fn.pure (script_Older_ok N vn va x78 h_25) rfl rfl) (fun _ => rfl) (fun h => absurd h (by decide)) (svG rfl rfl h24 (d_call rfl orc1_hit))) ?_
                      refine DrawG.pick (n := 23) (i := 28) (by decide +kernel) rfl (gS (v := (eI .u32 vn)) (svG rfl rfl h24 (d_move rfl))) ?_
                      refine DrawG.pick (n := 22) (i := 29) (by decide +kernel) rfl (gS (v := (.row none 1 (va.map (eI .u8)))) (svG rfl rfl h24 (d_move rfl))) ?_
                      refine DrawG.pick (n := 21) (i := 30) (by decide +kernel) rfl (gC (v := (.row none 1 (x81.map (eI .u8)))) (h' := [some ⟨42, vh.map (eI .u8)⟩, some ⟨5, x36.1.map (eI .u8)⟩, some ⟨5, x42.1.map (eI .u8)⟩, some ⟨46, l3.map (eI .u64)⟩]) (Vm.Fn.pure (ref08_Older_ok N vn va x81 h_27) rfl rfl) (fun _ => rfl) (fun h => absurd h (by decide)) (svG rfl rfl h24 (d_call rfl orc1_hit))) ?_
                      refine DrawG.pick (n := 20) (i := 31) (by decide +kernel) rfl (gC (v := (eB x82)) (h' := [some ⟨42, vh.map (eI .u8)⟩, some ⟨5, x36.1.map (eI .u8)⟩, some ⟨5, x42.1.map (eI .u8)⟩, some ⟨46, l3.map (eI .u64)⟩]) (Vm.Fn.pure (ref01_Same_ok N x78 x81 x82 h_29) rfl rfl) (fun _ => rfl) (fun h => absurd h (by decide)) (svG rfl rfl h24 (d_call rfl orc1_hit))) ?_
                      refine DrawG.pick (n := 19) (i := 32) (by decide +kernel) rfl (gS (v := (eB x82)) (sv (d_pickT rfl h24 rfl))) ?_
                      refine DrawG.pick (n := 18) (i := 33) (by decide +kernel) rfl (gS (v := (eB x82)) (sv (d_move rfl))) ?_
                      refine DrawG.pick (n := 17) (i := 34) (by decide +kernel) rfl (gS (v := (.agg (vh.map (eI .u8)))) (svG rfl rfl h31 (d_load rfl (ldA (E := (eI .u8)) (l := vh) ti42 rfl rfl (arr_len h_32))))) ?_
                      refine DrawG.pick (n := 16) (i := 35) (by decide +kernel) rfl (gS (v := (.row none 1 (va.map (eI .u8)))) (svG rfl rfl h31 (d_move rfl))) ?_
                      refine DrawG.pick (n := 15) (i := 36) (by decide +kernel) rfl (gC (v := (.row none 1 (x87.map (eI .u8)))) (h' := [some ⟨42, vh.map (eI .u8)⟩, some ⟨5, x36.1.map (eI .u8)⟩, some ⟨5, x42.1.map (eI .u8)⟩, some ⟨46, l3.map (eI .u64)⟩]) (Vm.Fn.pure (script_Hashed_ok N vh va x87 h_33) (by simp only [V.rn, V.rns, rns_eI, rns_eB]) rfl) (fun _ => rfl) (fun h => absurd h (by decide)) (svG rfl rfl h31 (d_call rfl orc1_hit))) ?_
                      refine DrawG.pick (n := 14) (i := 37) (by decide +kernel) rfl (gS (v := (.agg (vh.map (eI .u8)))) (svG rfl rfl h31 (d_load rfl (ldA (E := (eI .u8)) (l := vh) ti42 rfl rfl (arr_len h_32))))) ?_
                      refine DrawG.pick (n := 13) (i := 38) (by decide +kernel) rfl (gS (v := (.row none 1 (va.map (eI .u8)))) (svG rfl rfl h31 (d_move rfl))) ?_
                      refine DrawG.pick (n := 12) (i := 39) (by decide +kernel) rfl (gC (v := (.row none 1 (x90.map (eI .u8)))) (h' := [some ⟨42, vh.map (eI .u8)⟩, some ⟨5, x36.1.map (eI .u8)⟩, some ⟨5, x42.1.map (eI .u8)⟩, some ⟨46, l3.map (eI .u64)⟩]) (Vm.Fn.pure (ref08_Hashed_ok N vh va x90 h_35) (by simp only [V.rn, V.rns, rns_eI, rns_eB]) rfl) (fun _ => rfl) (fun h => absurd h (by decide)) (svG rfl rfl h31 (d_call rfl orc1_hit))) ?_
                      refine DrawG.pick (n := 11) (i := 40) (by decide +kernel) rfl (gC (v := (eB x91)) (h' := [some ⟨42, vh.map (eI .u8)⟩, some ⟨5, x36.1.map (eI .u8)⟩, some ⟨5, x42.1.map (eI .u8)⟩, some ⟨46, l3.map (eI .u64)⟩]) (Vm.Fn.pure (ref01_Same_ok N x87 x90 x91 h_37) rfl rfl) (fun _ => rfl) (fun h => absurd h (by decide)) (svG rfl rfl h31 (d_call rfl orc1_hit))) ?_
                      refine DrawG.pick (n := 10) (i := 41) (by decide +kernel) rfl (gS (v := (eB x91)) (sv (d_pickT rfl h31 rfl))) ?_
                      refine DrawG.pick (n := 9) (i := 42) (by decide +kernel) rfl (gS (v := (eB x91)) (sv (d_move rfl))) ?_
                      refine DrawG.pick (n := 8) (i := 43) (by decide +kernel) rfl (gS (svX rfl rfl h39)) ?_
                      refine DrawG.pick (n := 7) (i := 44) (by decide +kernel) rfl (gS (svX rfl rfl h39)) ?_
                      refine DrawG.pick (n := 6) (i := 45) (by decide +kernel) rfl (gS (svX rfl rfl h39)) ?_
                      refine DrawG.pick (n := 5) (i := 46) (by decide +kernel) rfl (gS (svX rfl rfl h39)) ?_
                      refine DrawG.pick (n := 4) (i := 47) (by decide +kernel) rfl (gS (svX rfl rfl h39)) ?_
                      refine DrawG.pick (n := 3) (i := 48) (by decide +kernel) rfl (gS (svX rfl rfl h39)) ?_
                      refine DrawG.pick (n := 2) (i := 49) (by decide +kernel) rfl (gS (svX rfl rfl h39)) ?_
                      refine DrawG.pick (n := 1) (i := 50) (by decide +kernel) rfl (gS (v := (eB false)) (sv (d_pickF rfl h39 rfl))) ?_
                      refine DrawG.pick (n := 0) (i := 51) (by decide +kernel) rfl (gS (v := (eB false)) (sv (d_assign rfl))) ?_
                      refine DrawG.nil (by decide +kernel) ?_
                      refine Ex.then_mk ?_
                      exact hG3 _ _ _ _ (Ghost.rn [] rfl rfl (FLe.same rfl FLe.nil) HLe.nil rfl) (J3 false hr)
                  · replace hr := iteF hr h31
                    refine AB.rd (memF [11, 20, 21, 22, 23, 24, 25, 26, 27, 28, 29]) (memF []) mixed ?_
                    refine DrawG.pick (n := 51) (i := 0) (by decide +kernel) rfl (gS (v := (eI .i64 x36.2)) (sv (d_move rfl))) ?_
                    refine DrawG.pick (n := 50) (i := 1) (by decide +kernel) rfl (gS (v := (eI .i64 x42.2)) (sv (d_move rfl))) ?_
                    refine DrawG.pick (n := 49) (i := 2) (by decide +kernel) rfl (gS (v := (eB (x36.2 == x42.2))) (sv (d_bin rfl rfl (bin_eql ..)))) ?_
                    refine DrawG.pick (n := 48) (i := 3) (by decide +kernel) rfl (gS (v := (eB (x36.2 == x42.2))) (sv (d_move rfl))) ?_
                    refine DrawG.pick (n := 47) (i := 4) (by decide +kernel) rfl (gS (v := (.sl 1 0 x36.1.length 1 false)) (svG rfl rfl h6 (d_move rfl))) ?_
                    refine DrawG.pick (n := 46) (i := 5) (by decide +kernel) rfl (gS (v := (.sl 2 0 x42.1.length 1 false)) (svG rfl rfl h6 (d_move rfl))) ?_
                    refine DrawG.pick (n := 45) (i := 6) (by decide +kernel) rfl (gC (v := (eB x57)) (h' := [some ⟨42, vh.map (eI .u8)⟩, some ⟨5, x36.1.map (eI .u8)⟩, some ⟨5, x42.1.map (eI .u8)⟩, some ⟨46, l3.map (eI .u64)⟩]) (Vm.Fn.lendR (ref01_Same_ok N x36.1 x42.1 x57 h_7) [] [1, 2] (by decide) rfl (by decide) Lend.nil (Brw.row (exp_slT rfl rfl (fun _ => rfl)) (Brw.row (exp_slT rfl rfl (fun _ => rfl)) Brw.nil)) rfl rfB.nil rfl (by simp only [lent, lendSet, lendSet_nil, rnH, Blk.rn, V.rns, V.rn, sg, List.map_cons, List.map_nil, Option.map_some, Option.map_none, List.drop_succ_cons, List.drop_zero, List.drop_nil, List.set_cons_zero, List.set_cons_succ, List.cons_append, List.nil_append, List.append_nil, rns_eI, rns_eB, rns_eS, rns_eL, rns_C_api_Op, List.getElem?_cons_zero, List.getElem?_cons_succ, List.getElem?_nil, List.length_cons, List.length_nil, Nat.reduceAdd, Nat.reduceSub, Nat.add_zero, Nat.zero_add, Nat.sub_self, Nat.sub_zero])) (fun _ => rfl) (fun h => absurd h (by decide)) (svG rfl rfl h6 (d_call rfl orc1_hit))) ?_
                    refine DrawG.pick (n := 44) (i := 7) (by decide +kernel) rfl (gS (v := (eB x57)) (sv (d_pickT rfl h6 rfl))) ?_
                    refine DrawG.pick (n := 43) (i := 8) (by decide +kernel) rfl (gS (v := (eB x57)) (sv (d_move rfl))) ?_
                    refine DrawG.pick (n := 42) (i := 9) (by decide +kernel) rfl (gS (v := (.agg (l3.map (eI .u64)))) (svG rfl rfl h9 (d_load rfl (ldA (E := (eI .u64)) (l := l3) ti46 rfl rfl (arr_len h_10))))) ?_
                    refine DrawG.pick (n := 41) (i := 10) (by decide +kernel) rfl (gC (v := (.row none 1 (x61.map (eI .u8)))) (h' := [some ⟨42, vh.map (eI .u8)⟩, some ⟨5, x36.1.map (eI .u8)⟩, some ⟨5, x42.1.map (eI .u8)⟩, some ⟨46, l3.map (eI .u64)⟩]) (Vm.Fn.pure (script_Single_ok N l3 x61 h_11) (by simp only [V.rn, V.rns, rns_eI, rns_eB]) rfl) (fun _ => rfl) (fun h => absurd h (by decide)) (svG rfl rfl h9 (d_call rfl orc1_hit))) ?_
                    refine DrawG.pick (n := 40) (i := 11) (by decide +kernel) rfl (gS (v := (.agg (l3.map (eI .u64)))) (svG rfl rfl h9 (d_load rfl (ldA (E := (eI .u64)) (l := l3) ti46 rfl rfl (arr_len h_10))))) ?_
                    refine DrawG.pick (n := 39) (i := 12) (by decide +kernel) rfl (gC (v := (.row none 1 (x63.map (eI .u8)))) (h' := [some ⟨42, vh.map (eI .u8)⟩, some ⟨5, x36.1.map (eI .u8)⟩, some ⟨5, x42.1.map (eI .u8)⟩, some ⟨46, l3.map (eI .u64)⟩]) (Vm.Fn.pure (ref08_Single_ok N l3 x63 h_13) (by simp only [V.rn, V.rns, rns_eI, rns_eB]) rfl) (fun _ => rfl) (fun h => absurd h (by decide)) (svG rfl rfl h9 (d_call rfl orc1_hit))) ?_
                    refine DrawG.pick (n := 38) (i := 13) (by decide +kernel) rfl (gC (v := (eB x64)) (h' := [some ⟨42, vh.map (eI .u8)⟩, some ⟨5, x36.1.map (eI .u8)⟩, some ⟨5, x42.1.map (eI .u8)⟩, some ⟨46, l3.map (eI .u64)⟩]) (Vm.Fn.pure (ref01_Same_ok N x61 x63 x64 h_15) rfl rfl) (fun _ => rfl) (fun h => absurd h (by decide)) (svG rfl rfl h9 (d_call rfl orc1_hit))) ?_
                    refine DrawG.pick (n := 37) (i := 14) (by decide +kernel) rfl (gS (v := (eB x64)) (sv (d_pickT rfl h9 rfl))) ?_
                    refine DrawG.pick (n := 36) (i := 15) (by decide +kernel) rfl (gS (v := (eB x64)) (sv (d_move rfl))) ?_
                    refine DrawG.pick (n := 35) (i := 16) (by decide +kernel) rfl (gS (v := (eI .u32 vn)) (svG rfl rfl h17 (d_move rfl))) ?_
                    refine DrawG.pick (n := 34) (i := 17) (by decide +kernel) rfl (gS (v := (.row none 1 (va.map (eI .u8)))) (svG rfl rfl h17 (d_move rfl))) ?_
                    refine DrawG.pick (n := 33) (i := 18) (by decide +kernel) rfl (gC (v := (.row none 1 (x69.map (eI .u8)))) (h' := [some ⟨42, vh.map (eI .u8)⟩, some ⟨5, x36.1.map (eI .u8)⟩, some ⟨5, x42.1.map (eI .u8)⟩, some ⟨46, l3.map (eI .u64)⟩]) (Vm.Fn.pure (script_After_ok N vn va x69 h_18) rfl rfl) (fun _ => rfl) (fun h => absurd h (by decide)) (svG rfl rfl h17 (d_call rfl orc1_hit))) ?_
                    refine DrawG.pick (n := 32) (i := 19) (by decide +kernel) rfl (gS (v := (eI .u32 vn)) (svG rfl rfl h17 (d_move rfl))) ?_
                    refine DrawG.pick (n := 31) (i := 20) (by decide +kernel) rfl (gS (v := (.row none 1 (va.map (eI .u8)))) (svG rfl rfl h17 (d_move rfl))) ?_
                    refine DrawG.pick (n := 30) (i := 21) (by decide +kernel) rfl (gC (v := (.row none 1 (x72.map (eI .u8)))) (h' := [some ⟨42, vh.map (eI .u8)⟩, some ⟨5, x36.1.map (eI .u8)⟩, some ⟨5, x42.1.map (eI .u8)⟩, some ⟨46, l3.map (eI .u64)⟩]) (Vm.Fn.pure (ref08_After_ok N vn va x72 h_20) rfl rfl) (fun _ => rfl) (fun h => absurd h (by decide)) (svG rfl rfl h17 (d_call rfl orc1_hit))) ?_
                    refine DrawG.pick (n := 29) (i := 22) (by decide +kernel) rfl (gC (v := (eB x73)) (h' := [some ⟨42, vh.map (eI .u8)⟩, some ⟨5, x36.1.map (eI .u8)⟩, some ⟨5, x42.1.map (eI .u8)⟩, some ⟨46, l3.map (eI .u64)⟩]) (Vm.Fn.pure (ref01_Same_ok N x69 x72 x73 h_22) rfl rfl) (fun _ => rfl) (fun h => absurd h (by decide)) (svG rfl rfl h17 (d_call rfl orc1_hit))) ?_
                    refine DrawG.pick (n := 28) (i := 23) (by decide +kernel) rfl (gS (v := (eB x73)) (sv (d_pickT rfl h17 rfl))) ?_
                    refine DrawG.pick (n := 27) (i := 24) (by decide +kernel) rfl (gS (v := (eB x73)) (sv (d_move rfl))) ?_
                    refine DrawG.pick (n := 26) (i := 25) (by decide +kernel) rfl (gS (v := (eI .u32 vn)) (svG rfl rfl h24 (d_move rfl))) ?_
                    refine DrawG.pick (n := 25) (i := 26) (by decide +kernel) rfl (gS (v := (.row none 1 (va.map (eI .u8)))) (svG rfl rfl h24 (d_move rfl))) ?_
                    refine DrawG.pick (n := 24) (i := 27) (by decide +kernel) rfl (gC (v := (.row none 1 (x78.map (eI .u8)))) (h' := [some ⟨42, vh.map (eI .u8)⟩, some ⟨5, x36.1.map (eI .u8)⟩, some ⟨5, x42.1.map (eI .u8)⟩, some ⟨46, l3.map (eI .u64)⟩]) (Vm.Fn.pure (script_Older_ok N vn va x78 h_25) rfl rfl) (fun _ => rfl) (fun h => absurd h (by decide)) (svG rfl rfl h24 (d_call rfl orc1_hit))) ?_
                    refine DrawG.pick (n := 23) (i := 28) (by decide +kernel) rfl (gS (v := (eI .u32 vn)) (svG rfl rfl h24 (d_move rfl))) ?_
                    refine DrawG.pick (n := 22) (i := 29) (by decide +kernel) rfl (gS (v := (.row none 1 (va.map (eI .u8)))) (svG rfl rfl h24 (d_move rfl))) ?_
                    refine DrawG.pick (n := 21) (i := 30) (by decide +kernel) rfl (gC (v := (.row none 1 (x81.map (eI .u8)))) (h' := [some ⟨42, vh.map (eI .u8)⟩, some ⟨5, x36.1.map (eI .u8)⟩, some ⟨5, x42.1.map (eI .u8)⟩, some ⟨46, l3.map (eI .u64)⟩]) (Vm.Fn.pure (ref08_Older_ok N vn va x81 h_27) rfl rfl) (fun _ => rfl) (fun h => absurd h (by decide)) (svG rfl rfl h24 (d_call rfl orc1_hit))) ?_
                    refine DrawG.pick (n := 20) (i := 31) (by decide +kernel) rfl (gC (v := (eB x82)) (h' := [some ⟨42, vh.map (eI .u8)⟩, some ⟨5, x36.1.map (eI .u8)⟩, some ⟨5, x42.1.map (eI .u8)⟩, some ⟨46, l3.map (eI .u64)⟩]) (Vm.Fn.pure (ref01_Same_ok N x78 x81 x82 h_29) rfl rfl) (fun _ => rfl) (fun h => absurd h (by decide)) (svG rfl rfl h24 (d_call rfl orc1_hit))) ?_
                    refine DrawG.pick (n := 19) (i := 32) (by decide +kernel) rfl (gS (v := (eB x82)) (sv (d_pickT rfl h24 rfl))) ?_
                    refine DrawG.pick (n := 18) (i := 33) (by decide +kernel) rfl (gS (v := (eB x82)) (sv (d_move rfl))) ?_
                    refine DrawG.pick (n := 17) (i := 34) (by decide +kernel) rfl (gS (svX rfl rfl h31)) ?_
                    refine DrawG.pick (n := 16) (i := 35) (by decide +kernel) rfl (gS (svX rfl rfl h31)) ?_
                    refine DrawG.pick (n := 15) (i := 36) (by decide +kernel) rfl (gS (svX rfl rfl h31)) ?_
                    refine DrawG.pick (n := 14) (i := 37) (by decide +kernel) rfl (gS (svX rfl rfl h31)) ?_
                    refine DrawG.pick (n := 13) (i := 38) (by decide +kernel) rfl (gS (svX rfl rfl h31)) ?_
                    refine DrawG.pick (n := 12) (i := 39) (by decide +kernel) rfl (gS (svX rfl rfl h31)) ?_
                    refine DrawG.pick (n := 11) (i := 40) (by decide +kernel) rfl (gS (svX rfl rfl h31)) ?_
                    refine DrawG.pick (n := 10) (i := 41) (by decide +kernel) rfl (gS (v := (eB false)) (sv (d_pickF rfl h31 rfl))) ?_
                    refine DrawG.pick (n := 9) (i := 42) (by decide +kernel) rfl (gS (v := (eB false)) (sv (d_move rfl))) ?_
                    refine DrawG.pick (n := 8) (i := 43) (by decide +kernel) rfl (gS (svX rfl rfl rfl)) ?_
                    refine DrawG.pick (n := 7) (i := 44) (by decide +kernel) rfl (gS (svX rfl rfl rfl)) ?_
                    refine DrawG.pick (n := 6) (i := 45) (by decide +kernel) rfl (gS (svX rfl rfl rfl)) ?_
                    refine DrawG.pick (n := 5) (i := 46) (by decide +kernel) rfl (gS (svX rfl rfl rfl)) ?_
                    refine DrawG.pick (n := 4) (i := 47) (by decide +kernel) rfl (gS (svX rfl rfl rfl)) ?_
                    refine DrawG.pick (n := 3) (i := 48) (by decide +kernel) rfl (gS (svX rfl rfl rfl)) ?_
                    refine DrawG.pick (n := 2) (i := 49) (by decide +kernel) rfl (gS (svX rfl rfl rfl)) ?_
                    refine DrawG.pick (n := 1) (i := 50) (by decide +kernel) rfl (gS (v := (eB false)) (sv (d_pickF rfl rfl rfl))) ?_
                    refine DrawG.pick (n := 0) (i := 51) (by decide +kernel) rfl (gS (v := (eB false)) (sv (d_assign rfl))) ?_
                    refine DrawG.nil (by decide +kernel) ?_
                    refine Ex.then_mk ?_
                    exact hG3 _ _ _ _ (Ghost.rn [] rfl rfl (FLe.same rfl FLe.nil) HLe.nil rfl) (J3 false hr)
                · replace hr := iteF hr h24
                  refine AB.rd (memF [11, 20, 21, 22, 23, 24, 25, 26, 27, 28, 29]) (memF []) mixed ?_
                  refine DrawG.pick (n := 51) (i := 0) (by decide +kernel) rfl (gS (v := (eI .i64 x36.2)) (sv (d_move rfl))) ?_
                  refine DrawG.pick (n := 50) (i := 1) (by decide +kernel) rfl (gS (v := (eI .i64 x42.2)) (sv (d_move rfl))) ?_
                  refine DrawG.pick (n := 49) (i := 2) (by decide +kernel) rfl (gS (v := (eB (x36.2 == x42.2))) (sv (d_bin rfl rfl (bin_eql ..)))) ?_
                  refine DrawG.pick (n := 48) (i := 3) (by decide +kernel) rfl (gS (v := (eB (x36.2 == x42.2))) (sv (d_move rfl))) ?_
                  refine DrawG.pick (n := 47) (i := 4) (by decide +kernel) rfl (gS (v := (.sl 1 0 x36.1.length 1 false)) (svG rfl rfl h6 (d_move rfl))) ?_
                  refine DrawG.pick (n := 46) (i := 5) (by decide +kernel) rfl (gS (v := (.sl 2 0 x42.1.length 1 false)) (svG rfl rfl h6 (d_move rfl))) ?_
                  refine DrawG.pick (n := 45) (i := 6) (by decide +kernel) rfl (gC (v := (eB x57)) (h' := [some ⟨42, vh.map (eI .u8)⟩, some ⟨5, x36.1.map (eI .u8)⟩, some ⟨5, x42.1.map (eI .u8)⟩, some ⟨46, l3.map (eI .u64)⟩]) (Vm.Fn.lendR (ref01_Same_ok N x36.1 x42.1 x57 h_7) [] [1, 2] (by decide) rfl (by decide) Lend.nil (Brw.row (exp_slT rfl rfl (fun _ => rfl)) (Brw.row (exp_slT rfl rfl (fun _ => rfl)) Brw.nil)) rfl rfB.nil rfl (by simp only [lent, lendSet, lendSet_nil, rnH, Blk.rn, V.rns, V.rn, sg, List.map_cons, List.map_nil, Option.map_some, Option.map_none, List.drop_succ_cons, List.drop_zero, List.drop_nil, List.set_cons_zero, List.set_cons_succ, List.cons_append, List.nil_append, List.append_nil, rns_eI, rns_eB, rns_eS, rns_eL, rns_C_api_Op, List.getElem?_cons_zero, List.getElem?_cons_succ, List.getElem?_nil, List.length_cons, List.length_nil, Nat.reduceAdd, Nat.reduceSub, Nat.add_zero, Nat.zero_add, Nat.sub_self, Nat.sub_zero])) (fun _ => rfl) (fun h => absurd h (by decide)) (svG rfl rfl h6 (d_call rfl orc1_hit))) ?_
                  refine DrawG.pick (n := 44) (i := 7) (by decide +kernel) rfl (gS (v := (eB x57)) (sv (d_pickT rfl h6 rfl))) ?_
                  refine DrawG.pick (n := 43) (i := 8) (by decide +kernel) rfl (gS (v := (eB x57)) (sv (d_move rfl))) ?_
                  refine DrawG.pick (n := 42) (i := 9) (by decide +kernel) rfl (gS (v := (.agg (l3.map (eI .u64)))) (svG rfl rfl h9 (d_load rfl (ldA (E := (eI .u64)) (l := l3) ti46 rfl rfl (arr_len h_10))))) ?_
                  refine DrawG.pick (n := 41) (i := 10) (by decide +kernel) rfl (gC (v := (.row none 1 (x61.map (eI .u8)))) (h' := [some ⟨42, vh.map (eI .u8)⟩, some ⟨5, x36.1.map (eI .u8)⟩, some ⟨5, x42.1.map (eI .u8)⟩, some ⟨46, l3.map (eI .u64)⟩]) (Vm.Fn.pure (script_Single_ok N l3 x61 h_11) (by simp only [V.rn, V.rns, rns_eI, rns_eB]) rfl) (fun _ => rfl) (fun h => absurd h (by decide)) (svG rfl rfl h9 (d_call rfl orc1_hit))) ?_
                  refine DrawG.pick (n := 40) (i := 11) (by decide +kernel) rfl (gS (v := (.agg (l3.map (eI .u64)))) (svG rfl rfl h9 (d_load rfl (ldA (E := (eI .u64)) (l := l3) ti46 rfl rfl (arr_len h_10))))) ?_
                  refine DrawG.pick (n := 39) (i := 12) (by decide +kernel) rfl (gC (v := (.row none 1 (x63.map (eI .u8)))) (h' := [some ⟨42, vh.map (eI .u8)⟩, some ⟨5, x36.1.map (eI .u8)⟩, some ⟨5, x42.1.map (eI .u8)⟩, some ⟨46, l3.map (eI .u64)⟩]) (Vm.Fn.pure (ref08_Single_ok N l3 x63 h_13) (by simp only [V.rn, V.rns, rns_eI, rns_eB]) rfl) (fun _ => rfl) (fun h => absurd h (by decide)) (svG rfl rfl h9 (d_call rfl orc1_hit))) ?_
                  refine DrawG.pick (n := 38) (i := 13) (by decide +kernel) rfl (gC (v := (eB x64)) (h' := [some ⟨42, vh.map (eI .u8)⟩, some ⟨5, x36.1.map (eI .u8)⟩, some ⟨5, x42.1.map (eI .u8)⟩, some ⟨46, l3.map (eI .u64)⟩]) (Vm.Fn.pure (ref01_Same_ok N x61 x63 x64 h_15) rfl rfl) (fun _ => rfl) (fun h => absurd h (by decide)) (svG rfl rfl h9 (d_call rfl orc1_hit))) ?_
                  refine DrawG.pick (n := 37) (i := 14) (by decide +kernel) rfl (gS (v := (eB x64)) (sv (d_pickT rfl h9 rfl))) ?_
                  refine DrawG.pick (n := 36) (i := 15) (by decide +kernel) rfl (gS (v := (eB x64)) (sv (d_move rfl))) ?_
                  refine DrawG.pick (n := 35) (i := 16) (by decide +kernel) rfl (gS (v := (eI .u32 vn)) (svG rfl rfl h17 (d_move rfl))) ?_
                  refine DrawG.pick (n := 34) (i := 17) (by decide +kernel) rfl (gS (v := (.row none 1 (va.map (eI .u8)))) (svG rfl rfl h17 (d_move rfl))) ?_
                  refine DrawG.pick (n := 33) (i := 18) (by decide +kernel) rfl (gC (v := (.row none 1 (x69.map (eI .u8)))) (h' := [some ⟨42, vh.map (eI .u8)⟩, some ⟨5, x36.1.map (eI .u8)⟩, some ⟨5, x42.1.map (eI .u8)⟩, some ⟨46, l3.map (eI .u64)⟩]) (Vm.Fn.pure (script_After_ok N vn va x69 h_18) rfl rfl) (fun _ => rfl) (fun h => absurd h (by decide)) (svG rfl rfl h17 (d_call rfl orc1_hit))) ?_
                  refine DrawG.pick (n := 32) (i := 19) (by decide +kernel) rfl (gS (v := (eI .u32 vn)) (svG rfl rfl h17 (d_move rfl))) ?_
                  refine DrawG.pick (n := 31) (i := 20) (by decide +kernel) rfl (gS (v := (.row none 1 (va.map (eI .u8)))) (svG rfl rfl h17 (d_move rfl))) ?_
                  refine DrawG.pick (n := 30) (i := 21) (by decide +kernel) rfl (gC (v := (.row none 1 (x72.map (eI .u8)))) (h' := [some ⟨42, vh.map (eI .u8)⟩, some ⟨5, x36.1.map (eI .u8)⟩, some ⟨5, x42.1.map (eI .u8)⟩, some ⟨46, l3.map (eI .u64)⟩]) (Vm.Fn.pure (ref08_After_ok N vn va x72 h_20) rfl rfl) (fun _ => rfl) (fun h => absurd h (by decide)) (svG rfl rfl h17 (d_call rfl orc1_hit))) ?_
                  refine DrawG.pick (n := 29) (i := 22) (by decide +kernel) rfl (gC (v := (eB x73)) (h' := [some ⟨42, vh.map (eI .u8)⟩, some ⟨5, x36.1.map (eI .u8)⟩, some ⟨5, x42.1.map (eI .u8)⟩, some ⟨46, l3.map (eI .u64)⟩]) (Vm.Fn.pure (ref01_Same_ok N x69 x72 x73 h_22) rfl rfl) (fun _ => rfl) (fun h => absurd h (by decide)) (svG rfl rfl h17 (d_call rfl orc1_hit))) ?_
                  refine DrawG.pick (n := 28) (i := 23) (by decide +kernel) rfl (gS (v := (eB x73)) (sv (d_pickT rfl h17 rfl))) ?_
                  refine DrawG.pick (n := 27) (i := 24) (by decide +kernel) rfl (gS (v := (eB x73)) (sv (d_move rfl))) ?_
                  refine DrawG.pick (n := 26) (i := 25) (by decide +kernel) rfl (gS (svX rfl rfl h24)) ?_
                  refine DrawG.pick (n := 25) (i := 26) (by decide +kernel) rfl (gS (svX rfl rfl h24)) ?_
                  refine DrawG.pick (n := 24) (i := 27) (by decide +kernel) rfl (gS (svX rfl rfl h24)) ?_
                  refine DrawG.pick (n := 23) (i := 28) (by decide +kernel) rfl (gS (svX rfl rfl h24)) ?_
                  refine DrawG.pick (n := 22) (i := 29) (by decide +kernel) rfl (gS (svX rfl rfl h24)) ?_
                  refine DrawG.pick (n := 21) (i := 30) (by decide +kernel) rfl (gS (svX rfl rfl h24)) ?_
                  refine DrawG.pick (n := 20) (i := 31) (by decide +kernel) rfl (gS (svX rfl rfl h24)) ?_
                  refine DrawG.pick (n := 19) (i := 32) (by decide +kernel) rfl (gS (v := (eB false)) (sv (d_pickF rfl h24 rfl))) ?_
                  refine DrawG.pick (n := 18) (i := 33) (by decide +kernel) rfl (gS (v := (eB false)) (sv (d_move rfl))) ?_
                  refine DrawG.pick (n := 17) (i := 34) (by decide +kernel) rfl (gS (svX rfl rfl rfl)) ?_
                  refine DrawG.pick (n := 16) (i := 35) (by decide +kernel) rfl (gS (svX rfl rfl rfl)) ?_
                  refine DrawG.pick (n := 15) (i := 36) (by decide +kernel) rfl (gS (svX rfl rfl rfl)) ?_
                  refine DrawG.pick (n := 14) (i := 37) (by decide +kernel) rfl (gS (svX rfl rfl rfl)) ?_
                  refine DrawG.pick (n := 13) (i := 38) (by decide +kernel) rfl (gS (svX rfl rfl rfl)) ?_
                  refine DrawG.pick (n := 12) (i := 39) (by decide +kernel) rfl (gS (svX rfl rfl rfl)) ?_
                  refine DrawG.pick (n := 11) (i := 40) (by decide +kernel) rfl (gS (svX rfl rfl rfl)) ?_
                  refine DrawG.pick (n := 10) (i := 41) (by decide +kernel) rfl (gS (v := (eB false)) (sv (d_pickF rfl rfl rfl))) ?_
                  refine DrawG.pick (n := 9) (i := 42) (by decide +kernel) rfl (gS (v := (eB false)) (sv (d_move rfl))) ?_
                  refine DrawG.pick (n := 8) (i := 43) (by decide +kernel) rfl (gS (svX rfl rfl rfl)) ?_
                  refine DrawG.pick (n := 7) (i := 44) (by decide +kernel) rfl (gS (svX rfl rfl rfl)) ?_
                  refine DrawG.pick (n := 6) (i := 45) (by decide +kernel) rfl (gS (svX rfl rfl rfl)) ?_
                  refine DrawG.pick (n := 5) (i := 46) (by decide +kernel) rfl (gS (svX rfl rfl rfl)) ?_
                  refine DrawG.pick (n := 4) (i := 47) (by decide +kernel) rfl (gS (svX rfl rfl rfl)) ?_
                  refine DrawG.pick (n := 3) (i := 48) (by decide +kernel) rfl (gS (svX rfl rfl rfl)) ?_
                  refine DrawG.pick (n := 2) (i := 49) (by decide +kernel) rfl (gS (svX rfl rfl rfl)) ?_
                  refine DrawG.pick (n := 1) (i := 50) (by decide +kernel) rfl (gS (v := (eB false)) (sv (d_pickF rfl rfl rfl))) ?_
                  refine DrawG.pick (n := 0) (i := 51) (by decide +kernel) rfl (gS (v := (eB false)) (sv (d_assign rfl))) ?_
                  refine DrawG.nil (by decide +kernel) ?_
                  refine Ex.then_mk ?_
                  exact hG3 _ _ _ _ (Ghost.rn [] rfl rfl (FLe.same rfl FLe.nil) HLe.nil rfl) (J3 false hr)
              · replace hr := iteF hr h17
                refine AB.rd (memF [11, 20, 21, 22, 23, 24, 25, 26, 27, 28, 29]) (memF []) mixed ?_
                refine DrawG.pick (n := 51) (i := 0) (by decide +kernel) rfl (gS (v := (eI .i64 x36.2)) (sv (d_move rfl))) ?_
                refine DrawG.pick (n := 50) (i := 1) (by decide +kernel) rfl (gS (v := (eI .i64 x42.2)) (sv (d_move rfl))) ?_
                refine DrawG.pick (n := 49) (i := 2) (by decide +kernel) rfl (gS (v := (eB (x36.2 == x42.2))) (sv (d_bin rfl rfl (bin_eql ..)))) ?_
                refine DrawG.pick (n := 48) (i := 3) (by decide +kernel) rfl (gS (v := (eB (x36.2 == x42.2))) (sv (d_move rfl))) ?_
                refine DrawG.pick (n := 47) (i := 4) (by decide +kernel) rfl (gS (v := (.sl 1 0 x36.1.length 1 false)) (svG rfl rfl h6 (d_move rfl))) ?_
                refine DrawG.pick (n := 46) (i := 5) (by decide +kernel) rfl (gS (v := (.sl 2 0 x42.1.length 1 false)) (svG rfl rfl h6 (d_move rfl))) ?_
                refine DrawG.pick (n := 45) (i := 6) (by decide +kernel) rfl (gC (v := (eB x57)) (h' := [some ⟨42, vh.map (eI .u8)⟩, some ⟨5, x36.1.map (eI .u8)⟩, some ⟨5, x42.1.map (eI .u8)⟩, some ⟨46, l3.map (eI .u64)⟩]) (Vm.Fn.lendR (ref01_Same_ok N x36.1 x42.1 x57 h_7) [] [1, 2] (by decide) rfl (by decide) Lend.nil (Brw.row (exp_slT rfl rfl (fun _ => rfl)) (Brw.row (exp_slT rfl rfl (fun _ => rfl)) Brw.nil)) rfl rfB.nil rfl (by simp only [lent, lendSet, lendSet_nil, rnH, Blk.rn, V.rns, V.rn, sg, List.map_cons, List.map_nil, Option.map_some, Option.map_none, List.drop_succ_cons, List.drop_zero, List.drop_nil, List.set_cons_zero, List.set_cons_succ, List.cons_append, List.nil_append, List.append_nil, rns_eI, rns_eB, rns_eS, rns_eL, rns_C_api_Op, List.getElem?_cons_zero, List.getElem?_cons_succ, List.getElem?_nil, List.length_cons, List.length_nil, Nat.reduceAdd, Nat.reduceSub, Nat.add_zero, Nat.zero_add, Nat.sub_self, Nat.sub_zero])) (fun _ => rfl) (fun h => absurd h (by decide)) (svG rfl rfl h6 (d_call rfl orc1_hit))) ?_
                refine DrawG.pick (n := 44) (i := 7) (by decide +kernel) rfl (gS (v := (eB x57)) (sv (d_pickT rfl h6 rfl))) ?_
                refine DrawG.pick (n := 43) (i := 8) (by decide +kernel) rfl (gS (v := (eB x57)) (sv (d_move rfl))) ?_
                refine DrawG.pick (n := 42) (i := 9) (by decide +kernel) rfl (gS (v := (.agg (l3.map (eI .u64)))) (svG rfl rfl h9 (d_load rfl (ldA (E := (eI .u64)) (l := l3) ti46 rfl rfl (arr_len h_10))))) ?_
                refine DrawG.pick (n := 41) (i := 10) (by decide +kernel) rfl (gC (v := (.row none 1 (x61.map (eI .u8)))) (h' := [some ⟨42, vh.map (eI .u8)⟩, some ⟨5, x36.1.map (eI .u8)⟩, some ⟨5, x42.1.map (eI .u8)⟩, some ⟨46, l3.map (eI .u64)⟩]) (Vm.Fn.pure (script_Single_ok N l3 x61 h_11) (by simp only [V.rn, V.rns, rns_eI, rns_eB]) rfl) (fun _ => rfl) (fun h => absurd h (by decide)) (svG rfl rfl h9 (d_call rfl orc1_hit))) ?_
                refine DrawG.pick (n := 40) (i := 11) (by decide +kernel) rfl (gS (v := (.agg (l3.map (eI .u64)))) (svG rfl rfl h9 (d_load rfl (ldA (E := (eI .u64)) (l := l3) ti46 rfl rfl (arr_len h_10))))) ?_
                refine DrawG.pick (n := 39) (i := 12) (by decide +kernel) rfl (gC (v := (.row none 1 (x63.map (eI .u8)))) (h' := [some ⟨42, vh.map (eI .u8)⟩, some ⟨5, x36.1.map (eI .u8)⟩, some ⟨5, x42.1.map (eI .u8)⟩, some ⟨46, l3.map (eI .u64)⟩]) (Vm.Fn.pure (ref08_Single_ok N l3 x63 h_13) (by simp only [V.rn, V.rns, rns_eI, rns_eB]) rfl) (fun _ => rfl) (fun h => absurd h (by decide)) (svG rfl rfl h9 (d_call rfl orc1_hit))) ?_
                refine DrawG.pick (n := 38) (i := 13) (by decide +kernel) rfl (gC (v := (eB x64)) (h' := [some ⟨42, vh.map (eI .u8)⟩, some ⟨5, x36.1.map (eI .u8)⟩, some ⟨5, x42.1.map (eI .u8)⟩, some ⟨46, l3.map (eI .u64)⟩]) (Vm.Fn.pure (ref01_Same_ok N x61 x63 x64 h_15) rfl rfl) (fun _ => rfl) (fun h => absurd h (by decide)) (svG rfl rfl h9 (d_call rfl orc1_hit))) ?_
                refine DrawG.pick (n := 37) (i := 14) (by decide +kernel) rfl (gS (v := (eB x64)) (sv (d_pickT rfl h9 rfl))) ?_
                refine DrawG.pick (n := 36) (i := 15) (by decide +kernel) rfl (gS (v := (eB x64)) (sv (d_move rfl))) ?_
                refine DrawG.pick (n := 35) (i := 16) (by decide +kernel) rfl (gS (svX rfl rfl h17)) ?_
                refine DrawG.pick (n := 34) (i := 17) (by decide +kernel) rfl (gS (svX rfl rfl h17)) ?_
                refine DrawG.pick (n := 33) (i := 18) (by decide +kernel) rfl (gS (svX rfl rfl h17)) ?_
                refine DrawG.pick (n := 32) (i := 19) (by decide +kernel) rfl (gS (svX rfl rfl h17)) ?_
                refine DrawG.pick (n := 31) (i := 20) (by decide +kernel) rfl (gS (svX rfl rfl h17)) ?_
                refine DrawG.pick (n := 30) (i := 21) (by decide +kernel) rfl (gS (svX rfl rfl h17)) ?_
                refine DrawG.pick (n := 29) (i := 22) (by decide +kernel) rfl (gS (svX rfl rfl h17)) ?_
                refine DrawG.pick (n := 28) (i := 23) (by decide +kernel) rfl (gS (v := (eB false)) (sv (d_pickF rfl h17 rfl))) ?_
                refine DrawG.pick (n := 27) (i := 24) (by decide +kernel) rfl (gS (v := (eB false)) (sv (d_move rfl))) ?_
                refine DrawG.pick (n := 26) (i := 25) (by decide +kernel) rfl (gS (svX rfl rfl rfl)) ?_
                refine DrawG.pick (n := 25) (i := 26) (by decide +kernel) rfl (gS (svX rfl rfl rfl)) ?_
                refine DrawG.pick (n := 24) (i := 27) (by decide +kernel) rfl (gS (svX rfl rfl rfl)) ?_
                refine DrawG.pick (n := 23) (i := 28) (by decide +kernel) rfl (gS (svX rfl rfl rfl)) ?_
                refine DrawG.pick (n := 22) (i := 29) (by decide +kernel) rfl (gS (svX rfl rfl rfl)) ?_
                refine DrawG.pick (n := 21) (i := 30) (by decide +kernel) rfl (gS (svX rfl rfl rfl)) ?_
                refine DrawG.pick (n := 20) (i := 31) (by decide +kernel) rfl (gS (svX rfl rfl rfl)) ?_
                refine DrawG.pick (n := 19) (i := 32) (by decide +kernel) rfl (gS (v := (eB false)) (sv (d_pickF rfl rfl rfl))) ?_
                refine DrawG.pick (n := 18) (i := 33) (by decide +kernel) rfl (gS (v := (eB false)) (sv (d_move rfl))) ?_
                refine DrawG.pick (n := 17) (i := 34) (by decide +kernel) rfl (gS (svX rfl rfl rfl)) ?_
                refine DrawG.pick (n := 16) (i := 35) (by decide +kernel) rfl (gS (svX rfl rfl rfl)) ?_
                refine DrawG.pick (n := 15) (i := 36) (by decide +kernel) rfl (gS (svX rfl rfl rfl)) ?_
                refine DrawG.pick (n := 14) (i := 37) (by decide +kernel) rfl (gS (svX rfl rfl rfl)) ?_
                refine DrawG.pick (n := 13) (i := 38) (by decide +kernel) rfl (gS (svX rfl rfl rfl)) ?_
                refine DrawG.pick (n := 12) (i := 39) (by decide +kernel) rfl (gS (svX rfl rfl rfl)) ?_
                refine DrawG.pick (n := 11) (i := 40) (by decide +kernel) rfl (gS (svX rfl rfl rfl)) ?_
                refine DrawG.pick (n := 10) (i := 41) (by decide +kernel) rfl (gS (v := (eB false)) (sv (d_pickF rfl rfl rfl))) ?_
                refine DrawG.pick (n := 9) (i := 42) (by decide +kernel) rfl (gS (v := (eB false)) (sv (d_move rfl))) ?_
                refine DrawG.pick (n := 8) (i := 43) (by decide +kernel) rfl (gS (svX rfl rfl rfl)) ?_
                refine DrawG.pick (n := 7) (i := 44) (by decide +kernel) rfl (gS (svX rfl rfl rfl)) ?_
                refine DrawG.pick (n := 6) (i := 45) (by decide +kernel) rfl (gS (svX rfl rfl rfl)) ?_
                refine DrawG.pick (n := 5) (i := 46) (by decide +kernel) rfl (gS (svX rfl rfl rfl)) ?_
                refine DrawG.pick (n := 4) (i := 47) (by decide +kernel) rfl (gS (svX rfl rfl rfl)) ?_
                refine DrawG.pick (n := 3) (i := 48) (by decide +kernel) rfl (gS (svX rfl rfl rfl)) ?_
                refine DrawG.pick (n := 2) (i := 49) (by decide +kernel) rfl (gS (svX rfl rfl rfl)) ?_
                refine DrawG.pick (n := 1) (i := 50) (by decide +kernel) rfl (gS (v := (eB false)) (sv (d_pickF rfl rfl rfl))) ?_
                refine DrawG.pick (n := 0) (i := 51) (by decide +kernel) rfl (gS (v := (eB false)) (sv (d_assign rfl))) ?_
                refine DrawG.nil (by decide +kernel) ?_
                refine Ex.then_mk ?_
                exact hG3 _ _ _ _ (Ghost.rn [] rfl rfl (FLe.same rfl FLe.nil) HLe.nil rfl) (J3 false hr)
            · replace hr := iteF hr h9
              refine AB.rd (memF [11, 20, 21, 22, 23, 24, 25, 26, 27, 28, 29]) (memF []) mixed ?_
              refine DrawG.pick (n := 51) (i := 0) (by decide +kernel) rfl (gS (v := (eI .i64 x36.2)) (sv (d_move rfl))) ?_
              refine DrawG.pick (n := 50) (i := 1) (by decide +kernel) rfl (gS (v := (eI .i64 x42.2)) (sv (d_move rfl))) ?_
              refine DrawG.pick (n := 49) (i := 2) (by decide +kernel) rfl (gS (v := (eB (x36.2 == x42.2))) (sv (d_bin rfl rfl (bin_eql ..)))) ?_
              refine DrawG.pick (n := 48) (i := 3) (by decide +kernel) rfl (gS (v := (eB (x36.2 == x42.2))) (sv (d_move rfl))) ?_
              refine DrawG.pick (n := 47) (i := 4) (by decide +kernel) rfl (gS (v := (.sl 1 0 x36.1.length 1 false)) (svG rfl rfl h6 (d_move rfl))) ?_
              refine DrawG.pick (n := 46) (i := 5) (by decide +kernel) rfl (gS (v := (.sl 2 0 x42.1.length 1 false)) (svG rfl rfl h6 (d_move rfl))) ?_
              refine DrawG.pick (n := 45) (i := 6) (by decide +kernel) rfl (gC (v := (eB x57)) (h' := [some ⟨42, vh.map (eI .u8)⟩, some ⟨5, x36.1.map (eI .u8)⟩, some ⟨5, x42.1.map (eI .u8)⟩, some ⟨46, l3.map (eI .u64)⟩]) (Vm.Fn.lendR (ref01_Same_ok N x36.1 x42.1 x57 h_7) [] [1, 2] (by decide) rfl (by decide) Lend.nil (Brw.row (exp_slT rfl rfl (fun _ => rfl)) (Brw.row (exp_slT rfl rfl (fun _ => rfl)) Brw.nil)) rfl rfB.nil rfl (by simp only [lent, lendSet, lendSet_nil, rnH, Blk.rn, V.rns, V.rn, sg, List.map_cons, List.map_nil, Option.map_some, Option.map_none, List.drop_succ_cons, List.drop_zero, List.drop_nil, List.set_cons_zero, List.set_cons_succ, List.cons_append, List.nil_append, List.append_nil, rns_eI, rns_eB, rns_eS, rns_eL, rns_C_api_Op, List.getElem?_cons_zero, List.getElem?_cons_succ, List.getElem?_nil, List.length_cons, List.length_nil, Nat.reduceAdd, Nat.reduceSub, Nat.add_zero, Nat.zero_add, Nat.sub_self, Nat.sub_zero])) (fun _ => rfl) (fun h => absurd h (by decide)) (svG rfl rfl h6 (d_call rfl orc1_hit))) ?_
              refine DrawG.pick (n := 44) (i := 7) (by decide +kernel) rfl (gS (v := (eB x57)) (sv (d_pickT rfl h6 rfl))) ?_
              refine DrawG.pick (n := 43) (i := 8) (by decide +kernel) rfl (gS (v := (eB x57)) (sv (d_move rfl))) ?_
              refine DrawG.pick (n := 42) (i := 9) (by decide +kernel) rfl (gS (svX rfl rfl h9)) ?_
              refine DrawG.pick (n := 41) (i := 10) (by decide +kernel) rfl (gS (svX rfl rfl h9)) ?_
              refine DrawG.pick (n := 40) (i := 11) (by decide +kernel) rfl (gS (svX rfl rfl h9)) ?_
              refine DrawG.pick (n := 39) (i := 12) (by decide +kernel) rfl (gS (svX rfl rfl h9)) ?_
              refine DrawG.pick (n := 38) (i := 13) (by decide +kernel) rfl (gS (svX rfl rfl h9)) ?_
              refine DrawG.pick (n := 37) (i := 14) (by decide +kernel) rfl (gS (v := (eB false)) (sv (d_pickF rfl h9 rfl))) ?_
              refine DrawG.pick (n := 36) (i := 15) (by decide +kernel) rfl (gS (v := (eB false)) (sv (d_move rfl))) ?_
              refine DrawG.pick (n := 35) (i := 16) (by decide +kernel) rfl (gS (svX rfl rfl rfl)) ?_
              refine DrawG.pick (n := 34) (i := 17) (by decide +kernel) rfl (gS (svX rfl rfl rfl)) ?_
              refine DrawG.pick (n := 33) (i := 18) (by decide +kernel) rfl (gS (svX rfl rfl rfl)) ?_
              refine DrawG.pick (n := 32) (i := 19) (by decide +kernel) rfl (gS (svX rfl rfl rfl)) ?_
              refine DrawG.pick (n := 31) (i := 20) (by decide +kernel) rfl (gS (svX rfl rfl rfl)) ?_
              refine DrawG.pick (n := 30) (i := 21) (by decide +kernel) rfl (gS (svX rfl rfl rfl)) ?_
              refine DrawG.pick (n := 29) (i := 22) (by decide +kernel) rfl (gS (svX rfl rfl rfl)) ?_
              refine DrawG.pick (n := 28) (i := 23) (by decide +kernel) rfl (gS (v := (eB false)) (sv (d_pickF rfl rfl rfl))) ?_
              refine DrawG.pick (n := 27) (i := 24) (by decide +kernel) rfl (gS (v := (eB false)) (sv (d_move rfl))) ?_
              refine DrawG.pick (n := 26) (i := 25) (by decide +kernel) rfl (gS (svX rfl rfl rfl)) ?_
              refine DrawG.pick (n := 25) (i := 26) (by decide +kernel) rfl (gS (svX rfl rfl rfl)) ?_
              refine DrawG.pick (n := 24) (i := 27) (by decide +kernel) rfl (gS (svX rfl rfl rfl)) ?_
              refine DrawG.pick (n := 23) (i := 28) (by decide +kernel) rfl (gS (svX rfl rfl rfl)) ?_
              refine DrawG.pick (n := 22) (i := 29) (by decide +kernel) rfl (gS (svX rfl rfl rfl)) ?_
              refine DrawG.pick (n := 21) (i := 30) (by decide +kernel) rfl (gS (svX rfl rfl rfl)) ?_
              refine DrawG.pick (n := 20) (i := 31) (by decide +kernel) rfl (gS (svX rfl rfl rfl)) ?_
              refine DrawG.pick (n := 19) (i := 32) (by decide +kernel) rfl (gS (v := (eB false)) (sv (d_pickF rfl rfl rfl))) ?_
              refine DrawG.pick (n := 18) (i := 33) (by decide +kernel) rfl (gS (v := (eB false)) (sv (d_move rfl))) ?_
              refine DrawG.pick (n := 17) (i := 34) (by decide +kernel) rfl (gS (svX rfl rfl rfl)) ?_
              refine DrawG.pick (n := 16) (i := 35) (by decide +kernel) rfl (gS (svX rfl rfl rfl)) ?_
              refine DrawG.pick (n := 15) (i := 36) (by decide +kernel) rfl (gS (svX rfl rfl rfl)) ?_
              refine DrawG.pick (n := 14) (i := 37) (by decide +kernel) rfl (gS (svX rfl rfl rfl)) ?_
              refine DrawG.pick (n := 13) (i := 38) (by decide +kernel) rfl (gS (svX rfl rfl rfl)) ?_
              refine DrawG.pick (n := 12) (i := 39) (by decide +kernel) rfl (gS (svX rfl rfl rfl)) ?_
              refine DrawG.pick (n := 11) (i := 40) (by decide +kernel) rfl (gS (svX rfl rfl rfl)) ?_
              refine DrawG.pick (n := 10) (i := 41) (by decide +kernel) rfl (gS (v := (eB false)) (sv (d_pickF rfl rfl rfl))) ?_
              refine DrawG.pick (n := 9) (i := 42) (by decide +kernel) rfl (gS (v := (eB false)) (sv (d_move rfl))) ?_
              refine DrawG.pick (n := 8) (i := 43) (by decide +kernel) rfl (gS (svX rfl rfl rfl)) ?_
              refine DrawG.pick (n := 7) (i := 44) (by decide +kernel) rfl (gS (svX rfl rfl rfl)) ?_
              refine DrawG.pick (n := 6) (i := 45) (by decide +kernel) rfl (gS (svX rfl rfl rfl)) ?_
              refine DrawG.pick (n := 5) (i := 46) (by decide +kernel) rfl (gS (svX rfl rfl rfl)) ?_
              refine DrawG.pick (n := 4) (i := 47) (by decide +kernel) rfl (gS (svX rfl rfl rfl)) ?_
              refine DrawG.pick (n := 3) (i := 48) (by decide +kernel) rfl (gS (svX rfl rfl rfl)) ?_
              refine DrawG.pick (n := 2) (i := 49) (by decide +kernel) rfl (gS (svX rfl rfl rfl)) ?_
              refine DrawG.pick (n := 1) (i := 50) (by decide +kernel) rfl (gS (v := (eB false)) (sv (d_pickF rfl rfl rfl))) ?_
              refine DrawG.pick (n := 0) (i := 51) (by decide +kernel) rfl (gS (v := (eB false)) (sv (d_assign rfl))) ?_
              refine DrawG.nil (by decide +kernel) ?_
              refine Ex.then_mk ?_
              exact hG3 _ _ _ _ (Ghost.rn [] rfl rfl (FLe.same rfl FLe.nil) HLe.nil rfl) (J3 false hr)
          · replace hr := iteF hr h6
            refine AB.rd (memF [11, 20, 21, 22, 23, 24, 25, 26, 27, 28, 29]) (memF []) mixed ?_
            refine DrawG.pick (n := 51) (i := 0) (by decide +kernel) rfl (gS (v := (eI .i64 x36.2)) (sv (d_move rfl))) ?_
            refine DrawG.pick (n := 50) (i := 1) (by decide +kernel) rfl (gS (v := (eI .i64 x42.2)) (sv (d_move rfl))) ?_
            refine DrawG.pick (n := 49) (i := 2) (by decide +kernel) rfl (gS (v := (eB (x36.2 == x42.2))) (sv (d_bin rfl rfl (bin_eql ..)))) ?_
            refine DrawG.pick (n := 48) (i := 3) (by decide +kernel) rfl (gS (v := (eB (x36.2 == x42.2))) (sv (d_move rfl))) ?_
            refine DrawG.pick (n := 47) (i := 4) (by decide +kernel) rfl (gS (svX rfl rfl h6)) ?_
            refine DrawG.pick (n := 46) (i := 5) (by decide +kernel) rfl (gS (svX rfl rfl h6)) ?_
            refine DrawG.pick (n := 45) (i := 6) (by decide +kernel) rfl (gS (svX rfl rfl h6)) ?_
            refine DrawG.pick (n := 44) (i := 7) (by decide +kernel) rfl (gS (v := (eB false)) (sv (d_pickF rfl h6 rfl))) ?_
            refine DrawG.pick (n := 43) (i := 8) (by decide +kernel) rfl (gS (v := (eB false)) (sv (d_move rfl))) ?_
            refine DrawG.pick (n := 42) (i := 9) (by decide +kernel) rfl (gS (svX rfl rfl rfl)) ?_
            refine DrawG.pick (n := 41) (i := 10) (by decide +kernel) rfl (gS (svX rfl rfl rfl)) ?_
            refine DrawG.pick (n := 40) (i := 11) (by decide +kernel) rfl (gS (svX rfl rfl rfl)) ?_
            refine DrawG.pick (n := 39) (i := 12) (by decide +kernel) rfl (gS (svX rfl rfl rfl)) ?_
            refine DrawG.pick (n := 38) (i := 13) (by decide +kernel) rfl (gS (svX rfl rfl rfl)) ?_
            refine DrawG.pick (n := 37) (i := 14) (by decide +kernel) rfl (gS (v := (eB false)) (sv (d_pickF rfl rfl rfl))) ?_
            refine DrawG.pick (n := 36) (i := 15) (by decide +kernel) rfl (gS (v := (eB false)) (sv (d_move rfl))) ?_
            refine DrawG.pick (n := 35) (i := 16) (by decide +kernel) rfl (gS (svX rfl rfl rfl)) ?_
            refine DrawG.pick (n := 34) (i := 17) (by decide +kernel) rfl (gS (svX rfl rfl rfl)) ?_
            refine DrawG.pick (n := 33) (i := 18) (by decide +kernel) rfl (gS (svX rfl rfl rfl)) ?_
            refine DrawG.pick (n := 32) (i := 19) (by decide +kernel) rfl (gS (svX rfl rfl rfl)) ?_
            refine DrawG.pick (n := 31) (i := 20) (by decide +kernel) rfl (gS (svX rfl rfl rfl)) ?_
            refine DrawG.pick (n := 30) (i := 21) (by decide +kernel) rfl (gS (svX rfl rfl rfl)) ?_
            refine DrawG.pick (n := 29) (i := 22) (by decide +kernel) rfl (gS (svX rfl rfl rfl)) ?_
            refine DrawG.pick (n := 28) (i := 23) (by decide +kernel) rfl (gS (v := (eB false)) (sv (d_pickF rfl rfl rfl))) ?_
            refine DrawG.pick (n := 27) (i := 24) (by decide +kernel) rfl (gS (v := (eB false)) (sv (d_move rfl))) ?_
            refine DrawG.pick (n := 26) (i := 25) (by decide +kernel) rfl (gS (svX rfl rfl rfl)) ?_
            refine DrawG.pick (n := 25) (i := 26) (by decide +kernel) rfl (gS (svX rfl rfl rfl)) ?_
            refine DrawG.pick (n := 24) (i := 27) (by decide +kernel) rfl (gS (svX rfl rfl rfl)) ?_
            refine DrawG.pick (n := 23) (i := 28) (by decide +kernel) rfl (gS (svX rfl rfl rfl)) ?_
            refine DrawG.pick (n := 22) (i := 29) (by decide +kernel) rfl (gS (svX rfl rfl rfl)) ?_
            refine DrawG.pick (n := 21) (i := 30) (by decide +kernel) rfl (gS (svX rfl rfl rfl)) ?_
            refine DrawG.pick (n := 20) (i := 31) (by decide +kernel) rfl (gS (svX rfl rfl rfl)) ?_
            refine DrawG.pick (n := 19) (i := 32) (by decide +kernel) rfl (gS (v := (eB false)) (sv (d_pickF rfl rfl rfl))) ?_
            refine DrawG.pick (n := 18) (i := 33) (by decide +kernel) rfl (gS (v := (eB false)) (sv (d_move rfl))) ?_
            refine DrawG.pick (n := 17) (i := 34) (by decide +kernel) rfl (gS (svX rfl rfl rfl)) ?_
            refine DrawG.pick (n := 16) (i := 35) (by decide +kernel) rfl (gS (svX rfl rfl rfl)) ?_
            refine DrawG.pick (n := 15) (i := 36) (by decide +kernel) rfl (gS (svX rfl rfl rfl)) ?_
            refine DrawG.pick (n := 14) (i := 37) (by decide +kernel) rfl (gS (svX rfl rfl rfl)) ?_
            refine DrawG.pick (n := 13) (i := 38) (by decide +kernel) rfl (gS (svX rfl rfl rfl)) ?_
            refine DrawG.pick (n := 12) (i := 39) (by decide +kernel) rfl (gS (svX rfl rfl rfl)) ?_
            refine DrawG.pick (n := 11) (i := 40) (by decide +kernel) rfl (gS (svX rfl rfl rfl)) ?_
            refine DrawG.pick (n := 10) (i := 41) (by decide +kernel) rfl (gS (v := (eB false)) (sv (d_pickF rfl rfl rfl))) ?_
            refine DrawG.pick (n := 9) (i := 42) (by decide +kernel) rfl (gS (v := (eB false)) (sv (d_move rfl))) ?_
            refine DrawG.pick (n := 8) (i := 43) (by decide +kernel) rfl (gS (svX rfl rfl rfl)) ?_
            refine DrawG.pick (n := 7) (i := 44) (by decide +kernel) rfl (gS (svX rfl rfl rfl)) ?_
            refine DrawG.pick (n := 6) (i := 45) (by decide +kernel) rfl (gS (svX rfl rfl rfl)) ?_
            refine DrawG.pick (n := 5) (i := 46) (by decide +kernel) rfl (gS (svX rfl rfl rfl)) ?_
            refine DrawG.pick (n := 4) (i := 47) (by decide +kernel) rfl (gS (svX rfl rfl rfl)) ?_
            refine DrawG.pick (n := 3) (i := 48) (by decide +kernel) rfl (gS (svX rfl rfl rfl)) ?_
            refine DrawG.pick (n := 2) (i := 49) (by decide +kernel) rfl (gS (svX rfl rfl rfl)) ?_
            refine DrawG.pick (n := 1) (i := 50) (by decide +kernel) rfl (gS (v := (eB false)) (sv (d_pickF rfl rfl rfl))) ?_
            refine DrawG.pick (n := 0) (i := 51) (by decide +kernel) rfl (gS (v := (eB false)) (sv (d_assign rfl))) ?_
            refine DrawG.nil (by decide +kernel) ?_
            refine Ex.then_mk ?_
            exact hG3 _ _ _ _ (Ghost.rn [] rfl rfl (FLe.same rfl FLe.nil) HLe.nil rfl) (J3 false hr)
        refine AB.seq ?_
        refine AB.rw ?_
        refine wS (v := (.row none 4 (keys.map (eA (eI .u64))))) (sv (d_move rfl)) ?_
        refine wS (v := (eI .i64 (keys.length : Int))) (sv (d_len rfl (lenR ti40))) ?_
        refine wS (v := (eB (decide (0 < (keys.length : Int))))) (sv (d_bin rfl rfl (bin_gtr ..))) ?_
        refine OpsW.nil ?_
        refine Ex.then_mk ?_
        refine AB.cnd rfl (fun h46 => ?_) (fun h46 => ?_)
        · replace hr := iteT hr h46
          replace hr := bnd hr; obtain ⟨x49, h_47, hr⟩ := hr
          replace hr := bnd hr; obtain ⟨q_2, h_48, hr⟩ := hr
          refine AB.rw ?_
          refine wS (v := (.row none 4 (keys.map (eA (eI .u64))))) (sv (d_move rfl)) ?_
          refine wS (sv (d_ia rfl rfl (iaR ti40 ti46 h_47))) ?_
          refine wS (v := (.agg (x49.map (eI .u64)))) (sv (d_load rfl (ldRA (E := (eI .u64)) ti46 rfl h_47 (arr_len h_48)))) ?_
          refine wN (h' := [some ⟨42, vh.map (eI .u8)⟩, some ⟨5, x36.1.map (eI .u8)⟩, some ⟨5, x42.1.map (eI .u8)⟩, some ⟨46, x49.map (eI .u64)⟩]) (sv (d_store rfl rfl (stA (E := (eI .u64)) (l := List.replicate 4 0) ti46 rfl rfl (fun _ => rfl) rfl (arr_len h_48) rfl))) ?_
          refine OpsW.nil ?_
          refine Ex.then_mk ?_
          exact hG2 _ _ _ _ (Ghost.rn [0, 1, 2, 3] rfl rfl (FLe.same rfl (FLe.same rfl (FLe.same rfl (FLe.same rfl (FLe.same rfl (FLe.same rfl (FLe.same rfl (FLe.same rfl (FLe.same rfl FLe.nil))))))))) (HLe.live rfl (les_map (fun _ => rfl) _) (all_map (fun _ => rfl) _) (HLe.live rfl (les_map (fun _ => rfl) _) (all_map (fun _ => rfl) _) (HLe.live rfl (les_map (fun _ => rfl) _) (all_map (fun _ => rfl) _) (HLe.live rfl (les_map (fun _ => rfl) _) (all_map (fun _ => rfl) _) HLe.nil)))) rfl) (J2 x49 hr)
        · replace hr := iteF hr h46
          refine AB.skip ?_
          refine Ex.then_mk ?_
          exact hG2 _ _ _ _ (Ghost.rn [0, 1, 2, 3] rfl rfl (FLe.same rfl (FLe.same rfl (FLe.same rfl (FLe.same rfl (FLe.same rfl (FLe.same rfl (FLe.same rfl (FLe.same rfl (FLe.same rfl FLe.nil))))))))) (HLe.live rfl (les_map (fun _ => rfl) _) (all_map (fun _ => rfl) _) (HLe.live rfl (les_map (fun _ => rfl) _) (all_map (fun _ => rfl) _) (HLe.live rfl (les_map (fun _ => rfl) _) (all_map (fun _ => rfl) _) (HLe.live rfl (les_map (fun _ => rfl) _) (all_map (fun _ => rfl) _) HLe.nil)))) rfl) (J2 (List.replicate 4 0) hr)
    rcases Bool.eq_false_or_eq_true (decide (18 < (keys.length : Int))) with h49 | h49
    · replace hr := iteT hr h49
      refine AB.rw ?_
      refine wS (v := (.row none 4 (keys.map (eA (eI .u64))))) (sv (d_move rfl)) ?_
      refine wS (v := (eI .i64 (keys.length : Int))) (sv (d_len rfl (lenR ti40))) ?_
      refine wS (v := (eB (decide (18 < (keys.length : Int))))) (sv (d_bin rfl rfl (bin_gtr ..))) ?_
      refine wS (v := (eB (decide (18 < (keys.length : Int))))) (sv (d_move rfl)) ?_
      refine wS (svX rfl rfl h49) ?_
      refine wS (svX rfl rfl h49) ?_
      refine wS (svX rfl rfl h49) ?_
      refine wS (v := (eB true)) (sv (d_pickT rfl h49 rfl)) ?_
      refine wS (v := (eB true)) (sv (d_move rfl)) ?_
      refine wS (svX rfl rfl rfl) ?_
      refine wS (svX rfl rfl rfl) ?_
      refine wS (svX rfl rfl rfl) ?_
      refine wS (v := (eB true)) (sv (d_pickT rfl rfl rfl)) ?_
      refine OpsW.nil ?_
      refine Ex.then_mk ?_
      exact hG1 _ _ _ _ (Ghost.rn [0] rfl rfl (FLe.same rfl (FLe.same rfl (FLe.same rfl (FLe.same rfl (FLe.same rfl (FLe.same rfl (FLe.same rfl FLe.nil))))))) (HLe.live rfl (les_map (fun _ => rfl) _) (all_map (fun _ => rfl) _) HLe.nil) rfl) (J1 true hr)
    · replace hr := iteF hr h49
      rcases Bool.eq_false_or_eq_true (decide (600 < (va.length : Int))) with h50 | h50
      · replace hr := iteT hr h50
        refine AB.rw ?_
        refine wS (v := (.row none 4 (keys.map (eA (eI .u64))))) (sv (d_move rfl)) ?_
        refine wS (v := (eI .i64 (keys.length : Int))) (sv (d_len rfl (lenR ti40))) ?_
        refine wS (v := (eB (decide (18 < (keys.length : Int))))) (sv (d_bin rfl rfl (bin_gtr ..))) ?_
        refine wS (v := (eB (decide (18 < (keys.length : Int))))) (sv (d_move rfl)) ?_
        refine wS (v := (.row none 1 (va.map (eI .u8)))) (svG rfl rfl h49 (d_move rfl)) ?_
        refine wS (v := (eI .i64 (va.length : Int))) (svG rfl rfl h49 (d_len rfl (lenR ti22))) ?_
        refine wS (v := (eB (decide (600 < (va.length : Int))))) (svG rfl rfl h49 (d_bin rfl rfl (bin_gtr ..))) ?_
        refine wS (v := (eB (decide (600 < (va.length : Int))))) (sv (d_pickF rfl h49 rfl)) ?_
        refine wS (v := (eB (decide (600 < (va.length : Int))))) (sv (d_move rfl)) ?_
        refine wS (svX rfl rfl h50) ?_
        refine wS (svX rfl rfl h50) ?_
        refine wS (svX rfl rfl h50) ?_
        refine wS (v := (eB true)) (sv (d_pickT rfl h50 rfl)) ?_
        refine OpsW.nil ?_
        refine Ex.then_mk ?_
        exact hG1 _ _ _ _ (Ghost.rn [0] rfl rfl (FLe.same rfl (FLe.same rfl (FLe.same rfl (FLe.same rfl (FLe.same rfl (FLe.same rfl (FLe.same rfl FLe.nil))))))) (HLe.live rfl (les_map (fun _ => rfl) _) (all_map (fun _ => rfl) _) HLe.nil) rfl) (J1 true hr)
      · replace hr := iteF hr h50
        refine AB.rw ?_
        refine wS (v := (.row none 4 (keys.map (eA (eI .u64))))) (sv (d_move rfl)) ?_
        refine wS (v := (eI .i64 (keys.length : Int))) (sv (d_len rfl (lenR ti40))) ?_
        refine wS (v := (eB (decide (18 < (keys.length : Int))))) (sv (d_bin rfl rfl (bin_gtr ..))) ?_
        refine wS (v := (eB (decide (18 < (keys.length : Int))))) (sv (d_move rfl)) ?_
        refine wS (v := (.row none 1 (va.map (eI .u8)))) (svG rfl rfl h49 (d_move rfl)) ?_
        refine wS (v := (eI .i64 (va.length : Int))) (svG rfl rfl h49 (d_len rfl (lenR ti22))) ?_
        refine wS (v := (eB (decide (600 < (va.length : Int))))) (svG rfl rfl h49 (d_bin rfl rfl (bin_gtr ..))) ?_
        refine wS (v := (eB (decide (600 < (va.length : Int))))) (sv (d_pickF rfl h49 rfl)) ?_
        refine wS (v := (eB (decide (600 < (va.length : Int))))) (sv (d_move rfl)) ?_
        refine wS (v := (.row none 1 (b.map (eI .u8)))) (svG rfl rfl h50 (d_move rfl)) ?_
        refine wS (v := (eI .i64 (b.length : Int))) (svG rfl rfl h50 (d_len rfl (lenR ti22))) ?_
        refine wS (v := (eB (decide (600 < (b.length : Int))))) (svG rfl rfl h50 (d_bin rfl rfl (bin_gtr ..))) ?_
        refine wS (v := (eB (decide (600 < (b.length : Int))))) (sv (d_pickF rfl h50 rfl)) ?_
        refine OpsW.nil ?_
        refine Ex.then_mk ?_
        exact hG1 _ _ _ _ (Ghost.rn [0] rfl rfl (FLe.same rfl (FLe.same rfl (FLe.same rfl (FLe.same rfl (FLe.same rfl (FLe.same rfl (FLe.same rfl FLe.nil))))))) (HLe.live rfl (les_map (fun _ => rfl) _) (all_map (fun _ => rfl) _) HLe.nil) rfl) (J1 (decide (600 < (b.length : Int))) hr)
end Go.Proofs.YtheekineakjhdaaDoor
