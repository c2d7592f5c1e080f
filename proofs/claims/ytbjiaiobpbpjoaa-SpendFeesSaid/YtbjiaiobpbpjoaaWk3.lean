/- Walks printed by a program of ours (gen.py): each Go function of the list does what its shallow function says. -/
import Derived.Test.YtbjiaiobpbpjoaaWk2
set_option linter.unusedVariables false
set_option linter.unusedSimpArgs false
namespace Go.Proofs.Ytbjiaiobpbpjoaa
open Go Go.Vm
set_option maxRecDepth 20000 in
set_option maxHeartbeats 1000000 in
theorem ref10_Fee_ok (N : Nat) (t_Version : Int) (t_Inputs : List S_api_Input) (t_Outputs : List S_api_Output) (t_Lock : Int) (l : List S_api_Coin) (r : Int × Int) (hr : ref10_Fee N t_Version t_Inputs t_Outputs t_Lock l = some r) :
    Vm.Fn Try.prog 8 [] [(.agg [(eI .u32 t_Version), (.row none 35 (t_Inputs.map E_api_Input)), (.row none 2 (t_Outputs.map E_api_Output)), (eI .u32 t_Lock)]), (.row none 37 (l.map E_api_Coin))] (.tup [(eI .i64 r.1), (eI .i64 r.2)]) [] := by
  refine fn_ab Try.func8 rfl (by kernel_rfl) Try.ntmps8 (Nat.le_of_ble_eq_true rfl) rfl (fr := [(0, (.agg [(eI .u32 t_Version), (.row none 35 (t_Inputs.map E_api_Input)), (.row none 2 (t_Outputs.map E_api_Output)), (eI .u32 t_Lock)])), (1, (.row none 37 (l.map E_api_Coin)))]) rfl ?_
  unfold ref10_Fee at hr
  refine AB.seq ?_
  refine AB.rw ?_
  refine wS (v := (.ptr 0 0)) (h' := [some ⟨26, [(eI .u32 t_Version), (.row none 35 (t_Inputs.map E_api_Input)), (.row none 2 (t_Outputs.map E_api_Output)), (eI .u32 t_Lock)]⟩]) (sv (d_box rfl rfl rfl rfl)) ?_
  refine wS (v := (eI .i64 0)) (sv (d_assign rfl)) ?_
  refine wS (v := (eI .i64 0)) (sv (d_assign rfl)) ?_
  refine OpsW.nil ?_
  refine Ex.then_mk ?_
  refine AB.seq ?_
  refine AB.seq ?_
  replace hr := bnd hr; obtain ⟨x14, h_1, hr⟩ := hr
  refine AB.rw ?_
  refine wS (v := (.agg [(eI .u32 t_Version), (.row none 35 (t_Inputs.map E_api_Input)), (.row none 2 (t_Outputs.map E_api_Output)), (eI .u32 t_Lock)])) (sv (d_load rfl (ldP rfl (partN (ds := [(eI .u32 t_Version), (.row none 35 (t_Inputs.map E_api_Input)), (.row none 2 (t_Outputs.map E_api_Output)), (eI .u32 t_Lock)]) ti26 rfl (Nat.le_of_ble_eq_true rfl) rfl)))) ?_
  refine wC (v := (eI .i64 x14)) (h' := [some ⟨26, [(eI .u32 t_Version), (.row none 35 (t_Inputs.map E_api_Input)), (.row none 2 (t_Outputs.map E_api_Output)), (eI .u32 t_Lock)]⟩]) rfl (Vm.Fn.pure (ref09_Check_ok N t_Version t_Inputs t_Outputs t_Lock x14 h_1) rfl rfl) ?_
  refine wS (v := (eI .i64 x14)) (sv (d_assign rfl)) ?_
  refine OpsW.nil ?_
  refine Ex.then_mk ?_
  refine AB.seq ?_
  refine AB.rw ?_
  refine wS (v := (eI .i64 x14)) (sv (d_move rfl)) ?_
  refine wS (v := (eB (x14 != 0))) (sv (d_bin rfl rfl (bin_neq ..))) ?_
  refine OpsW.nil ?_
  refine Ex.then_mk ?_
  refine AB.cnd rfl (fun h2 => ?_) (fun h2 => ?_)
  · replace hr := iteT hr h2
    refine AB.seq ?_
    refine AB.rw ?_
    refine wS (v := (eI .i64 x14)) (sv (d_move rfl)) ?_
    refine wS (v := (eI .i64 0)) (sv (d_assign rfl)) ?_
    refine wS (v := (eI .i64 x14)) (sv (d_assign rfl)) ?_
    refine OpsW.nil ?_
    refine Ex.then_mk ?_
    refine AB.ret ?_
    refine Ex.then_ret_mk ?_
    obtain rfl := Option.some.inj hr
    exact done_ret (r1 := (.tup [(eI .i64 0), (eI .i64 x14)])) (res2 Try.results8 (rvT rfl) (rvT rfl)) (Ghost.rn [] rfl rfl (FLe.same rfl FLe.nil) HLe.nil rfl)
  · replace hr := iteF hr h2
    refine AB.skip ?_
    refine Ex.then_mk ?_
    refine AB.seq ?_
    refine AB.seq ?_
    refine AB.rw ?_
    refine wS (v := (.row none 37 (l.map E_api_Coin))) (sv (d_move rfl)) ?_
    refine wS (v := (eI .i64 (l.length : Int))) (sv (d_len rfl (lenR ti27))) ?_
    refine wS (v := (.ptr 0 1)) (sv (d_fa rfl (fap26_1 ..))) ?_
    refine wS (v := (.row none 35 (t_Inputs.map E_api_Input))) (sv (d_load rfl (ldP rfl (part1 ti23 rfl rfl)))) ?_
    refine wS (v := (eI .i64 (t_Inputs.length : Int))) (sv (d_len rfl (lenR ti23))) ?_
    refine wS (v := (eB ((l.length : Int) != (t_Inputs.length : Int)))) (sv (d_bin rfl rfl (bin_neq ..))) ?_
    refine OpsW.nil ?_
    refine Ex.then_mk ?_
    refine AB.cnd rfl (fun h3 => ?_) (fun h3 => ?_)
    · replace hr := iteT hr h3
      refine AB.seq ?_
      refine AB.rw ?_
      refine wS (v := (eI .i64 0)) (sv (d_assign rfl)) ?_
      refine wS (v := (eI .i64 8)) (sv (d_assign rfl)) ?_
      refine OpsW.nil ?_
      refine Ex.then_mk ?_
      refine AB.ret ?_
      refine Ex.then_ret_mk ?_
      obtain rfl := Option.some.inj hr
      exact done_ret (r1 := (.tup [(eI .i64 0), (eI .i64 8)])) (res2 Try.results8 (rvT rfl) (rvT rfl)) (Ghost.rn [] rfl rfl (FLe.same rfl FLe.nil) HLe.nil rfl)
    · replace hr := iteF hr h3
      refine AB.skip ?_
      refine Ex.then_mk ?_
      refine AB.seq_g fun K1 hK1 hG1 => ?_
      have J1 : ref10_Fee_J1 N t_Version t_Inputs t_Outputs t_Lock l = some r → K1 (mkF 81 [(1, (.row none 37 (l.map E_api_Coin))), (2, (.ptr 0 0))]) [some ⟨26, [(eI .u32 t_Version), (.row none 35 (t_Inputs.map E_api_Input)), (.row none 2 (t_Outputs.map E_api_Output)), (eI .u32 t_Lock)]⟩] := by
        intro hr
        unfold ref10_Fee_J1 at hr
        refine hK1 _ _ ?_
        refine AB.seq ?_
        refine AB.rw ?_
        refine wS (v := (eI .i64 0)) (sv (d_assign rfl)) ?_
        refine OpsW.nil ?_
        refine Ex.then_mk ?_
        refine AB.seq_g fun K2 hK2 hG2 => ?_
        have J2 : ∀ (sum : Int), ref10_Fee_J2 N t_Version t_Inputs t_Outputs t_Lock sum = some r → K2 (mkF 81 [(2, (.ptr 0 0)), (8, (eI .i64 sum))]) [some ⟨26, [(eI .u32 t_Version), (.row none 35 (t_Inputs.map E_api_Input)), (.row none 2 (t_Outputs.map E_api_Output)), (eI .u32 t_Lock)]⟩] := by
          intro sum hr
          unfold ref10_Fee_J2 at hr
          refine hK2 _ _ ?_
          refine AB.seq ?_
          refine AB.seq ?_
          refine AB.rw ?_
          refine wS (v := (eI .i64 sum)) (sv (d_move rfl)) ?_
          refine wS (v := (eB (decide (2100000000000000 < sum)))) (sv (d_bin rfl rfl (bin_gtr ..))) ?_
          refine OpsW.nil ?_
          refine Ex.then_mk ?_
          refine AB.cnd rfl (fun h4 => ?_) (fun h4 => ?_)
          · replace hr := iteT hr h4
            refine AB.seq ?_
            refine AB.rw ?_
            refine wS (v := (eI .i64 0)) (sv (d_assign rfl)) ?_
            refine wS (v := (eI .i64 90)) (sv (d_assign rfl)) ?_
            refine OpsW.nil ?_
            refine Ex.then_mk ?_
            refine AB.ret ?_
            refine Ex.then_ret_mk ?_
            obtain rfl := Option.some.inj hr
            exact done_ret (r1 := (.tup [(eI .i64 0), (eI .i64 90)])) (res2 Try.results8 (rvT rfl) (rvT rfl)) (Ghost.rn [] rfl rfl (FLe.same rfl FLe.nil) HLe.nil rfl)
          · replace hr := iteF hr h4
            refine AB.skip ?_
            refine Ex.then_mk ?_
            refine AB.seq_g fun K3 hK3 hG3 => ?_
            have J3 : ∀ (sum_1 : Int), ref10_Fee_J3 N sum_1 = some r → K3 (mkF 81 [(8, (eI .i64 sum_1))]) [] := by
              intro sum_1 hr
              unfold ref10_Fee_J3 at hr
              refine hK3 _ _ ?_
              refine AB.seq ?_
              refine AB.seq ?_
              refine AB.rw ?_
              refine wS (v := (eI .i64 sum_1)) (sv (d_move rfl)) ?_
              refine wS (v := (eB (decide (sum_1 < 0)))) (sv (d_bin rfl rfl (bin_lss ..))) ?_
              refine OpsW.nil ?_
              refine Ex.then_mk ?_
              refine AB.cnd rfl (fun h5 => ?_) (fun h5 => ?_)
              · replace hr := iteT hr h5
                refine AB.seq ?_
                refine AB.rw ?_
                refine wS (v := (eI .i64 0)) (sv (d_assign rfl)) ?_
                refine wS (v := (eI .i64 100)) (sv (d_assign rfl)) ?_
                refine OpsW.nil ?_
                refine Ex.then_mk ?_
                refine AB.ret ?_
                refine Ex.then_ret_mk ?_
                obtain rfl := Option.some.inj hr
                exact done_ret (r1 := (.tup [(eI .i64 0), (eI .i64 100)])) (res2 Try.results8 (rvT rfl) (rvT rfl)) (Ghost.rn [] rfl rfl (FLe.same rfl FLe.nil) HLe.nil rfl)
              · replace hr := iteF hr h5
                refine AB.skip ?_
                refine Ex.then_mk ?_
                refine AB.seq ?_
                refine AB.rw ?_
                refine wS (v := (eI .i64 sum_1)) (sv (d_move rfl)) ?_
                refine wS (v := (eI .i64 sum_1)) (sv (d_assign rfl)) ?_
                refine wS (v := (eI .i64 0)) (sv (d_assign rfl)) ?_
                refine OpsW.nil ?_
                refine Ex.then_mk ?_
                refine AB.ret ?_
                obtain rfl := Option.some.inj hr
                exact done_ret (r1 := (.tup [(eI .i64 sum_1), (eI .i64 0)])) (res2 Try.results8 (rvT rfl) (rvT rfl)) (Ghost.rn [] rfl rfl (FLe.same rfl FLe.nil) HLe.nil rfl)
            refine AB.seq ?_
            refine AB.rw ?_
            refine wS (v := (.ptr 0 2)) (sv (d_fa rfl (fap26_2 ..))) ?_
            refine wS (v := (.row none 2 (t_Outputs.map E_api_Output))) (sv (d_load rfl (ldP rfl (part1 ti24 rfl rfl)))) ?_
            refine wS (v := (eI .i64 (t_Outputs.length : Int))) (sv (d_len rfl (lenR ti24))) ?_
            refine wS (v := (eI .i64 0)) (sv (d_move rfl)) ?_
            refine OpsW.nil ?_
            refine Ex.then_mk ?_
            replace hr := bnd hr; obtain ⟨res4, hL4, hr⟩ := hr
            refine AB.block ?_
            refine AB.loopN (fun m s h => ∃ (sum_2 : Int) (x69 : Int), ref10_Fee_L4 N t_Outputs m sum_2 x69 = some res4 ∧ Ghost 0 s h (mkF 81 [(8, (eI .i64 sum_2)), (67, (.row none 2 (t_Outputs.map E_api_Output))), (68, (eI .i64 (t_Outputs.length : Int))), (69, (eI .i64 x69))]) []) (n := N) ⟨sum, 0, hL4, (Ghost.rn [] rfl rfl (FLe.same rfl (FLe.same rfl (FLe.same rfl (FLe.same rfl FLe.nil)))) HLe.nil rfl)⟩ (by rintro s h ⟨_, _, h0, _⟩; simp [ref10_Fee_L4] at h0) ?_
            rintro m4 s h ⟨sum_2, x69, hr4, hg⟩
            refine AB.ghost hg ?_
            clear hg hL4
            rw [ref10_Fee_L4] at hr4
            refine AB.seq ?_
            refine AB.rw ?_
            refine wS (v := (eB (decide (x69 < (t_Outputs.length : Int))))) (sv (d_bin rfl rfl (bin_lss ..))) ?_
            refine OpsW.nil ?_
            refine Ex.then_mk ?_
            refine AB.seq ?_
            refine AB.cnd rfl (fun h6 => ?_) (fun h6 => ?_)
            · replace hr4 := iteT hr4 h6
              refine AB.skip ?_
              refine Ex.then_mk ?_
              refine AB.seq ?_
              refine AB.block ?_
              refine AB.seq ?_
              replace hr4 := bnd hr4; obtain ⟨x71, h_7, hr4⟩ := hr4
              refine AB.rw ?_
              refine wS (sv (d_ia rfl rfl (iaR ti24 ti44 h_7))) ?_
              refine wS (v := (.agg [(eI .i64 x71.Value), (.row none 1 (x71.Script.map (eI .u8)))])) (sv (d_load rfl (ldR h_7 (partN (ds := [(eI .i64 x71.Value), (.row none 1 (x71.Script.map (eI .u8)))]) ti44 rfl (Nat.le_of_ble_eq_true rfl) rfl)))) ?_
              refine wS (v := (.ptr 0 0)) (h' := [some ⟨44, [(eI .i64 0), (.row (some true) 1 [])]⟩]) (sv (d_alloc ti44 rfl rfl rfl)) ?_
              refine wN (h' := [some ⟨44, [(eI .i64 x71.Value), (.row none 1 (x71.Script.map (eI .u8)))]⟩]) (sv (d_store rfl rfl (stP ti44 rfl rfl rfl (Nat.le_of_ble_eq_true rfl) rfl))) ?_
              refine OpsW.nil ?_
              refine Ex.then_mk ?_
              refine AB.rw ?_
              refine wS (v := (eI .i64 sum_2)) (sv (d_move rfl)) ?_
              refine wS (v := (.ptr 0 0)) (sv (d_fa rfl (fap44_0 ..))) ?_
              refine wS (v := (eI .i64 x71.Value)) (sv (d_load rfl (ldP rfl (part1 ti2 rfl rfl)))) ?_
              refine wS (v := (eI .i64 (IntKind.i64.wrap (sum_2 - x71.Value)))) (sv (d_bin rfl rfl (bin_sub ..))) ?_
              refine wS (v := (eI .i64 (IntKind.i64.wrap (sum_2 - x71.Value)))) (sv (d_assign rfl)) ?_
              refine OpsW.nil ?_
              refine Ex.inBlock_mk ?_
              refine Ex.then_mk ?_
              refine AB.rw ?_
              refine wS (v := (eI .i64 (IntKind.i64.wrap (x69 + 1)))) (sv (d_bin rfl rfl (bin_add ..))) ?_
              refine wS (v := (eI .i64 (IntKind.i64.wrap (x69 + 1)))) (sv (d_move rfl)) ?_
              refine OpsW.nil ?_
              refine Ex.then_mk ?_
              exact ⟨IntKind.i64.wrap (sum_2 - x71.Value), IntKind.i64.wrap (x69 + 1), hr4, (Ghost.rn [] rfl rfl (FLe.same rfl (FLe.same rfl (FLe.same rfl (FLe.same rfl FLe.nil)))) HLe.nil rfl)⟩
            · replace hr4 := iteF hr4 h6
              refine AB.exit ?_
              refine Ex.then_exit_mk ?_
              refine Ex.then_exit_mk ?_
              refine Ex.inBlock_same_mk ?_
              obtain rfl := Option.some.inj hr4
              refine Ex.then_mk ?_
              exact hG3 _ _ _ _ (Ghost.rn [] rfl rfl (FLe.same rfl FLe.nil) HLe.nil rfl) (J3 sum_2 hr)
        refine AB.seq ?_
        refine AB.rw ?_
        refine wS (v := (.row none 37 (l.map E_api_Coin))) (sv (d_move rfl)) ?_
        refine wS (v := (eI .i64 (l.length : Int))) (sv (d_len rfl (lenR ti27))) ?_
        refine wS (v := (eI .i64 0)) (sv (d_move rfl)) ?_
        refine OpsW.nil ?_
        refine Ex.then_mk ?_
        replace hr := bnd hr; obtain ⟨res5, hL5, hr⟩ := hr
        refine AB.block ?_
        refine AB.loopN (fun m s h => ∃ (sum_3 : Int) (x44 : Int), ref10_Fee_L5 N t_Version t_Inputs t_Outputs t_Lock l m sum_3 x44 = some res5 ∧ Ghost 0 s h (mkF 81 [(2, (.ptr 0 0)), (8, (eI .i64 sum_3)), (42, (.row none 37 (l.map E_api_Coin))), (43, (eI .i64 (l.length : Int))), (44, (eI .i64 x44))]) [some ⟨26, [(eI .u32 t_Version), (.row none 35 (t_Inputs.map E_api_Input)), (.row none 2 (t_Outputs.map E_api_Output)), (eI .u32 t_Lock)]⟩]) (n := N) ⟨0, 0, hL5, (Ghost.rn [0] rfl rfl (FLe.same rfl (FLe.same rfl (FLe.same rfl (FLe.same rfl (FLe.same rfl FLe.nil))))) (HLe.live rfl (V.les_refl _ _) rfl HLe.nil) rfl)⟩ (by rintro s h ⟨_, _, h0, _⟩; simp [ref10_Fee_L5] at h0) ?_
        rintro m5 s h ⟨sum_3, x44, hr5, hg⟩
        refine AB.ghost hg ?_
        clear hg hL5
        rw [ref10_Fee_L5] at hr5
        refine AB.seq ?_
        refine AB.rw ?_
        refine wS (v := (eB (decide (x44 < (l.length : Int))))) (sv (d_bin rfl rfl (bin_lss ..))) ?_
        refine OpsW.nil ?_
        refine Ex.then_mk ?_
        refine AB.seq ?_
        refine AB.cnd rfl (fun h8 => ?_) (fun h8 => ?_)
        · replace hr5 := iteT hr5 h8
          refine AB.skip ?_
          refine Ex.then_mk ?_
          refine AB.seq ?_
          refine AB.block ?_
          refine AB.seq ?_
          replace hr5 := bnd hr5; obtain ⟨x46, h_9, hr5⟩ := hr5
          refine AB.rw ?_
          refine wS (sv (d_ia rfl rfl (iaR ti27 ti46 h_9))) ?_
          refine wS (v := (E_api_Coin x46)) (sv (d_load rfl (ldR h_9 (partN (ds := (ar32 (eI .u8) x46.Out.Tx [(eI .u32 x46.Out.Index), (eI .i64 x46.Output.Value), (.row none 1 (x46.Output.Script.map (eI .u8))), (eI .i64 x46.Height), (eB x46.Coinbase)])) ti46 rfl (Nat.le_of_ble_eq_true rfl) rfl)))) ?_
          refine wS (v := (.ptr 1 0)) (h' := [some ⟨26, [(eI .u32 t_Version), (.row none 35 (t_Inputs.map E_api_Input)), (.row none 2 (t_Outputs.map E_api_Output)), (eI .u32 t_Lock)]⟩, some ⟨46, (ar32 (eI .u8) (List.replicate 32 0) [(eI .u32 0), (eI .i64 0), (.row (some true) 1 []), (eI .i64 0), (eB false)])⟩]) (sv (d_alloc ti46 rfl rfl rfl)) ?_
          refine wN (h' := [some ⟨26, [(eI .u32 t_Version), (.row none 35 (t_Inputs.map E_api_Input)), (.row none 2 (t_Outputs.map E_api_Output)), (eI .u32 t_Lock)]⟩, some ⟨46, C_api_Coin x46⟩]) (sv (d_store rfl rfl (stP ti46 rfl rfl rfl (Nat.le_of_ble_eq_true rfl) rfl))) ?_
          refine OpsW.nil ?_
          refine Ex.then_mk ?_
          refine AB.seq ?_
          refine AB.seq_g fun K6 hK6 hG6 => ?_
          have J6 : ∀ (x57 : Bool), ref10_Fee_J6 N t_Version t_Inputs t_Outputs t_Lock l sum_3 x44 x46 (ref10_Fee_L5 N t_Version t_Inputs t_Outputs t_Lock l m5) x57 = some res5 → K6 (mkF 81 [(2, (.ptr 0 0)), (8, (eI .i64 sum_3)), (10, (.ptr 1 0)), (42, (.row none 37 (l.map E_api_Coin))), (43, (eI .i64 (l.length : Int))), (44, (eI .i64 x44)), (57, (eB x57))]) [some ⟨26, [(eI .u32 t_Version), (.row none 35 (t_Inputs.map E_api_Input)), (.row none 2 (t_Outputs.map E_api_Output)), (eI .u32 t_Lock)]⟩, some ⟨46, C_api_Coin x46⟩] := by
            intro x57 hr5
            unfold ref10_Fee_J6 at hr5
            refine hK6 _ _ ?_
            refine AB.cnd rfl (fun h10 => ?_) (fun h10 => ?_)
            · replace hr5 := iteT hr5 h10
              refine AB.seq ?_
              refine AB.rw ?_
              refine wS (v := (eI .i64 0)) (sv (d_assign rfl)) ?_
              refine wS (v := (eI .i64 90)) (sv (d_assign rfl)) ?_
              refine OpsW.nil ?_
              refine Ex.then_mk ?_
              refine AB.ret ?_
              refine Ex.then_ret_mk ?_
              refine Ex.inBlock_ret_mk ?_
              refine Ex.then_ret_mk ?_
              refine Ex.then_ret_mk ?_
              refine Ex.inBlock_ret_mk ?_
              refine Ex.then_ret_mk ?_
              obtain rfl := Option.some.inj hr5
              obtain rfl := Option.some.inj hr
              exact done_ret (r1 := (.tup [(eI .i64 0), (eI .i64 90)])) (res2 Try.results8 (rvT rfl) (rvT rfl)) (Ghost.rn [] rfl rfl (FLe.same rfl FLe.nil) HLe.nil rfl)
            · replace hr5 := iteF hr5 h10
              refine AB.skip ?_
              refine Ex.then_mk ?_
              refine AB.rw ?_
              refine wS (v := (eI .i64 sum_3)) (sv (d_move rfl)) ?_
              refine wS (v := (.ptr 1 33)) (sv (d_fa rfl (fap46_1 ..))) ?_
              refine wS (v := (.ptr 1 33)) (sv (d_fa rfl (fap44_0 ..))) ?_
              refine wS (v := (eI .i64 x46.Output.Value)) (sv (d_load rfl (ldP rfl (part1 ti2 rfl rfl)))) ?_
              refine wS (v := (eI .i64 (IntKind.i64.wrap (sum_3 + x46.Output.Value)))) (sv (d_bin rfl rfl (bin_add ..))) ?_
              refine wS (v := (eI .i64 (IntKind.i64.wrap (sum_3 + x46.Output.Value)))) (sv (d_assign rfl)) ?_
              refine OpsW.nil ?_
              refine Ex.inBlock_mk ?_
              refine Ex.then_mk ?_
              refine AB.rw ?_
              refine wS (v := (eI .i64 (IntKind.i64.wrap (x44 + 1)))) (sv (d_bin rfl rfl (bin_add ..))) ?_
              refine wS (v := (eI .i64 (IntKind.i64.wrap (x44 + 1)))) (sv (d_move rfl)) ?_
              refine OpsW.nil ?_
              refine Ex.then_mk ?_
              exact ⟨IntKind.i64.wrap (sum_3 + x46.Output.Value), IntKind.i64.wrap (x44 + 1), hr5, (Ghost.rn [0] rfl rfl (FLe.same rfl (FLe.same rfl (FLe.same rfl (FLe.same rfl (FLe.same rfl FLe.nil))))) (HLe.live rfl (V.les_refl _ _) rfl HLe.nil) rfl)⟩
          rcases Bool.eq_false_or_eq_true (decide (x46.Output.Value < 0)) with h11 | h11
          · replace hr5 := iteT hr5 h11
            refine AB.rw ?_
            refine wS (v := (.ptr 1 33)) (sv (d_fa rfl (fap46_1 ..))) ?_
            refine wS (v := (.ptr 1 33)) (sv (d_fa rfl (fap44_0 ..))) ?_
            refine wS (v := (eI .i64 x46.Output.Value)) (sv (d_load rfl (ldP rfl (part1 ti2 rfl rfl)))) ?_
            refine wS (v := (eB (decide (x46.Output.Value < 0)))) (sv (d_bin rfl rfl (bin_lss ..))) ?_
            refine wS (v := (eB (decide (x46.Output.Value < 0)))) (sv (d_move rfl)) ?_
            refine wS (svX rfl rfl h11) ?_
            refine wS (svX rfl rfl h11) ?_
            refine wS (svX rfl rfl h11) ?_
            refine wS (svX rfl rfl h11) ?_
            refine wS (v := (eB true)) (sv (d_pickT rfl h11 rfl)) ?_
            refine OpsW.nil ?_
            refine Ex.then_mk ?_
            exact hG6 _ _ _ _ (Ghost.rn [0, 1] rfl rfl (FLe.same rfl (FLe.same rfl (FLe.same rfl (FLe.same rfl (FLe.same rfl (FLe.same rfl (FLe.same rfl FLe.nil))))))) (HLe.live rfl (V.les_refl _ _) rfl (HLe.live rfl (V.les_refl _ _) rfl HLe.nil)) rfl) (J6 true hr5)
          · replace hr5 := iteF hr5 h11
            refine AB.rw ?_
            refine wS (v := (.ptr 1 33)) (sv (d_fa rfl (fap46_1 ..))) ?_
            refine wS (v := (.ptr 1 33)) (sv (d_fa rfl (fap44_0 ..))) ?_
            refine wS (v := (eI .i64 x46.Output.Value)) (sv (d_load rfl (ldP rfl (part1 ti2 rfl rfl)))) ?_
            refine wS (v := (eB (decide (x46.Output.Value < 0)))) (sv (d_bin rfl rfl (bin_lss ..))) ?_
            refine wS (v := (eB (decide (x46.Output.Value < 0)))) (sv (d_move rfl)) ?_
            refine wS (v := (.ptr 1 33)) (svG rfl rfl h11 (d_fa rfl (fap46_1 ..))) ?_
            refine wS (v := (.ptr 1 33)) (svG rfl rfl h11 (d_fa rfl (fap44_0 ..))) ?_
            refine wS (v := (eI .i64 x46.Output.Value)) (svG rfl rfl h11 (d_load rfl (ldP rfl (part1 ti2 rfl rfl)))) ?_
            refine wS (v := (eB (decide (2100000000000000 < x46.Output.Value)))) (svG rfl rfl h11 (d_bin rfl rfl (bin_gtr ..))) ?_
            refine wS (v := (eB (decide (2100000000000000 < x46.Output.Value)))) (sv (d_pickF rfl h11 rfl)) ?_
            refine OpsW.nil ?_
            refine Ex.then_mk ?_
            exact hG6 _ _ _ _ (Ghost.rn [0, 1] rfl rfl (FLe.same rfl (FLe.same rfl (FLe.same rfl (FLe.same rfl (FLe.same rfl (FLe.same rfl (FLe.same rfl FLe.nil))))))) (HLe.live rfl (V.les_refl _ _) rfl (HLe.live rfl (V.les_refl _ _) rfl HLe.nil)) rfl) (J6 (decide (2100000000000000 < x46.Output.Value)) hr5)
        · replace hr5 := iteF hr5 h8
          refine AB.exit ?_
          refine Ex.then_exit_mk ?_
          refine Ex.then_exit_mk ?_
          refine Ex.inBlock_same_mk ?_
          obtain rfl := Option.some.inj hr5
          refine Ex.then_mk ?_
          exact hG2 _ _ _ _ (Ghost.rn [0] rfl rfl (FLe.same rfl (FLe.same rfl FLe.nil)) (HLe.live rfl (V.les_refl _ _) rfl HLe.nil) rfl) (J2 sum_3 hr)
      refine AB.seq ?_
      refine AB.rw ?_
      refine wS (v := (.row none 37 (l.map E_api_Coin))) (sv (d_move rfl)) ?_
      refine wS (v := (eI .i64 (l.length : Int))) (sv (d_len rfl (lenR ti27))) ?_
      refine wS (v := (eI .i64 0)) (sv (d_move rfl)) ?_
      refine OpsW.nil ?_
      refine Ex.then_mk ?_
      replace hr := bnd hr; obtain ⟨res7, hL7, hr⟩ := hr
      refine AB.block ?_
      refine AB.loopN (fun m s h => ∃ (x26 : Int), ref10_Fee_L7 N t_Version t_Inputs t_Outputs t_Lock l m x26 = some res7 ∧ Ghost 0 s h (mkF 81 [(1, (.row none 37 (l.map E_api_Coin))), (2, (.ptr 0 0)), (25, (eI .i64 (l.length : Int))), (26, (eI .i64 x26))]) [some ⟨26, [(eI .u32 t_Version), (.row none 35 (t_Inputs.map E_api_Input)), (.row none 2 (t_Outputs.map E_api_Output)), (eI .u32 t_Lock)]⟩]) (n := N) ⟨0, hL7, (Ghost.rn [0] rfl rfl (FLe.same rfl (FLe.same rfl (FLe.same rfl (FLe.same rfl FLe.nil)))) (HLe.live rfl (V.les_refl _ _) rfl HLe.nil) rfl)⟩ (by rintro s h ⟨_, h0, _⟩; simp [ref10_Fee_L7] at h0) ?_
      rintro m7 s h ⟨x26, hr7, hg⟩
      refine AB.ghost hg ?_
      clear hg hL7
      rw [ref10_Fee_L7] at hr7
      refine AB.seq ?_
      refine AB.rw ?_
      refine wS (v := (eB (decide (x26 < (l.length : Int))))) (sv (d_bin rfl rfl (bin_lss ..))) ?_
      refine OpsW.nil ?_
      refine Ex.then_mk ?_
      refine AB.seq ?_
      refine AB.cnd rfl (fun h12 => ?_) (fun h12 => ?_)
      · replace hr7 := iteT hr7 h12
        refine AB.skip ?_
        refine Ex.then_mk ?_
        refine AB.seq ?_
        refine AB.block ?_
        refine AB.seq ?_
        refine AB.rw ?_
        refine wS (v := (eI .i64 x26)) (sv (d_move rfl)) ?_
        refine wS (v := (eI .i64 x26)) (sv (d_assign rfl)) ?_
        refine OpsW.nil ?_
        refine Ex.then_mk ?_
        refine AB.seq ?_
        replace hr7 := bnd hr7; obtain ⟨x31, h_13, hr7⟩ := hr7
        replace hr7 := bnd hr7; obtain ⟨x37, h_14, hr7⟩ := hr7
        refine AB.rg E0 (fun _ => by show drawOk (fun _ => false) _ = true; decide +kernel) ?_
        refine tS (v := (.row none 37 (l.map E_api_Coin))) (sv (d_move rfl)) ?_
        refine tS (v := (eI .i64 x26)) (sv (d_move rfl)) ?_
        refine tS (sv (d_ia rfl rfl (iaR ti27 ti46 h_13))) ?_
        refine tS (sv (d_fa rfl (fae46_0 ..))) ?_
        refine tS (v := (E_api_OutPoint x31.Out)) (sv (d_load rfl (ldR h_13 (partN (ds := (ar32 (eI .u8) x31.Out.Tx [(eI .u32 x31.Out.Index)])) ti38 rfl (Nat.le_of_ble_eq_true rfl) rfl)))) ?_
        refine tS (v := (.ptr 0 1)) (sv (d_fa rfl (fap26_1 ..))) ?_
        refine tS (v := (.row none 35 (t_Inputs.map E_api_Input))) (sv (d_load rfl (ldP rfl (part1 ti23 rfl rfl)))) ?_
        refine tS (v := (eI .i64 x26)) (sv (d_move rfl)) ?_
        refine tS (sv (d_ia rfl rfl (iaR ti23 ti41 h_14))) ?_
        refine tS (sv (d_fa rfl (fae41_0 ..))) ?_
        refine tS (v := (E_api_OutPoint x37.Prev)) (sv (d_load rfl (ldR h_14 (partN (ds := (ar32 (eI .u8) x37.Prev.Tx [(eI .u32 x37.Prev.Index)])) ti38 rfl (Nat.le_of_ble_eq_true rfl) rfl)))) ?_
        refine tS (v := (eB (!(aeq32 x31.Out.Tx x37.Prev.Tx ((x31.Out.Index == x37.Prev.Index) && true))))) (sv (d_bin rfl rfl (bin_neqP (d := 9) ti38 rfl ft38 (Nat.le_of_ble_eq_true rfl) eg38 rfl rfl rfl rfl rfl))) ?_
        refine OpsTo.nil ?_
        refine Ex.then_mk ?_
        refine AB.cnd rfl (fun h15 => ?_) (fun h15 => ?_)
        · replace hr7 := iteT hr7 h15
          refine AB.seq ?_
          refine AB.rw ?_
          refine wS (v := (eI .i64 0)) (sv (d_assign rfl)) ?_
          refine wS (v := (eI .i64 101)) (sv (d_assign rfl)) ?_
          refine OpsW.nil ?_
          refine Ex.then_mk ?_
          refine AB.ret ?_
          refine Ex.inBlock_ret_mk ?_
          refine Ex.then_ret_mk ?_
          refine Ex.then_ret_mk ?_
          refine Ex.inBlock_ret_mk ?_
          refine Ex.then_ret_mk ?_
          obtain rfl := Option.some.inj hr7
          obtain rfl := Option.some.inj hr
          exact done_ret (r1 := (.tup [(eI .i64 0), (eI .i64 101)])) (res2 Try.results8 (rvT rfl) (rvT rfl)) (Ghost.rn [] rfl rfl (FLe.same rfl FLe.nil) HLe.nil rfl)
        · replace hr7 := iteF hr7 h15
          refine AB.skip ?_
          refine Ex.inBlock_mk ?_
          refine Ex.then_mk ?_
          refine AB.rw ?_
          refine wS (v := (eI .i64 (IntKind.i64.wrap (x26 + 1)))) (sv (d_bin rfl rfl (bin_add ..))) ?_
          refine wS (v := (eI .i64 (IntKind.i64.wrap (x26 + 1)))) (sv (d_move rfl)) ?_
          refine OpsW.nil ?_
          refine Ex.then_mk ?_
          exact ⟨IntKind.i64.wrap (x26 + 1), hr7, (Ghost.rn [0] rfl rfl (FLe.same rfl (FLe.same rfl (FLe.same rfl (FLe.same rfl FLe.nil)))) (HLe.live rfl (V.les_refl _ _) rfl HLe.nil) rfl)⟩
      · replace hr7 := iteF hr7 h12
        refine AB.exit ?_
        refine Ex.then_exit_mk ?_
        refine Ex.then_exit_mk ?_
        refine Ex.inBlock_same_mk ?_
        obtain rfl := Option.some.inj hr7
        refine Ex.then_mk ?_
        exact hG1 _ _ _ _ (Ghost.rn [0] rfl rfl (FLe.same rfl (FLe.same rfl FLe.nil)) (HLe.live rfl (V.les_refl _ _) rfl HLe.nil) rfl) (J1 hr)
set_option maxRecDepth 20000 in
set_option maxHeartbeats 1000000 in
theorem law10_SpendFees_ok (N : Nat) (t_Version : Int) (t_Inputs : List S_api_Input) (t_Outputs : List S_api_Output) (t_Lock : Int) (l : List S_api_Coin) (r : Bool) (hr : law10_SpendFees N t_Version t_Inputs t_Outputs t_Lock l = some r) :
    Vm.Fn Try.prog 3 [] [(.agg [(eI .u32 t_Version), (.row none 35 (t_Inputs.map E_api_Input)), (.row none 2 (t_Outputs.map E_api_Output)), (eI .u32 t_Lock)]), (.row none 37 (l.map E_api_Coin))] (eB r) [] := by
  refine fn_ab Try.func3 rfl (by kernel_rfl) Try.ntmps3 (Nat.le_of_ble_eq_true rfl) rfl (fr := [(0, (.agg [(eI .u32 t_Version), (.row none 35 (t_Inputs.map E_api_Input)), (.row none 2 (t_Outputs.map E_api_Output)), (eI .u32 t_Lock)])), (1, (.row none 37 (l.map E_api_Coin)))]) rfl ?_
  unfold law10_SpendFees at hr
  refine AB.seq ?_
  refine AB.rw ?_
  refine wS (v := (.ptr 0 0)) (h' := [some ⟨26, [(eI .u32 t_Version), (.row none 35 (t_Inputs.map E_api_Input)), (.row none 2 (t_Outputs.map E_api_Output)), (eI .u32 t_Lock)]⟩]) (sv (d_box rfl rfl rfl rfl)) ?_
  refine wS (v := (eB false)) (sv (d_assign rfl)) ?_
  refine OpsW.nil ?_
  refine Ex.then_mk ?_
  refine AB.seq ?_
  refine AB.seq ?_
  replace hr := bnd hr; obtain ⟨x9, h_1, hr⟩ := hr
  refine AB.rw ?_
  refine wC (v := (eB x9)) (h' := [some ⟨26, [(eI .u32 t_Version), (.row none 35 (t_Inputs.map E_api_Input)), (.row none 2 (t_Outputs.map E_api_Output)), (eI .u32 t_Lock)]⟩]) rfl (Vm.Fn.pure (law10_sane_ok N x9 h_1) rfl rfl) ?_
  refine wS (v := (eB (!x9))) (sv (d_un rfl (un_not _ _))) ?_
  refine OpsW.nil ?_
  refine Ex.then_mk ?_
  refine AB.cnd rfl (fun h2 => ?_) (fun h2 => ?_)
  · replace hr := iteT hr h2
    refine AB.seq ?_
    refine AB.rw ?_
    refine wS (v := (eB false)) (sv (d_assign rfl)) ?_
    refine OpsW.nil ?_
    refine Ex.then_mk ?_
    refine AB.ret ?_
    refine Ex.then_ret_mk ?_
    obtain rfl := Option.some.inj hr
    exact done_ret (r1 := (eB false)) (res1 Try.results3 (rvT rfl)) (Ghost.rn [] rfl rfl (FLe.same rfl FLe.nil) HLe.nil rfl)
  · replace hr := iteF hr h2
    refine AB.skip ?_
    refine Ex.then_mk ?_
    refine AB.seq ?_
    refine AB.seq_g fun K1 hK1 hG1 => ?_
    have J1 : ∀ (x18 : Bool), law10_SpendFees_J1 N t_Version t_Inputs t_Outputs t_Lock l x18 = some r → K1 (mkF 39 [(1, (.row none 37 (l.map E_api_Coin))), (2, (.ptr 0 0)), (18, (eB x18))]) [some ⟨26, [(eI .u32 t_Version), (.row none 35 (t_Inputs.map E_api_Input)), (.row none 2 (t_Outputs.map E_api_Output)), (eI .u32 t_Lock)]⟩] := by
      intro x18 hr
      unfold law10_SpendFees_J1 at hr
      refine hK1 _ _ ?_
      refine AB.cnd rfl (fun h3 => ?_) (fun h3 => ?_)
      · replace hr := iteT hr h3
        refine AB.seq ?_
        refine AB.rw ?_
        refine wS (v := (eB true)) (sv (d_assign rfl)) ?_
        refine OpsW.nil ?_
        refine Ex.then_mk ?_
        refine AB.ret ?_
        refine Ex.then_ret_mk ?_
        obtain rfl := Option.some.inj hr
        exact done_ret (r1 := (eB true)) (res1 Try.results3 (rvT rfl)) (Ghost.rn [] rfl rfl (FLe.same rfl FLe.nil) HLe.nil rfl)
      · replace hr := iteF hr h3
        refine AB.skip ?_
        refine Ex.then_mk ?_
        refine AB.seq ?_
        replace hr := bnd hr; obtain ⟨x22, h_4, hr⟩ := hr
        refine AB.rw ?_
        refine wS (v := (.agg [(eI .u32 t_Version), (.row none 35 (t_Inputs.map E_api_Input)), (.row none 2 (t_Outputs.map E_api_Output)), (eI .u32 t_Lock)])) (sv (d_load rfl (ldP rfl (partN (ds := [(eI .u32 t_Version), (.row none 35 (t_Inputs.map E_api_Input)), (.row none 2 (t_Outputs.map E_api_Output)), (eI .u32 t_Lock)]) ti26 rfl (Nat.le_of_ble_eq_true rfl) rfl)))) ?_
        refine wS (v := (.row none 37 (l.map E_api_Coin))) (sv (d_move rfl)) ?_
        refine wC (v := (.tup [(eI .i64 x22.1), (eI .i64 x22.2)])) (h' := [some ⟨26, [(eI .u32 t_Version), (.row none 35 (t_Inputs.map E_api_Input)), (.row none 2 (t_Outputs.map E_api_Output)), (eI .u32 t_Lock)]⟩]) rfl (Vm.Fn.pure (spend_Fee_ok N t_Version t_Inputs t_Outputs t_Lock l x22 h_4) rfl rfl) ?_
        refine wS (v := (.tup [(eI .i64 x22.1), (eI .i64 x22.2)])) (sv (d_move rfl)) ?_
        refine wS (v := (eI .i64 x22.1)) (sv (d_ext rfl rfl)) ?_
        refine wS (v := (eI .i64 x22.2)) (sv (d_ext rfl rfl)) ?_
        refine wS (v := (eI .i64 x22.1)) (sv (d_assign rfl)) ?_
        refine wS (v := (eI .i64 x22.2)) (sv (d_assign rfl)) ?_
        refine OpsW.nil ?_
        refine Ex.then_mk ?_
        refine AB.seq ?_
        replace hr := bnd hr; obtain ⟨x28, h_5, hr⟩ := hr
        refine AB.rw ?_
        refine wS (v := (.agg [(eI .u32 t_Version), (.row none 35 (t_Inputs.map E_api_Input)), (.row none 2 (t_Outputs.map E_api_Output)), (eI .u32 t_Lock)])) (sv (d_load rfl (ldP rfl (partN (ds := [(eI .u32 t_Version), (.row none 35 (t_Inputs.map E_api_Input)), (.row none 2 (t_Outputs.map E_api_Output)), (eI .u32 t_Lock)]) ti26 rfl (Nat.le_of_ble_eq_true rfl) rfl)))) ?_
        refine wS (v := (.row none 37 (l.map E_api_Coin))) (sv (d_move rfl)) ?_
        refine wC (v := (.tup [(eI .i64 x28.1), (eI .i64 x28.2)])) (h' := [some ⟨26, [(eI .u32 t_Version), (.row none 35 (t_Inputs.map E_api_Input)), (.row none 2 (t_Outputs.map E_api_Output)), (eI .u32 t_Lock)]⟩]) rfl (Vm.Fn.pure (ref10_Fee_ok N t_Version t_Inputs t_Outputs t_Lock l x28 h_5) rfl rfl) ?_
        refine wS (v := (.tup [(eI .i64 x28.1), (eI .i64 x28.2)])) (sv (d_move rfl)) ?_
        refine wS (v := (eI .i64 x28.1)) (sv (d_ext rfl rfl)) ?_
        refine wS (v := (eI .i64 x28.2)) (sv (d_ext rfl rfl)) ?_
        refine wS (v := (eI .i64 x28.1)) (sv (d_assign rfl)) ?_
        refine wS (v := (eI .i64 x28.2)) (sv (d_assign rfl)) ?_
        refine OpsW.nil ?_
        refine Ex.then_mk ?_
        refine AB.seq_g fun K2 hK2 hG2 => ?_
        have J2 : ∀ (x4 : Bool), law10_SpendFees_J2 N x4 = some r → K2 (mkF 39 [(4, (eB x4))]) [] := by
          intro x4 hr
          unfold law10_SpendFees_J2 at hr
          refine hK2 _ _ ?_
          refine AB.ret ?_
          obtain rfl := Option.some.inj hr
          exact done_ret (r1 := (eB x4)) (res1 Try.results3 (rvT rfl)) (Ghost.rn [] rfl rfl (FLe.same rfl FLe.nil) HLe.nil rfl)
        rcases Bool.eq_false_or_eq_true (x22.1 == x28.1) with h6 | h6
        · replace hr := iteT hr h6
          refine AB.rw ?_
          refine wS (v := (eI .i64 x22.1)) (sv (d_move rfl)) ?_
          refine wS (v := (eI .i64 x28.1)) (sv (d_move rfl)) ?_
          refine wS (v := (eB (x22.1 == x28.1))) (sv (d_bin rfl rfl (bin_eql ..))) ?_
          refine wS (v := (eB (x22.1 == x28.1))) (sv (d_move rfl)) ?_
          refine wS (v := (eI .i64 x22.2)) (svG rfl rfl h6 (d_move rfl)) ?_
          refine wS (v := (eI .i64 x28.2)) (svG rfl rfl h6 (d_move rfl)) ?_
          refine wS (v := (eB (x22.2 == x28.2))) (svG rfl rfl h6 (d_bin rfl rfl (bin_eql ..))) ?_
          refine wS (v := (eB (x22.2 == x28.2))) (sv (d_pickT rfl h6 rfl)) ?_
          refine wS (v := (eB (x22.2 == x28.2))) (sv (d_assign rfl)) ?_
          refine OpsW.nil ?_
          refine Ex.then_mk ?_
          exact hG2 _ _ _ _ (Ghost.rn [] rfl rfl (FLe.same rfl FLe.nil) HLe.nil rfl) (J2 (x22.2 == x28.2) hr)
        · replace hr := iteF hr h6
          refine AB.rw ?_
          refine wS (v := (eI .i64 x22.1)) (sv (d_move rfl)) ?_
          refine wS (v := (eI .i64 x28.1)) (sv (d_move rfl)) ?_
          refine wS (v := (eB (x22.1 == x28.1))) (sv (d_bin rfl rfl (bin_eql ..))) ?_
          refine wS (v := (eB (x22.1 == x28.1))) (sv (d_move rfl)) ?_
          refine wS (svX rfl rfl h6) ?_
          refine wS (svX rfl rfl h6) ?_
          refine wS (svX rfl rfl h6) ?_
          refine wS (v := (eB false)) (sv (d_pickF rfl h6 rfl)) ?_
          refine wS (v := (eB false)) (sv (d_assign rfl)) ?_
          refine OpsW.nil ?_
          refine Ex.then_mk ?_
          exact hG2 _ _ _ _ (Ghost.rn [] rfl rfl (FLe.same rfl FLe.nil) HLe.nil rfl) (J2 false hr)
    replace hr := bnd hr; obtain ⟨x12, h_7, hr⟩ := hr
    rcases Bool.eq_false_or_eq_true (!x12) with h8 | h8
    · replace hr := iteT hr h8
      refine AB.rw ?_
      refine wS (v := (.agg [(eI .u32 t_Version), (.row none 35 (t_Inputs.map E_api_Input)), (.row none 2 (t_Outputs.map E_api_Output)), (eI .u32 t_Lock)])) (sv (d_load rfl (ldP rfl (partN (ds := [(eI .u32 t_Version), (.row none 35 (t_Inputs.map E_api_Input)), (.row none 2 (t_Outputs.map E_api_Output)), (eI .u32 t_Lock)]) ti26 rfl (Nat.le_of_ble_eq_true rfl) rfl)))) ?_
      refine wC (v := (eB x12)) (h' := [some ⟨26, [(eI .u32 t_Version), (.row none 35 (t_Inputs.map E_api_Input)), (.row none 2 (t_Outputs.map E_api_Output)), (eI .u32 t_Lock)]⟩]) rfl (Vm.Fn.pure (keep_Tx_ok N t_Version t_Inputs t_Outputs t_Lock x12 h_7) rfl rfl) ?_
      refine wS (v := (eB (!x12))) (sv (d_un rfl (un_not _ _))) ?_
      refine wS (v := (eB (!x12))) (sv (d_move rfl)) ?_
      refine wS (svX rfl rfl h8) ?_
      refine wS (svX rfl rfl h8) ?_
      refine wS (svX rfl rfl h8) ?_
      refine wS (v := (eB true)) (sv (d_pickT rfl h8 rfl)) ?_
      refine OpsW.nil ?_
      refine Ex.then_mk ?_
      exact hG1 _ _ _ _ (Ghost.rn [0] rfl rfl (FLe.same rfl (FLe.same rfl (FLe.same rfl FLe.nil))) (HLe.live rfl (V.les_refl _ _) rfl HLe.nil) rfl) (J1 true hr)
    · replace hr := iteF hr h8
      replace hr := bnd hr; obtain ⟨x16, h_9, hr⟩ := hr
      refine AB.rw ?_
      refine wS (v := (.agg [(eI .u32 t_Version), (.row none 35 (t_Inputs.map E_api_Input)), (.row none 2 (t_Outputs.map E_api_Output)), (eI .u32 t_Lock)])) (sv (d_load rfl (ldP rfl (partN (ds := [(eI .u32 t_Version), (.row none 35 (t_Inputs.map E_api_Input)), (.row none 2 (t_Outputs.map E_api_Output)), (eI .u32 t_Lock)]) ti26 rfl (Nat.le_of_ble_eq_true rfl) rfl)))) ?_
      refine wC (v := (eB x12)) (h' := [some ⟨26, [(eI .u32 t_Version), (.row none 35 (t_Inputs.map E_api_Input)), (.row none 2 (t_Outputs.map E_api_Output)), (eI .u32 t_Lock)]⟩]) rfl (Vm.Fn.pure (keep_Tx_ok N t_Version t_Inputs t_Outputs t_Lock x12 h_7) rfl rfl) ?_
      refine wS (v := (eB (!x12))) (sv (d_un rfl (un_not _ _))) ?_
      refine wS (v := (eB (!x12))) (sv (d_move rfl)) ?_
      refine wS (v := (.row none 37 (l.map E_api_Coin))) (svG rfl rfl h8 (d_move rfl)) ?_
      refine wCG (v := (eB x16)) (h' := [some ⟨26, [(eI .u32 t_Version), (.row none 35 (t_Inputs.map E_api_Input)), (.row none 2 (t_Outputs.map E_api_Output)), (eI .u32 t_Lock)]⟩]) rfl rfl h8 rfl (Vm.Fn.pure (keep_Coins_ok N l 70 x16 h_9) rfl rfl) ?_
      refine wS (v := (eB (!x16))) (svG rfl rfl h8 (d_un rfl (un_not _ _))) ?_
      refine wS (v := (eB (!x16))) (sv (d_pickF rfl h8 rfl)) ?_
      refine OpsW.nil ?_
      refine Ex.then_mk ?_
      exact hG1 _ _ _ _ (Ghost.rn [0] rfl rfl (FLe.same rfl (FLe.same rfl (FLe.same rfl FLe.nil))) (HLe.live rfl (V.les_refl _ _) rfl HLe.nil) rfl) (J1 (!x16) hr)
end Go.Proofs.Ytbjiaiobpbpjoaa
