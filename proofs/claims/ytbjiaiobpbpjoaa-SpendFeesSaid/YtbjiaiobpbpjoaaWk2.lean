/- Walks printed by a program of ours (gen.py): each Go function of the list does what its shallow function says. -/
import Derived.Test.YtbjiaiobpbpjoaaWk1
set_option linter.unusedVariables false
set_option linter.unusedSimpArgs false
namespace Go.Proofs.Ytbjiaiobpbpjoaa
open Go Go.Vm
set_option maxRecDepth 20000 in
set_option maxHeartbeats 1000000 in
theorem keep_Tx_ok (N : Nat) (t_Version : Int) (t_Inputs : List S_api_Input) (t_Outputs : List S_api_Output) (t_Lock : Int) (r : Bool) (hr : keep_Tx N t_Version t_Inputs t_Outputs t_Lock = some r) :
    Vm.Fn Try.prog 5 [] [(.agg [(eI .u32 t_Version), (.row none 35 (t_Inputs.map E_api_Input)), (.row none 2 (t_Outputs.map E_api_Output)), (eI .u32 t_Lock)])] (eB r) [] := by
  refine fn_ab Try.func5 rfl (by kernel_rfl) Try.ntmps5 (Nat.le_of_ble_eq_true rfl) rfl (fr := [(0, (.agg [(eI .u32 t_Version), (.row none 35 (t_Inputs.map E_api_Input)), (.row none 2 (t_Outputs.map E_api_Output)), (eI .u32 t_Lock)]))]) rfl ?_
  unfold keep_Tx at hr
  refine AB.seq ?_
  refine AB.rw ?_
  refine wS (v := (.ptr 0 0)) (h' := [some ⟨26, [(eI .u32 t_Version), (.row none 35 (t_Inputs.map E_api_Input)), (.row none 2 (t_Outputs.map E_api_Output)), (eI .u32 t_Lock)]⟩]) (sv (d_box rfl rfl rfl rfl)) ?_
  refine wS (v := (eB false)) (sv (d_assign rfl)) ?_
  refine OpsW.nil ?_
  refine Ex.then_mk ?_
  refine AB.seq ?_
  refine AB.seq_g fun K1 hK1 hG1 => ?_
  have J1 : ∀ (x16 : Bool), keep_Tx_J1 N t_Version t_Inputs t_Outputs t_Lock x16 = some r → K1 (mkF 41 [(1, (.ptr 0 0)), (16, (eB x16))]) [some ⟨26, [(eI .u32 t_Version), (.row none 35 (t_Inputs.map E_api_Input)), (.row none 2 (t_Outputs.map E_api_Output)), (eI .u32 t_Lock)]⟩] := by
    intro x16 hr
    unfold keep_Tx_J1 at hr
    refine hK1 _ _ ?_
    refine AB.cnd rfl (fun h1 => ?_) (fun h1 => ?_)
    · replace hr := iteT hr h1
      refine AB.seq ?_
      refine AB.rw ?_
      refine wS (v := (eB false)) (sv (d_assign rfl)) ?_
      refine OpsW.nil ?_
      refine Ex.then_mk ?_
      refine AB.ret ?_
      refine Ex.then_ret_mk ?_
      obtain rfl := Option.some.inj hr
      exact done_ret (r1 := (eB false)) (res1 Try.results5 (rvT rfl)) (Ghost.rn [] rfl rfl (FLe.same rfl FLe.nil) HLe.nil rfl)
    · replace hr := iteF hr h1
      refine AB.skip ?_
      refine Ex.then_mk ?_
      refine AB.seq_g fun K2 hK2 hG2 => ?_
      have J2 : keep_Tx_J2 N t_Version t_Inputs t_Outputs t_Lock = some r → K2 (mkF 41 [(1, (.ptr 0 0))]) [some ⟨26, [(eI .u32 t_Version), (.row none 35 (t_Inputs.map E_api_Input)), (.row none 2 (t_Outputs.map E_api_Output)), (eI .u32 t_Lock)]⟩] := by
        intro hr
        unfold keep_Tx_J2 at hr
        refine hK2 _ _ ?_
        refine AB.seq_g fun K3 hK3 hG3 => ?_
        have J3 : keep_Tx_J3 N = some r → K3 (mkF 41 []) [] := by
          intro hr
          unfold keep_Tx_J3 at hr
          refine hK3 _ _ ?_
          refine AB.seq ?_
          refine AB.rw ?_
          refine wS (v := (eB true)) (sv (d_assign rfl)) ?_
          refine OpsW.nil ?_
          refine Ex.then_mk ?_
          refine AB.ret ?_
          obtain rfl := Option.some.inj hr
          exact done_ret (r1 := (eB true)) (res1 Try.results5 (rvT rfl)) (Ghost.rn [] rfl rfl (FLe.same rfl FLe.nil) HLe.nil rfl)
        refine AB.seq ?_
        refine AB.rw ?_
        refine wS (v := (.ptr 0 2)) (sv (d_fa rfl (fap26_2 ..))) ?_
        refine wS (v := (.row none 2 (t_Outputs.map E_api_Output))) (sv (d_load rfl (ldP rfl (part1 ti24 rfl rfl)))) ?_
        refine wS (v := (eI .i64 (t_Outputs.length : Int))) (sv (d_len rfl (lenR ti24))) ?_
        refine wS (v := (eI .i64 0)) (sv (d_move rfl)) ?_
        refine OpsW.nil ?_
        refine Ex.then_mk ?_
        replace hr := bnd hr; obtain ⟨res4, hL4, hr⟩ := hr
        refine AB.block ?_
        refine AB.loopN (fun m s h => ∃ (x32 : Int), keep_Tx_L4 N t_Outputs m x32 = some res4 ∧ Ghost 0 s h (mkF 41 [(30, (.row none 2 (t_Outputs.map E_api_Output))), (31, (eI .i64 (t_Outputs.length : Int))), (32, (eI .i64 x32))]) []) (n := N) ⟨0, hL4, (Ghost.rn [] rfl rfl (FLe.same rfl (FLe.same rfl (FLe.same rfl FLe.nil))) HLe.nil rfl)⟩ (by rintro s h ⟨_, h0, _⟩; simp [keep_Tx_L4] at h0) ?_
        rintro m4 s h ⟨x32, hr4, hg⟩
        refine AB.ghost hg ?_
        clear hg hL4
        rw [keep_Tx_L4] at hr4
        refine AB.seq ?_
        refine AB.rw ?_
        refine wS (v := (eB (decide (x32 < (t_Outputs.length : Int))))) (sv (d_bin rfl rfl (bin_lss ..))) ?_
        refine OpsW.nil ?_
        refine Ex.then_mk ?_
        refine AB.seq ?_
        refine AB.cnd rfl (fun h2 => ?_) (fun h2 => ?_)
        · replace hr4 := iteT hr4 h2
          refine AB.skip ?_
          refine Ex.then_mk ?_
          refine AB.seq ?_
          refine AB.block ?_
          refine AB.seq ?_
          replace hr4 := bnd hr4; obtain ⟨x34, h_3, hr4⟩ := hr4
          refine AB.rw ?_
          refine wS (sv (d_ia rfl rfl (iaR ti24 ti44 h_3))) ?_
          refine wS (v := (.agg [(eI .i64 x34.Value), (.row none 1 (x34.Script.map (eI .u8)))])) (sv (d_load rfl (ldR h_3 (partN (ds := [(eI .i64 x34.Value), (.row none 1 (x34.Script.map (eI .u8)))]) ti44 rfl (Nat.le_of_ble_eq_true rfl) rfl)))) ?_
          refine wS (v := (.ptr 0 0)) (h' := [some ⟨44, [(eI .i64 0), (.row (some true) 1 [])]⟩]) (sv (d_alloc ti44 rfl rfl rfl)) ?_
          refine wN (h' := [some ⟨44, [(eI .i64 x34.Value), (.row none 1 (x34.Script.map (eI .u8)))]⟩]) (sv (d_store rfl rfl (stP ti44 rfl rfl rfl (Nat.le_of_ble_eq_true rfl) rfl))) ?_
          refine OpsW.nil ?_
          refine Ex.then_mk ?_
          refine AB.seq ?_
          refine AB.rw ?_
          refine wS (v := (.ptr 0 1)) (sv (d_fa rfl (fap44_1 ..))) ?_
          refine wS (v := (.row none 1 (x34.Script.map (eI .u8)))) (sv (d_load rfl (ldP rfl (part1 ti42 rfl rfl)))) ?_
          refine wS (v := (eI .i64 (x34.Script.length : Int))) (sv (d_len rfl (lenR ti42))) ?_
          refine wS (v := (eB (decide (600 < (x34.Script.length : Int))))) (sv (d_bin rfl rfl (bin_gtr ..))) ?_
          refine OpsW.nil ?_
          refine Ex.then_mk ?_
          refine AB.cnd rfl (fun h4 => ?_) (fun h4 => ?_)
          · replace hr4 := iteT hr4 h4
            refine AB.seq ?_
            refine AB.rw ?_
            refine wS (v := (eB false)) (sv (d_assign rfl)) ?_
            refine OpsW.nil ?_
            refine Ex.then_mk ?_
            refine AB.ret ?_
            refine Ex.inBlock_ret_mk ?_
            refine Ex.then_ret_mk ?_
            refine Ex.then_ret_mk ?_
            refine Ex.inBlock_ret_mk ?_
            refine Ex.then_ret_mk ?_
            obtain rfl := Option.some.inj hr4
            obtain rfl := Option.some.inj hr
            exact done_ret (r1 := (eB false)) (res1 Try.results5 (rvT rfl)) (Ghost.rn [] rfl rfl (FLe.same rfl FLe.nil) HLe.nil rfl)
          · replace hr4 := iteF hr4 h4
            refine AB.skip ?_
            refine Ex.inBlock_mk ?_
            refine Ex.then_mk ?_
            refine AB.rw ?_
            refine wS (v := (eI .i64 (IntKind.i64.wrap (x32 + 1)))) (sv (d_bin rfl rfl (bin_add ..))) ?_
            refine wS (v := (eI .i64 (IntKind.i64.wrap (x32 + 1)))) (sv (d_move rfl)) ?_
            refine OpsW.nil ?_
            refine Ex.then_mk ?_
            exact ⟨IntKind.i64.wrap (x32 + 1), hr4, (Ghost.rn [] rfl rfl (FLe.same rfl (FLe.same rfl (FLe.same rfl FLe.nil))) HLe.nil rfl)⟩
        · replace hr4 := iteF hr4 h2
          refine AB.exit ?_
          refine Ex.then_exit_mk ?_
          refine Ex.then_exit_mk ?_
          refine Ex.inBlock_same_mk ?_
          obtain rfl := Option.some.inj hr4
          refine Ex.then_mk ?_
          exact hG3 _ _ _ _ (Ghost.rn [] rfl rfl FLe.nil HLe.nil rfl) (J3 hr)
      refine AB.seq ?_
      refine AB.rw ?_
      refine wS (v := (.ptr 0 1)) (sv (d_fa rfl (fap26_1 ..))) ?_
      refine wS (v := (.row none 35 (t_Inputs.map E_api_Input))) (sv (d_load rfl (ldP rfl (part1 ti23 rfl rfl)))) ?_
      refine wS (v := (eI .i64 (t_Inputs.length : Int))) (sv (d_len rfl (lenR ti23))) ?_
      refine wS (v := (eI .i64 0)) (sv (d_move rfl)) ?_
      refine OpsW.nil ?_
      refine Ex.then_mk ?_
      replace hr := bnd hr; obtain ⟨res5, hL5, hr⟩ := hr
      refine AB.block ?_
      refine AB.loopN (fun m s h => ∃ (x20 : Int), keep_Tx_L5 N t_Version t_Inputs t_Outputs t_Lock m x20 = some res5 ∧ Ghost 0 s h (mkF 41 [(1, (.ptr 0 0)), (18, (.row none 35 (t_Inputs.map E_api_Input))), (19, (eI .i64 (t_Inputs.length : Int))), (20, (eI .i64 x20))]) [some ⟨26, [(eI .u32 t_Version), (.row none 35 (t_Inputs.map E_api_Input)), (.row none 2 (t_Outputs.map E_api_Output)), (eI .u32 t_Lock)]⟩]) (n := N) ⟨0, hL5, (Ghost.rn [0] rfl rfl (FLe.same rfl (FLe.same rfl (FLe.same rfl (FLe.same rfl FLe.nil)))) (HLe.live rfl (V.les_refl _ _) rfl HLe.nil) rfl)⟩ (by rintro s h ⟨_, h0, _⟩; simp [keep_Tx_L5] at h0) ?_
      rintro m5 s h ⟨x20, hr5, hg⟩
      refine AB.ghost hg ?_
      clear hg hL5
      rw [keep_Tx_L5] at hr5
      refine AB.seq ?_
      refine AB.rw ?_
      refine wS (v := (eB (decide (x20 < (t_Inputs.length : Int))))) (sv (d_bin rfl rfl (bin_lss ..))) ?_
      refine OpsW.nil ?_
      refine Ex.then_mk ?_
      refine AB.seq ?_
      refine AB.cnd rfl (fun h5 => ?_) (fun h5 => ?_)
      · replace hr5 := iteT hr5 h5
        refine AB.skip ?_
        refine Ex.then_mk ?_
        refine AB.seq ?_
        refine AB.block ?_
        refine AB.seq ?_
        replace hr5 := bnd hr5; obtain ⟨x22, h_6, hr5⟩ := hr5
        refine AB.rw ?_
        refine wS (sv (d_ia rfl rfl (iaR ti23 ti41 h_6))) ?_
        refine wS (v := (E_api_Input x22)) (sv (d_load rfl (ldR h_6 (partN (ds := (ar32 (eI .u8) x22.Prev.Tx [(eI .u32 x22.Prev.Index), (eI .u32 x22.Sequence), (.row none 1 (x22.Witness.map (eL 1 (eI .u8))))])) ti41 rfl (Nat.le_of_ble_eq_true rfl) rfl)))) ?_
        refine wS (v := (.ptr 1 0)) (h' := [some ⟨26, [(eI .u32 t_Version), (.row none 35 (t_Inputs.map E_api_Input)), (.row none 2 (t_Outputs.map E_api_Output)), (eI .u32 t_Lock)]⟩, some ⟨41, (ar32 (eI .u8) (List.replicate 32 0) [(eI .u32 0), (eI .u32 0), (.row (some true) 1 [])])⟩]) (sv (d_alloc ti41 rfl rfl rfl)) ?_
        refine wN (h' := [some ⟨26, [(eI .u32 t_Version), (.row none 35 (t_Inputs.map E_api_Input)), (.row none 2 (t_Outputs.map E_api_Output)), (eI .u32 t_Lock)]⟩, some ⟨41, C_api_Input x22⟩]) (sv (d_store rfl rfl (stP ti41 rfl rfl rfl (Nat.le_of_ble_eq_true rfl) rfl))) ?_
        refine OpsW.nil ?_
        refine Ex.then_mk ?_
        refine AB.seq ?_
        replace hr5 := bnd hr5; obtain ⟨x26, h_7, hr5⟩ := hr5
        refine AB.rw ?_
        refine wS (v := (.ptr 1 34)) (sv (d_fa rfl (fap41_2 ..))) ?_
        refine wS (v := (.row none 1 (x22.Witness.map (eL 1 (eI .u8))))) (sv (d_load rfl (ldP rfl (part1 ti39 rfl rfl)))) ?_
        refine wC (v := (eB x26)) (h' := [some ⟨26, [(eI .u32 t_Version), (.row none 35 (t_Inputs.map E_api_Input)), (.row none 2 (t_Outputs.map E_api_Output)), (eI .u32 t_Lock)]⟩, some ⟨41, C_api_Input x22⟩]) rfl (Vm.Fn.pure (keep_Items_ok N x22.Witness 40 600 x26 h_7) rfl rfl) ?_
        refine wS (v := (eB (!x26))) (sv (d_un rfl (un_not _ _))) ?_
        refine OpsW.nil ?_
        refine Ex.then_mk ?_
        refine AB.cnd rfl (fun h8 => ?_) (fun h8 => ?_)
        · replace hr5 := iteT hr5 h8
          refine AB.seq ?_
          refine AB.rw ?_
          refine wS (v := (eB false)) (sv (d_assign rfl)) ?_
          refine OpsW.nil ?_
          refine Ex.then_mk ?_
          refine AB.ret ?_
          refine Ex.inBlock_ret_mk ?_
          refine Ex.then_ret_mk ?_
          refine Ex.then_ret_mk ?_
          refine Ex.inBlock_ret_mk ?_
          refine Ex.then_ret_mk ?_
          obtain rfl := Option.some.inj hr5
          obtain rfl := Option.some.inj hr
          exact done_ret (r1 := (eB false)) (res1 Try.results5 (rvT rfl)) (Ghost.rn [] rfl rfl (FLe.same rfl FLe.nil) HLe.nil rfl)
        · replace hr5 := iteF hr5 h8
          refine AB.skip ?_
          refine Ex.inBlock_mk ?_
          refine Ex.then_mk ?_
          refine AB.rw ?_
          refine wS (v := (eI .i64 (IntKind.i64.wrap (x20 + 1)))) (sv (d_bin rfl rfl (bin_add ..))) ?_
          refine wS (v := (eI .i64 (IntKind.i64.wrap (x20 + 1)))) (sv (d_move rfl)) ?_
          refine OpsW.nil ?_
          refine Ex.then_mk ?_
          exact ⟨IntKind.i64.wrap (x20 + 1), hr5, (Ghost.rn [0] rfl rfl (FLe.same rfl (FLe.same rfl (FLe.same rfl (FLe.same rfl FLe.nil)))) (HLe.live rfl (V.les_refl _ _) rfl HLe.nil) rfl)⟩
      · replace hr5 := iteF hr5 h5
        refine AB.exit ?_
        refine Ex.then_exit_mk ?_
        refine Ex.then_exit_mk ?_
        refine Ex.inBlock_same_mk ?_
        obtain rfl := Option.some.inj hr5
        refine Ex.then_mk ?_
        exact hG2 _ _ _ _ (Ghost.rn [0] rfl rfl (FLe.same rfl FLe.nil) (HLe.live rfl (V.les_refl _ _) rfl HLe.nil) rfl) (J2 hr)
  rcases Bool.eq_false_or_eq_true (decide (70 < (t_Inputs.length : Int))) with h9 | h9
  · replace hr := iteT hr h9
    refine AB.rw ?_
    refine wS (v := (.ptr 0 1)) (sv (d_fa rfl (fap26_1 ..))) ?_
    refine wS (v := (.row none 35 (t_Inputs.map E_api_Input))) (sv (d_load rfl (ldP rfl (part1 ti23 rfl rfl)))) ?_
    refine wS (v := (eI .i64 (t_Inputs.length : Int))) (sv (d_len rfl (lenR ti23))) ?_
    refine wS (v := (eB (decide (70 < (t_Inputs.length : Int))))) (sv (d_bin rfl rfl (bin_gtr ..))) ?_
    refine wS (v := (eB (decide (70 < (t_Inputs.length : Int))))) (sv (d_move rfl)) ?_
    refine wS (svX rfl rfl h9) ?_
    refine wS (svX rfl rfl h9) ?_
    refine wS (svX rfl rfl h9) ?_
    refine wS (svX rfl rfl h9) ?_
    refine wS (v := (eB true)) (sv (d_pickT rfl h9 rfl)) ?_
    refine OpsW.nil ?_
    refine Ex.then_mk ?_
    exact hG1 _ _ _ _ (Ghost.rn [0] rfl rfl (FLe.same rfl (FLe.same rfl FLe.nil)) (HLe.live rfl (V.les_refl _ _) rfl HLe.nil) rfl) (J1 true hr)
  · replace hr := iteF hr h9
    refine AB.rw ?_
    refine wS (v := (.ptr 0 1)) (sv (d_fa rfl (fap26_1 ..))) ?_
    refine wS (v := (.row none 35 (t_Inputs.map E_api_Input))) (sv (d_load rfl (ldP rfl (part1 ti23 rfl rfl)))) ?_
    refine wS (v := (eI .i64 (t_Inputs.length : Int))) (sv (d_len rfl (lenR ti23))) ?_
    refine wS (v := (eB (decide (70 < (t_Inputs.length : Int))))) (sv (d_bin rfl rfl (bin_gtr ..))) ?_
    refine wS (v := (eB (decide (70 < (t_Inputs.length : Int))))) (sv (d_move rfl)) ?_
    refine wS (v := (.ptr 0 2)) (svG rfl rfl h9 (d_fa rfl (fap26_2 ..))) ?_
    refine wS (v := (.row none 2 (t_Outputs.map E_api_Output))) (svG rfl rfl h9 (d_load rfl (ldP rfl (part1 ti24 rfl rfl)))) ?_
    refine wS (v := (eI .i64 (t_Outputs.length : Int))) (svG rfl rfl h9 (d_len rfl (lenR ti24))) ?_
    refine wS (v := (eB (decide (70 < (t_Outputs.length : Int))))) (svG rfl rfl h9 (d_bin rfl rfl (bin_gtr ..))) ?_
    refine wS (v := (eB (decide (70 < (t_Outputs.length : Int))))) (sv (d_pickF rfl h9 rfl)) ?_
    refine OpsW.nil ?_
    refine Ex.then_mk ?_
    exact hG1 _ _ _ _ (Ghost.rn [0] rfl rfl (FLe.same rfl (FLe.same rfl FLe.nil)) (HLe.live rfl (V.les_refl _ _) rfl HLe.nil) rfl) (J1 (decide (70 < (t_Outputs.length : Int))) hr)
set_option maxRecDepth 20000 in
set_option maxHeartbeats 1000000 in
theorem keep_Coins_ok (N : Nat) (l : List S_api_Coin) (vn : Int) (r : Bool) (hr : keep_Coins N l vn = some r) :
    Vm.Fn Try.prog 6 [] [(.row none 37 (l.map E_api_Coin)), (eI .i64 vn)] (eB r) [] := by
  refine fn_ab Try.func6 rfl (by kernel_rfl) Try.ntmps6 (Nat.le_of_ble_eq_true rfl) rfl (fr := [(0, (.row none 37 (l.map E_api_Coin))), (1, (eI .i64 vn))]) rfl ?_
  unfold keep_Coins at hr
  refine AB.seq ?_
  refine AB.rw ?_
  refine wS (v := (eB false)) (sv (d_assign rfl)) ?_
  refine OpsW.nil ?_
  refine Ex.then_mk ?_
  refine AB.seq ?_
  refine AB.seq ?_
  refine AB.rw ?_
  refine wS (v := (.row none 37 (l.map E_api_Coin))) (sv (d_move rfl)) ?_
  refine wS (v := (eI .i64 (l.length : Int))) (sv (d_len rfl (lenR ti27))) ?_
  refine wS (v := (eI .i64 vn)) (sv (d_move rfl)) ?_
  refine wS (v := (eB (decide (vn < (l.length : Int))))) (sv (d_bin rfl rfl (bin_gtr ..))) ?_
  refine OpsW.nil ?_
  refine Ex.then_mk ?_
  refine AB.cnd rfl (fun h1 => ?_) (fun h1 => ?_)
  · replace hr := iteT hr h1
    refine AB.seq ?_
    refine AB.rw ?_
    refine wS (v := (eB false)) (sv (d_assign rfl)) ?_
    refine OpsW.nil ?_
    refine Ex.then_mk ?_
    refine AB.ret ?_
    refine Ex.then_ret_mk ?_
    obtain rfl := Option.some.inj hr
    exact done_ret (r1 := (eB false)) (res1 Try.results6 (rvT rfl)) (Ghost.rn [] rfl rfl (FLe.same rfl FLe.nil) HLe.nil rfl)
  · replace hr := iteF hr h1
    refine AB.skip ?_
    refine Ex.then_mk ?_
    refine AB.seq_g fun K1 hK1 hG1 => ?_
    have J1 : keep_Coins_J1 N = some r → K1 (mkF 23 []) [] := by
      intro hr
      unfold keep_Coins_J1 at hr
      refine hK1 _ _ ?_
      refine AB.seq ?_
      refine AB.rw ?_
      refine wS (v := (eB true)) (sv (d_assign rfl)) ?_
      refine OpsW.nil ?_
      refine Ex.then_mk ?_
      refine AB.ret ?_
      obtain rfl := Option.some.inj hr
      exact done_ret (r1 := (eB true)) (res1 Try.results6 (rvT rfl)) (Ghost.rn [] rfl rfl (FLe.same rfl FLe.nil) HLe.nil rfl)
    refine AB.seq ?_
    refine AB.rw ?_
    refine wS (v := (.row none 37 (l.map E_api_Coin))) (sv (d_move rfl)) ?_
    refine wS (v := (eI .i64 (l.length : Int))) (sv (d_len rfl (lenR ti27))) ?_
    refine wS (v := (eI .i64 0)) (sv (d_move rfl)) ?_
    refine OpsW.nil ?_
    refine Ex.then_mk ?_
    replace hr := bnd hr; obtain ⟨res2, hL2, hr⟩ := hr
    refine AB.block ?_
    refine AB.loopN (fun m s h => ∃ (x13 : Int), keep_Coins_L2 N l m x13 = some res2 ∧ Ghost 0 s h (mkF 23 [(11, (.row none 37 (l.map E_api_Coin))), (12, (eI .i64 (l.length : Int))), (13, (eI .i64 x13))]) []) (n := N) ⟨0, hL2, (Ghost.rn [] rfl rfl (FLe.same rfl (FLe.same rfl (FLe.same rfl FLe.nil))) HLe.nil rfl)⟩ (by rintro s h ⟨_, h0, _⟩; simp [keep_Coins_L2] at h0) ?_
    rintro m2 s h ⟨x13, hr2, hg⟩
    refine AB.ghost hg ?_
    clear hg hL2
    rw [keep_Coins_L2] at hr2
    refine AB.seq ?_
    refine AB.rw ?_
    refine wS (v := (eB (decide (x13 < (l.length : Int))))) (sv (d_bin rfl rfl (bin_lss ..))) ?_
    refine OpsW.nil ?_
    refine Ex.then_mk ?_
    refine AB.seq ?_
    refine AB.cnd rfl (fun h2 => ?_) (fun h2 => ?_)
    · replace hr2 := iteT hr2 h2
      refine AB.skip ?_
      refine Ex.then_mk ?_
      refine AB.seq ?_
      refine AB.block ?_
      refine AB.seq ?_
      replace hr2 := bnd hr2; obtain ⟨x15, h_3, hr2⟩ := hr2
      refine AB.rw ?_
      refine wS (sv (d_ia rfl rfl (iaR ti27 ti46 h_3))) ?_
      refine wS (v := (E_api_Coin x15)) (sv (d_load rfl (ldR h_3 (partN (ds := (ar32 (eI .u8) x15.Out.Tx [(eI .u32 x15.Out.Index), (eI .i64 x15.Output.Value), (.row none 1 (x15.Output.Script.map (eI .u8))), (eI .i64 x15.Height), (eB x15.Coinbase)])) ti46 rfl (Nat.le_of_ble_eq_true rfl) rfl)))) ?_
      refine wS (v := (.ptr 0 0)) (h' := [some ⟨46, (ar32 (eI .u8) (List.replicate 32 0) [(eI .u32 0), (eI .i64 0), (.row (some true) 1 []), (eI .i64 0), (eB false)])⟩]) (sv (d_alloc ti46 rfl rfl rfl)) ?_
      refine wN (h' := [some ⟨46, C_api_Coin x15⟩]) (sv (d_store rfl rfl (stP ti46 rfl rfl rfl (Nat.le_of_ble_eq_true rfl) rfl))) ?_
      refine OpsW.nil ?_
      refine Ex.then_mk ?_
      refine AB.seq ?_
      refine AB.rw ?_
      refine wS (v := (.ptr 0 33)) (sv (d_fa rfl (fap46_1 ..))) ?_
      refine wS (v := (.ptr 0 34)) (sv (d_fa rfl (fap44_1 ..))) ?_
      refine wS (v := (.row none 1 (x15.Output.Script.map (eI .u8)))) (sv (d_load rfl (ldP rfl (part1 ti42 rfl rfl)))) ?_
      refine wS (v := (eI .i64 (x15.Output.Script.length : Int))) (sv (d_len rfl (lenR ti42))) ?_
      refine wS (v := (eB (decide (600 < (x15.Output.Script.length : Int))))) (sv (d_bin rfl rfl (bin_gtr ..))) ?_
      refine OpsW.nil ?_
      refine Ex.then_mk ?_
      refine AB.cnd rfl (fun h4 => ?_) (fun h4 => ?_)
      · replace hr2 := iteT hr2 h4
        refine AB.seq ?_
        refine AB.rw ?_
        refine wS (v := (eB false)) (sv (d_assign rfl)) ?_
        refine OpsW.nil ?_
        refine Ex.then_mk ?_
        refine AB.ret ?_
        refine Ex.inBlock_ret_mk ?_
        refine Ex.then_ret_mk ?_
        refine Ex.then_ret_mk ?_
        refine Ex.inBlock_ret_mk ?_
        refine Ex.then_ret_mk ?_
        obtain rfl := Option.some.inj hr2
        obtain rfl := Option.some.inj hr
        exact done_ret (r1 := (eB false)) (res1 Try.results6 (rvT rfl)) (Ghost.rn [] rfl rfl (FLe.same rfl FLe.nil) HLe.nil rfl)
      · replace hr2 := iteF hr2 h4
        refine AB.skip ?_
        refine Ex.inBlock_mk ?_
        refine Ex.then_mk ?_
        refine AB.rw ?_
        refine wS (v := (eI .i64 (IntKind.i64.wrap (x13 + 1)))) (sv (d_bin rfl rfl (bin_add ..))) ?_
        refine wS (v := (eI .i64 (IntKind.i64.wrap (x13 + 1)))) (sv (d_move rfl)) ?_
        refine OpsW.nil ?_
        refine Ex.then_mk ?_
        exact ⟨IntKind.i64.wrap (x13 + 1), hr2, (Ghost.rn [] rfl rfl (FLe.same rfl (FLe.same rfl (FLe.same rfl FLe.nil))) HLe.nil rfl)⟩
    · replace hr2 := iteF hr2 h2
      refine AB.exit ?_
      refine Ex.then_exit_mk ?_
      refine Ex.then_exit_mk ?_
      refine Ex.inBlock_same_mk ?_
      obtain rfl := Option.some.inj hr2
      refine Ex.then_mk ?_
      exact hG1 _ _ _ _ (Ghost.rn [] rfl rfl FLe.nil HLe.nil rfl) (J1 hr)
set_option maxRecDepth 20000 in
set_option maxHeartbeats 1000000 in
theorem ref01_little_ok (N : Nat) (v : Int) (vn : Int) (r : (List Int)) (hr : ref01_little N v vn = some r) :
    Vm.Fn Try.prog 37 [] [(eI .u64 v), (eI .i64 vn)] (.sl 0 0 r.length 1 false) [some ⟨5, r.map (eI .u8)⟩] := by
  refine fn_ab Try.func37 rfl (by kernel_rfl) Try.ntmps37 (Nat.le_of_ble_eq_true rfl) rfl (fr := [(0, (eI .u64 v)), (1, (eI .i64 vn))]) rfl ?_
  unfold ref01_little at hr
  refine AB.seq ?_
  refine AB.rw ?_
  refine wS (v := (.row (some true) 1 [])) (sv (d_assign rfl)) ?_
  refine OpsW.nil ?_
  refine Ex.then_mk ?_
  refine AB.seq ?_
  replace hr := bnd hr; obtain ⟨x8, h_1, hr⟩ := hr
  refine AB.rw ?_
  refine wS (v := (eI .i64 vn)) (sv (d_move rfl)) ?_
  refine wS (v := (.sl 0 0 x8.length 1 false)) (h' := [some ⟨5, x8.map (eI .u8)⟩]) (sv (d_mk rfl rfl (mkS (E := (eI .u8)) (y := 0) ti42 ti5 ⟨Nat.le_of_ble_eq_true rfl, rfl, rfl⟩ rfl rfl rfl h_1 rfl rfl))) ?_
  refine wS (v := (.sl 0 0 x8.length 1 false)) (sv (d_assign rfl)) ?_
  refine OpsW.nil ?_
  refine Ex.then_mk ?_
  refine AB.seq_g fun K1 hK1 hG1 => ?_
  have J1 : ∀ (l0 : List Int), ref01_little_J1 N l0 = some r → K1 (mkF 24 [(5, (.sl 0 0 l0.length 1 false))]) [some ⟨5, l0.map (eI .u8)⟩] := by
    intro l0 hr
    unfold ref01_little_J1 at hr
    refine hK1 _ _ ?_
    refine AB.seq ?_
    refine AB.rw ?_
    refine wS (v := (.sl 0 0 l0.length 1 false)) (sv (d_move rfl)) ?_
    refine wS (v := (.sl 0 0 l0.length 1 false)) (sv (d_assign rfl)) ?_
    refine OpsW.nil ?_
    refine Ex.then_mk ?_
    refine AB.ret ?_
    obtain rfl := Option.some.inj hr
    exact done_ret (r1 := (.sl 0 0 l0.length 1 false)) (res1 Try.results37 (rvT rfl)) (Ghost.rn [0] rfl rfl (FLe.same rfl FLe.nil) (HLe.live rfl (les_map (fun _ => rfl) _) (all_map (fun _ => rfl) _) HLe.nil) rfl)
  refine AB.seq ?_
  refine AB.rw ?_
  refine wS (v := (.sl 0 0 x8.length 1 false)) (sv (d_move rfl)) ?_
  refine wS (v := (eI .i64 (x8.length : Int))) (sv (d_len rfl (lenS ti42))) ?_
  refine wS (v := (eI .i64 0)) (sv (d_move rfl)) ?_
  refine OpsW.nil ?_
  refine Ex.then_mk ?_
  replace hr := bnd hr; obtain ⟨res2, hL2, hr⟩ := hr
  refine AB.block ?_
  refine AB.loopN (fun m s h => ∃ (x11 : Int) (l0_1 : List Int), ref01_little_L2 N v x8 m x11 l0_1 = some res2 ∧ Ghost 0 s h (mkF 24 [(0, (eI .u64 v)), (5, (.sl 0 0 l0_1.length 1 false)), (10, (eI .i64 (x8.length : Int))), (11, (eI .i64 x11))]) [some ⟨5, l0_1.map (eI .u8)⟩]) (n := N) ⟨0, x8, hL2, (Ghost.rn [0] rfl rfl (FLe.same rfl (FLe.same rfl (FLe.same rfl (FLe.same rfl FLe.nil)))) (HLe.live rfl (les_map (fun _ => rfl) _) (all_map (fun _ => rfl) _) HLe.nil) rfl)⟩ (by rintro s h ⟨_, _, h0, _⟩; simp [ref01_little_L2] at h0) ?_
  rintro m2 s h ⟨x11, l0_1, hr2, hg⟩
  refine AB.ghost hg ?_
  clear hg hL2
  rw [ref01_little_L2] at hr2
  refine AB.seq ?_
  refine AB.rw ?_
  refine wS (v := (eB (decide (x11 < (x8.length : Int))))) (sv (d_bin rfl rfl (bin_lss ..))) ?_
  refine OpsW.nil ?_
  refine Ex.then_mk ?_
  refine AB.seq ?_
  refine AB.cnd rfl (fun h2 => ?_) (fun h2 => ?_)
  · replace hr2 := iteT hr2 h2
    refine AB.skip ?_
    refine Ex.then_mk ?_
    refine AB.seq ?_
    refine AB.block ?_
    refine AB.seq ?_
    refine AB.rw ?_
    refine wS (v := (eI .i64 x11)) (sv (d_move rfl)) ?_
    refine wS (v := (eI .i64 x11)) (sv (d_assign rfl)) ?_
    refine OpsW.nil ?_
    refine Ex.then_mk ?_
    replace hr2 := bnd hr2; obtain ⟨x19, h_3, hr2⟩ := hr2
    replace hr2 := bnd hr2; obtain ⟨x21, h_4, hr2⟩ := hr2
    refine AB.rw ?_
    refine wS (v := (.sl 0 0 l0_1.length 1 false)) (sv (d_move rfl)) ?_
    refine wS (v := (eI .i64 x11)) (sv (d_move rfl)) ?_
    refine wS (v := (eI .u64 v)) (sv (d_move rfl)) ?_
    refine wS (v := (eI .i64 x11)) (sv (d_move rfl)) ?_
    refine wS (v := (eI .i64 (IntKind.i64.wrap (8 * x11)))) (sv (d_bin rfl rfl (bin_mul ..))) ?_
    refine wS (v := (eI .u64 x19)) (sv (d_bin rfl rfl (bin_shr' _ _ _ _ h_3))) ?_
    refine wS (v := (eI .u8 (IntKind.u8.wrap x19))) (sv (d_conv rfl (conv_int _ ⟨_, ti57⟩ ti5 rfl))) ?_
    refine wS (v := (.ptr 0 (Int.toNat x11))) (sv (d_ia rfl rfl (iaS rfl ti42 ti5 rfl h_4))) ?_
    refine wN (h' := [some ⟨5, (l0_1.set (Int.toNat x11) (IntKind.u8.wrap x19)).map (eI .u8)⟩]) (sv (d_store rfl rfl (stXe (E := (eI .u8)) (y := IntKind.u8.wrap x19) ti5 rfl rfl h_4 rfl rfl rfl))) ?_
    refine OpsW.nil ?_
    refine Ex.inBlock_mk ?_
    refine Ex.then_mk ?_
    refine AB.rw ?_
    refine wS (v := (eI .i64 (IntKind.i64.wrap (x11 + 1)))) (sv (d_bin rfl rfl (bin_add ..))) ?_
    refine wS (v := (eI .i64 (IntKind.i64.wrap (x11 + 1)))) (sv (d_move rfl)) ?_
    refine OpsW.nil ?_
    refine Ex.then_mk ?_
    exact ⟨IntKind.i64.wrap (x11 + 1), l0_1.set (Int.toNat x11) (IntKind.u8.wrap x19), hr2, (Ghost.rn [0] rfl rfl (FLe.same rfl (FLe.le rfl (by first | exact V.le_refl _ _ | (simp only [len_set, len_cpy]; exact V.le_refl _ _)) (FLe.same rfl (FLe.same rfl FLe.nil)))) (HLe.live rfl (les_map (fun _ => rfl) _) (all_map (fun _ => rfl) _) HLe.nil) rfl)⟩
  · replace hr2 := iteF hr2 h2
    refine AB.exit ?_
    refine Ex.then_exit_mk ?_
    refine Ex.then_exit_mk ?_
    refine Ex.inBlock_same_mk ?_
    obtain rfl := Option.some.inj hr2
    refine Ex.then_mk ?_
    exact hG1 _ _ _ _ (Ghost.rn [0] rfl rfl (FLe.same rfl FLe.nil) (HLe.live rfl (les_map (fun _ => rfl) _) (all_map (fun _ => rfl) _) HLe.nil) rfl) (J1 l0_1 hr)
set_option maxRecDepth 20000 in
set_option maxHeartbeats 1000000 in
theorem ref01_joined_ok (N : Nat) (va : List Int) (b : List Int) (r : (List Int)) (hr : ref01_joined N va b = some r) :
    Vm.Fn Try.prog 36 [] [(.row none 1 (va.map (eI .u8))), (.row none 1 (b.map (eI .u8)))] (.sl 0 0 r.length 1 false) [some ⟨5, r.map (eI .u8)⟩] := by
  refine fn_ab Try.func36 rfl (by kernel_rfl) Try.ntmps36 (Nat.le_of_ble_eq_true rfl) rfl (fr := [(0, (.row none 1 (va.map (eI .u8)))), (1, (.row none 1 (b.map (eI .u8))))]) rfl ?_
  unfold ref01_joined at hr
  refine AB.seq ?_
  refine AB.rw ?_
  refine wS (v := (.row (some true) 1 [])) (sv (d_assign rfl)) ?_
  refine OpsW.nil ?_
  refine Ex.then_mk ?_
  refine AB.seq ?_
  replace hr := bnd hr; obtain ⟨x11, h_1, hr⟩ := hr
  refine AB.rw ?_
  refine wS (v := (.row none 1 (va.map (eI .u8)))) (sv (d_move rfl)) ?_
  refine wS (v := (eI .i64 (va.length : Int))) (sv (d_len rfl (lenR ti42))) ?_
  refine wS (v := (.row none 1 (b.map (eI .u8)))) (sv (d_move rfl)) ?_
  refine wS (v := (eI .i64 (b.length : Int))) (sv (d_len rfl (lenR ti42))) ?_
  refine wS (v := (eI .i64 (IntKind.i64.wrap ((va.length : Int) + (b.length : Int))))) (sv (d_bin rfl rfl (bin_add ..))) ?_
  refine wS (v := (.sl 0 0 0 1 false)) (h' := [some ⟨5, x11.map (eI .u8)⟩]) (sv (d_mk rfl rfl (mkC (E := (eI .u8)) (y := 0) ti42 ti5 ⟨Nat.le_of_ble_eq_true rfl, rfl, rfl⟩ rfl rfl rfl h_1 rfl rfl))) ?_
  refine wS (v := (.sl 0 0 0 1 false)) (sv (d_assign rfl)) ?_
  refine OpsW.nil ?_
  refine Ex.then_mk ?_
  refine AB.seq ?_
  replace hr := bnd hr; obtain ⟨x14, h_2, hr⟩ := hr
  replace hr := bnd hr; obtain ⟨x16, h_3, hr⟩ := hr
  refine AB.rw ?_
  refine wS (v := (.sl 0 0 0 1 false)) (sv (d_move rfl)) ?_
  refine wS (v := (.row none 1 (va.map (eI .u8)))) (sv (d_move rfl)) ?_
  refine wS (v := (.sl 1 0 x14.length 1 false)) (h' := [none, some ⟨5, x14.map (eI .u8)⟩]) (sv (d_append rfl rfl (appP (E := (eI .u8)) (Nat.zero_le _) ti42 ti5 ⟨rfl, rfl, Nat.le_of_ble_eq_true rfl⟩ rfl (srcR (fun _ => rfl)) h_2 rfl rfl))) ?_
  refine wS (v := (.row none 1 (b.map (eI .u8)))) (sv (d_move rfl)) ?_
  refine wS (v := (.sl 2 0 x16.length 1 false)) (h' := [none, none, some ⟨5, x16.map (eI .u8)⟩]) (sv (d_append rfl rfl (appS (E := (eI .u8)) rfl ti42 ti5 ⟨rfl, rfl, Nat.le_of_ble_eq_true rfl⟩ rfl (srcR (fun _ => rfl)) h_3 rfl rfl))) ?_
  refine wS (v := (.sl 2 0 x16.length 1 false)) (sv (d_assign rfl)) ?_
  refine OpsW.nil ?_
  refine Ex.then_mk ?_
  refine AB.ret ?_
  obtain rfl := Option.some.inj hr
  exact done_ret (r1 := (.sl 2 0 x16.length 1 false)) (res1 Try.results36 (rvT rfl)) (Ghost.rn [2] rfl rfl (FLe.same rfl FLe.nil) (HLe.live rfl (les_map (fun _ => rfl) _) (all_map (fun _ => rfl) _) HLe.nil) rfl)
set_option maxRecDepth 20000 in
set_option maxHeartbeats 1000000 in
theorem ref01_AppendU32_ok (N : Nat) (b : List Int) (vn : Int) (r : (List Int)) (hr : ref01_AppendU32 N b vn = some r) :
    Vm.Fn Try.prog 27 [] [(.row none 1 (b.map (eI .u8))), (eI .u32 vn)] (.sl 0 0 r.length 1 false) [some ⟨5, r.map (eI .u8)⟩] := by
  refine fn_ab Try.func27 rfl (by kernel_rfl) Try.ntmps27 (Nat.le_of_ble_eq_true rfl) rfl (fr := [(0, (.row none 1 (b.map (eI .u8)))), (1, (eI .u32 vn))]) rfl ?_
  unfold ref01_AppendU32 at hr
  refine AB.seq ?_
  refine AB.rw ?_
  refine wS (v := (.row (some true) 1 [])) (sv (d_assign rfl)) ?_
  refine OpsW.nil ?_
  refine Ex.then_mk ?_
  refine AB.seq ?_
  replace hr := bnd hr; obtain ⟨x8, h_1, hr⟩ := hr
  replace hr := bnd hr; obtain ⟨x9, h_2, hr⟩ := hr
  refine AB.rw ?_
  refine wS (v := (.row none 1 (b.map (eI .u8)))) (sv (d_move rfl)) ?_
  refine wS (v := (eI .u32 vn)) (sv (d_move rfl)) ?_
  refine wS (v := (eI .u64 (IntKind.u64.wrap vn))) (sv (d_conv rfl (conv_int _ ⟨_, ti22⟩ ti57 rfl))) ?_
  refine wC (v := (.sl 0 0 x8.length 1 false)) (h' := [some ⟨5, x8.map (eI .u8)⟩]) rfl (Vm.Fn.lendB (ref01_little_ok N (IntKind.u64.wrap vn) 4 x8 h_1) [] (by decide) rfl Lend.nil rfl rfl (by simp only [lent, lendSet, lendSet_nil, rnH, Blk.rn, V.rns, V.rn, sg, List.map_cons, List.map_nil, Option.map_some, Option.map_none, List.drop_succ_cons, List.drop_zero, List.drop_nil, List.set_cons_zero, List.set_cons_succ, List.cons_append, List.nil_append, List.append_nil, rns_eI, rns_eB, rns_eS, rns_eL, rns_C_api_OutPoint, rns_K_api_OutPoint, rns_C_api_Input, rns_K_api_Input, rns_C_api_Output, rns_K_api_Output, rns_M_52, rns_C_api_Coin, rns_K_api_Coin, rns_ar4, rns_ar8, rns_ar20, rns_ar32, rns_ar64, List.getElem?_cons_zero, List.getElem?_cons_succ, List.getElem?_nil, List.length_cons, List.length_nil, Nat.reduceAdd, Nat.reduceSub, Nat.add_zero, Nat.zero_add, Nat.sub_self, Nat.sub_zero])) ?_
  refine wC (v := (.sl 1 0 x9.length 1 false)) (h' := [some ⟨5, x8.map (eI .u8)⟩, some ⟨5, x9.map (eI .u8)⟩]) rfl (Vm.Fn.lendR (ref01_joined_ok N b x8 x9 h_2) [] [0] (by decide) rfl (by decide) Lend.nil (Brw.same rfl (Brw.row (exp_slT rfl rfl (fun _ => rfl)) Brw.nil)) rfl (rfB.live (rfs_map (fun _ => rfl) _) rfB.nil) rfl (by simp only [lent, lendSet, lendSet_nil, rnH, Blk.rn, V.rns, V.rn, sg, List.map_cons, List.map_nil, Option.map_some, Option.map_none, List.drop_succ_cons, List.drop_zero, List.drop_nil, List.set_cons_zero, List.set_cons_succ, List.cons_append, List.nil_append, List.append_nil, rns_eI, rns_eB, rns_eS, rns_eL, rns_C_api_OutPoint, rns_K_api_OutPoint, rns_C_api_Input, rns_K_api_Input, rns_C_api_Output, rns_K_api_Output, rns_M_52, rns_C_api_Coin, rns_K_api_Coin, rns_ar4, rns_ar8, rns_ar20, rns_ar32, rns_ar64, List.getElem?_cons_zero, List.getElem?_cons_succ, List.getElem?_nil, List.length_cons, List.length_nil, Nat.reduceAdd, Nat.reduceSub, Nat.add_zero, Nat.zero_add, Nat.sub_self, Nat.sub_zero])) ?_
  refine wS (v := (.sl 1 0 x9.length 1 false)) (sv (d_assign rfl)) ?_
  refine OpsW.nil ?_
  refine Ex.then_mk ?_
  refine AB.ret ?_
  obtain rfl := Option.some.inj hr
  exact done_ret (r1 := (.sl 1 0 x9.length 1 false)) (res1 Try.results27 (rvT rfl)) (Ghost.rn [1] rfl rfl (FLe.same rfl FLe.nil) (HLe.live rfl (les_map (fun _ => rfl) _) (all_map (fun _ => rfl) _) HLe.nil) rfl)
set_option maxRecDepth 20000 in
set_option maxHeartbeats 1000000 in
theorem ref01_AppendSize_ok (N : Nat) (b : List Int) (vn : Int) (r : (List Int)) (hr : ref01_AppendSize N b vn = some r) :
    Vm.Fn Try.prog 28 [] [(.row none 1 (b.map (eI .u8))), (eI .u64 vn)] (.sl 0 0 r.length 1 false) [some ⟨5, r.map (eI .u8)⟩] := by
  refine fn_ab Try.func28 rfl (by kernel_rfl) Try.ntmps28 (Nat.le_of_ble_eq_true rfl) rfl (fr := [(0, (.row none 1 (b.map (eI .u8)))), (1, (eI .u64 vn))]) rfl ?_
  unfold ref01_AppendSize at hr
  refine AB.seq ?_
  refine AB.rw ?_
  refine wS (v := (.row (some true) 1 [])) (sv (d_assign rfl)) ?_
  refine OpsW.nil ?_
  refine Ex.then_mk ?_
  refine AB.seq ?_
  refine AB.block ?_
  refine AB.seq ?_
  refine AB.rw ?_
  refine wS (v := (eI .u64 vn)) (sv (d_move rfl)) ?_
  refine wS (v := (eB (decide (vn < 253)))) (sv (d_bin rfl rfl (bin_lss ..))) ?_
  refine wS (v := (eB (decide (vn < 253)))) (sv (d_assign rfl)) ?_
  refine OpsW.nil ?_
  refine Ex.then_mk ?_
  refine AB.cnd rfl (fun h1 => ?_) (fun h1 => ?_)
  · replace hr := iteT hr h1
    refine AB.seq ?_
    replace hr := bnd hr; obtain ⟨x10, h_2, hr⟩ := hr
    replace hr := bnd hr; obtain ⟨x11, h_3, hr⟩ := hr
    refine AB.rw ?_
    refine wS (v := (.row none 1 (b.map (eI .u8)))) (sv (d_move rfl)) ?_
    refine wS (v := (eI .u64 vn)) (sv (d_move rfl)) ?_
    refine wC (v := (.sl 0 0 x10.length 1 false)) (h' := [some ⟨5, x10.map (eI .u8)⟩]) rfl (Vm.Fn.lendB (ref01_little_ok N vn 1 x10 h_2) [] (by decide) rfl Lend.nil rfl rfl (by simp only [lent, lendSet, lendSet_nil, rnH, Blk.rn, V.rns, V.rn, sg, List.map_cons, List.map_nil, Option.map_some, Option.map_none, List.drop_succ_cons, List.drop_zero, List.drop_nil, List.set_cons_zero, List.set_cons_succ, List.cons_append, List.nil_append, List.append_nil, rns_eI, rns_eB, rns_eS, rns_eL, rns_C_api_OutPoint, rns_K_api_OutPoint, rns_C_api_Input, rns_K_api_Input, rns_C_api_Output, rns_K_api_Output, rns_M_52, rns_C_api_Coin, rns_K_api_Coin, rns_ar4, rns_ar8, rns_ar20, rns_ar32, rns_ar64, List.getElem?_cons_zero, List.getElem?_cons_succ, List.getElem?_nil, List.length_cons, List.length_nil, Nat.reduceAdd, Nat.reduceSub, Nat.add_zero, Nat.zero_add, Nat.sub_self, Nat.sub_zero])) ?_
    refine wC (v := (.sl 1 0 x11.length 1 false)) (h' := [some ⟨5, x10.map (eI .u8)⟩, some ⟨5, x11.map (eI .u8)⟩]) rfl (Vm.Fn.lendR (ref01_joined_ok N b x10 x11 h_3) [] [0] (by decide) rfl (by decide) Lend.nil (Brw.same rfl (Brw.row (exp_slT rfl rfl (fun _ => rfl)) Brw.nil)) rfl (rfB.live (rfs_map (fun _ => rfl) _) rfB.nil) rfl (by simp only [lent, lendSet, lendSet_nil, rnH, Blk.rn, V.rns, V.rn, sg, List.map_cons, List.map_nil, Option.map_some, Option.map_none, List.drop_succ_cons, List.drop_zero, List.drop_nil, List.set_cons_zero, List.set_cons_succ, List.cons_append, List.nil_append, List.append_nil, rns_eI, rns_eB, rns_eS, rns_eL, rns_C_api_OutPoint, rns_K_api_OutPoint, rns_C_api_Input, rns_K_api_Input, rns_C_api_Output, rns_K_api_Output, rns_M_52, rns_C_api_Coin, rns_K_api_Coin, rns_ar4, rns_ar8, rns_ar20, rns_ar32, rns_ar64, List.getElem?_cons_zero, List.getElem?_cons_succ, List.getElem?_nil, List.length_cons, List.length_nil, Nat.reduceAdd, Nat.reduceSub, Nat.add_zero, Nat.zero_add, Nat.sub_self, Nat.sub_zero])) ?_
    refine wS (v := (.sl 1 0 x11.length 1 false)) (sv (d_assign rfl)) ?_
    refine OpsW.nil ?_
    refine Ex.then_mk ?_
    refine AB.ret ?_
    refine Ex.inBlock_ret_mk ?_
    refine Ex.then_ret_mk ?_
    obtain rfl := Option.some.inj hr
    exact done_ret (r1 := (.sl 1 0 x11.length 1 false)) (res1 Try.results28 (rvT rfl)) (Ghost.rn [1] rfl rfl (FLe.same rfl FLe.nil) (HLe.live rfl (les_map (fun _ => rfl) _) (all_map (fun _ => rfl) _) HLe.nil) rfl)
  · replace hr := iteF hr h1
    refine AB.seq ?_
    refine AB.rw ?_
    refine wS (v := (eI .u64 vn)) (sv (d_move rfl)) ?_
    refine wS (v := (eB (decide (vn < 65536)))) (sv (d_bin rfl rfl (bin_lss ..))) ?_
    refine wS (v := (eB (decide (vn < 65536)))) (sv (d_assign rfl)) ?_
    refine OpsW.nil ?_
    refine Ex.then_mk ?_
    refine AB.cnd rfl (fun h4 => ?_) (fun h4 => ?_)
    · replace hr := iteT hr h4
      refine AB.seq ?_
      replace hr := bnd hr; obtain ⟨x18, h_5, hr⟩ := hr
      replace hr := bnd hr; obtain ⟨x19, h_6, hr⟩ := hr
      replace hr := bnd hr; obtain ⟨x20, h_7, hr⟩ := hr
      refine AB.rw ?_
      refine wS (v := (.row none 1 (b.map (eI .u8)))) (sv (d_move rfl)) ?_
      refine wS (v := (.sl 0 0 1 1 false)) (h' := [some ⟨5, [253].map (eI .u8)⟩]) (sv (d_buildS rfl (bldL1 (xs := [253].map (eI .u8)) ti42 ti5 (Nat.le_of_ble_eq_true rfl) (Nat.le_of_ble_eq_true rfl) rfl rfl rfl rfl rfl rfl rfl))) ?_
      refine wS (v := (eI .u64 vn)) (sv (d_move rfl)) ?_
      refine wC (v := (.sl 1 0 x18.length 1 false)) (h' := [some ⟨5, [253].map (eI .u8)⟩, some ⟨5, x18.map (eI .u8)⟩]) rfl (Vm.Fn.lendB (ref01_little_ok N vn 2 x18 h_5) [] (by decide) rfl Lend.nil rfl rfl (by simp only [lent, lendSet, lendSet_nil, rnH, Blk.rn, V.rns, V.rn, sg, List.map_cons, List.map_nil, Option.map_some, Option.map_none, List.drop_succ_cons, List.drop_zero, List.drop_nil, List.set_cons_zero, List.set_cons_succ, List.cons_append, List.nil_append, List.append_nil, rns_eI, rns_eB, rns_eS, rns_eL, rns_C_api_OutPoint, rns_K_api_OutPoint, rns_C_api_Input, rns_K_api_Input, rns_C_api_Output, rns_K_api_Output, rns_M_52, rns_C_api_Coin, rns_K_api_Coin, rns_ar4, rns_ar8, rns_ar20, rns_ar32, rns_ar64, List.getElem?_cons_zero, List.getElem?_cons_succ, List.getElem?_nil, List.length_cons, List.length_nil, Nat.reduceAdd, Nat.reduceSub, Nat.add_zero, Nat.zero_add, Nat.sub_self, Nat.sub_zero])) ?_
      refine wC (v := (.sl 2 0 x19.length 1 false)) (h' := [some ⟨5, [253].map (eI .u8)⟩, some ⟨5, x18.map (eI .u8)⟩, some ⟨5, x19.map (eI .u8)⟩]) rfl (Vm.Fn.lendR (ref01_joined_ok N [253] x18 x19 h_6) [] [0, 1] (by decide) rfl (by decide) Lend.nil (Brw.row (exp_slT rfl rfl (fun _ => rfl)) (Brw.row (exp_slT rfl rfl (fun _ => rfl)) Brw.nil)) rfl (rfB.live (rfs_map (fun _ => rfl) _) rfB.nil) rfl (by simp only [lent, lendSet, lendSet_nil, rnH, Blk.rn, V.rns, V.rn, sg, List.map_cons, List.map_nil, Option.map_some, Option.map_none, List.drop_succ_cons, List.drop_zero, List.drop_nil, List.set_cons_zero, List.set_cons_succ, List.cons_append, List.nil_append, List.append_nil, rns_eI, rns_eB, rns_eS, rns_eL, rns_C_api_OutPoint, rns_K_api_OutPoint, rns_C_api_Input, rns_K_api_Input, rns_C_api_Output, rns_K_api_Output, rns_M_52, rns_C_api_Coin, rns_K_api_Coin, rns_ar4, rns_ar8, rns_ar20, rns_ar32, rns_ar64, List.getElem?_cons_zero, List.getElem?_cons_succ, List.getElem?_nil, List.length_cons, List.length_nil, Nat.reduceAdd, Nat.reduceSub, Nat.add_zero, Nat.zero_add, Nat.sub_self, Nat.sub_zero])) ?_
      refine wC (v := (.sl 3 0 x20.length 1 false)) (h' := [some ⟨5, [253].map (eI .u8)⟩, some ⟨5, x18.map (eI .u8)⟩, some ⟨5, x19.map (eI .u8)⟩, some ⟨5, x20.map (eI .u8)⟩]) rfl (Vm.Fn.lendR (ref01_joined_ok N b x19 x20 h_7) [] [2] (by decide) rfl (by decide) Lend.nil (Brw.same rfl (Brw.row (exp_slT rfl rfl (fun _ => rfl)) Brw.nil)) rfl (rfB.live (rfs_map (fun _ => rfl) _) rfB.nil) rfl (by simp only [lent, lendSet, lendSet_nil, rnH, Blk.rn, V.rns, V.rn, sg, List.map_cons, List.map_nil, Option.map_some, Option.map_none, List.drop_succ_cons, List.drop_zero, List.drop_nil, List.set_cons_zero, List.set_cons_succ, List.cons_append, List.nil_append, List.append_nil, rns_eI, rns_eB, rns_eS, rns_eL, rns_C_api_OutPoint, rns_K_api_OutPoint, rns_C_api_Input, rns_K_api_Input, rns_C_api_Output, rns_K_api_Output, rns_M_52, rns_C_api_Coin, rns_K_api_Coin, rns_ar4, rns_ar8, rns_ar20, rns_ar32, rns_ar64, List.getElem?_cons_zero, List.getElem?_cons_succ, List.getElem?_nil, List.length_cons, List.length_nil, Nat.reduceAdd, Nat.reduceSub, Nat.add_zero, Nat.zero_add, Nat.sub_self, Nat.sub_zero])) ?_
      refine wS (v := (.sl 3 0 x20.length 1 false)) (sv (d_assign rfl)) ?_
      refine OpsW.nil ?_
      refine Ex.then_mk ?_
      refine AB.ret ?_
      refine Ex.inBlock_ret_mk ?_
      refine Ex.then_ret_mk ?_
      obtain rfl := Option.some.inj hr
      exact done_ret (r1 := (.sl 3 0 x20.length 1 false)) (res1 Try.results28 (rvT rfl)) (Ghost.rn [3] rfl rfl (FLe.same rfl FLe.nil) (HLe.live rfl (les_map (fun _ => rfl) _) (all_map (fun _ => rfl) _) HLe.nil) rfl)
    · replace hr := iteF hr h4
      refine AB.seq ?_
      refine AB.rw ?_
      refine wS (v := (eI .u64 vn)) (sv (d_move rfl)) ?_
      refine wS (v := (eB (decide (vn < 4294967296)))) (sv (d_bin rfl rfl (bin_lss ..))) ?_
      refine wS (v := (eB (decide (vn < 4294967296)))) (sv (d_assign rfl)) ?_
      refine OpsW.nil ?_
      refine Ex.then_mk ?_
      refine AB.cnd rfl (fun h8 => ?_) (fun h8 => ?_)
      · replace hr := iteT hr h8
        refine AB.seq ?_
        replace hr := bnd hr; obtain ⟨x27, h_9, hr⟩ := hr
        replace hr := bnd hr; obtain ⟨x28, h_10, hr⟩ := hr
        replace hr := bnd hr; obtain ⟨x29, h_11, hr⟩ := hr
        refine AB.rw ?_
        refine wS (v := (.row none 1 (b.map (eI .u8)))) (sv (d_move rfl)) ?_
        refine wS (v := (.sl 0 0 1 1 false)) (h' := [some ⟨5, [254].map (eI .u8)⟩]) (sv (d_buildS rfl (bldL1 (xs := [254].map (eI .u8)) ti42 ti5 (Nat.le_of_ble_eq_true rfl) (Nat.le_of_ble_eq_true rfl) rfl rfl rfl rfl rfl rfl rfl))) ?_
        refine wS (v := (eI .u64 vn)) (sv (d_move rfl)) ?_
        refine wC (v := (.sl 1 0 x27.length 1 false)) (h' := [some ⟨5, [254].map (eI .u8)⟩, some ⟨5, x27.map (eI .u8)⟩]) rfl (Vm.Fn.lendB (ref01_little_ok N vn 4 x27 h_9) [] (by decide) rfl Lend.nil rfl rfl (by simp only [lent, lendSet, lendSet_nil, rnH, Blk.rn, V.rns, V.rn, sg, List.map_cons, List.map_nil, Option.map_some, Option.map_none, List.drop_succ_cons, List.drop_zero, List.drop_nil, List.set_cons_zero, List.set_cons_succ, List.cons_append, List.nil_append, List.append_nil, rns_eI, rns_eB, rns_eS, rns_eL, rns_C_api_OutPoint, rns_K_api_OutPoint, rns_C_api_Input, rns_K_api_Input, rns_C_api_Output, rns_K_api_Output, rns_M_52, rns_C_api_Coin, rns_K_api_Coin, rns_ar4, rns_ar8, rns_ar20, rns_ar32, rns_ar64, List.getElem?_cons_zero, List.getElem?_cons_succ, List.getElem?_nil, List.length_cons, List.length_nil, Nat.reduceAdd, Nat.reduceSub, Nat.add_zero, Nat.zero_add, Nat.sub_self, Nat.sub_zero])) ?_
        refine wC (v := (.sl 2 0 x28.length 1 false)) (h' := [some ⟨5, [254].map (eI .u8)⟩, some ⟨5, x27.map (eI .u8)⟩, some ⟨5, x28.map (eI .u8)⟩]) rfl (Vm.Fn.lendR (ref01_joined_ok N [254] x27 x28 h_10) [] [0, 1] (by decide) rfl (by decide) Lend.nil (Brw.row (exp_slT rfl rfl (fun _ => rfl)) (Brw.row (exp_slT rfl rfl (fun _ => rfl)) Brw.nil)) rfl (rfB.live (rfs_map (fun _ => rfl) _) rfB.nil) rfl (by simp only [lent, lendSet, lendSet_nil, rnH, Blk.rn, V.rns, V.rn, sg, List.map_cons, List.map_nil, Option.map_some, Option.map_none, List.drop_succ_cons, List.drop_zero, List.drop_nil, List.set_cons_zero, List.set_cons_succ, List.cons_append, List.nil_append, List.append_nil, rns_eI, rns_eB, rns_eS, rns_eL, rns_C_api_OutPoint, rns_K_api_OutPoint, rns_C_api_Input, rns_K_api_Input, rns_C_api_Output, rns_K_api_Output, rns_M_52, rns_C_api_Coin, rns_K_api_Coin, rns_ar4, rns_ar8, rns_ar20, rns_ar32, rns_ar64, List.getElem?_cons_zero, List.getElem?_cons_succ, List.getElem?_nil, List.length_cons, List.length_nil, Nat.reduceAdd, Nat.reduceSub, Nat.add_zero, Nat.zero_add, Nat.sub_self, Nat.sub_zero])) ?_
        refine wC (v := (.sl 3 0 x29.length 1 false)) (h' := [some ⟨5, [254].map (eI .u8)⟩, some ⟨5, x27.map (eI .u8)⟩, some ⟨5, x28.map (eI .u8)⟩, some ⟨5, x29.map (eI .u8)⟩]) rfl (Vm.Fn.lendR (ref01_joined_ok N b x28 x29 h_11) [] [2] (by decide) rfl (by decide) Lend.nil (Brw.same rfl (Brw.row (exp_slT rfl rfl (fun _ => rfl)) Brw.nil)) rfl (rfB.live (rfs_map (fun _ => rfl) _) rfB.nil) rfl (by simp only [lent, lendSet, lendSet_nil, rnH, Blk.rn, V.rns, V.rn, sg, List.map_cons, List.map_nil, Option.map_some, Option.map_none, List.drop_succ_cons, List.drop_zero, List.drop_nil, List.set_cons_zero, List.set_cons_succ, List.cons_append, List.nil_append, List.append_nil, rns_eI, rns_eB, rns_eS, rns_eL, rns_C_api_OutPoint, rns_K_api_OutPoint, rns_C_api_Input, rns_K_api_Input, rns_C_api_Output, rns_K_api_Output, rns_M_52, rns_C_api_Coin, rns_K_api_Coin, rns_ar4, rns_ar8, rns_ar20, rns_ar32, rns_ar64, List.getElem?_cons_zero, List.getElem?_cons_succ, List.getElem?_nil, List.length_cons, List.length_nil, Nat.reduceAdd, Nat.reduceSub, Nat.add_zero, Nat.zero_add, Nat.sub_self, Nat.sub_zero])) ?_
        refine wS (v := (.sl 3 0 x29.length 1 false)) (sv (d_assign rfl)) ?_
        refine OpsW.nil ?_
        refine Ex.then_mk ?_
        refine AB.ret ?_
        refine Ex.inBlock_ret_mk ?_
        refine Ex.then_ret_mk ?_
        obtain rfl := Option.some.inj hr
        exact done_ret (r1 := (.sl 3 0 x29.length 1 false)) (res1 Try.results28 (rvT rfl)) (Ghost.rn [3] rfl rfl (FLe.same rfl FLe.nil) (HLe.live rfl (les_map (fun _ => rfl) _) (all_map (fun _ => rfl) _) HLe.nil) rfl)
      · replace hr := iteF hr h8
        refine AB.skip ?_
        refine Ex.inBlock_mk ?_
        refine Ex.then_mk ?_
        refine AB.seq ?_
        replace hr := bnd hr; obtain ⟨x33, h_12, hr⟩ := hr
        replace hr := bnd hr; obtain ⟨x34, h_13, hr⟩ := hr
        replace hr := bnd hr; obtain ⟨x35, h_14, hr⟩ := hr
        refine AB.rw ?_
        refine wS (v := (.row none 1 (b.map (eI .u8)))) (sv (d_move rfl)) ?_
        refine wS (v := (.sl 0 0 1 1 false)) (h' := [some ⟨5, [255].map (eI .u8)⟩]) (sv (d_buildS rfl (bldL1 (xs := [255].map (eI .u8)) ti42 ti5 (Nat.le_of_ble_eq_true rfl) (Nat.le_of_ble_eq_true rfl) rfl rfl rfl rfl rfl rfl rfl))) ?_
        refine wS (v := (eI .u64 vn)) (sv (d_move rfl)) ?_
        refine wC (v := (.sl 1 0 x33.length 1 false)) (h' := [some ⟨5, [255].map (eI .u8)⟩, some ⟨5, x33.map (eI .u8)⟩]) rfl (Vm.Fn.lendB (ref01_little_ok N vn 8 x33 h_12) [] (by decide) rfl Lend.nil rfl rfl (by simp only [lent, lendSet, lendSet_nil, rnH, Blk.rn, V.rns, V.rn, sg, List.map_cons, List.map_nil, Option.map_some, Option.map_none, List.drop_succ_cons, List.drop_zero, List.drop_nil, List.set_cons_zero, List.set_cons_succ, List.cons_append, List.nil_append, List.append_nil, rns_eI, rns_eB, rns_eS, rns_eL, rns_C_api_OutPoint, rns_K_api_OutPoint, rns_C_api_Input, rns_K_api_Input, rns_C_api_Output, rns_K_api_Output, rns_M_52, rns_C_api_Coin, rns_K_api_Coin, rns_ar4, rns_ar8, rns_ar20, rns_ar32, rns_ar64, List.getElem?_cons_zero, List.getElem?_cons_succ, List.getElem?_nil, List.length_cons, List.length_nil, Nat.reduceAdd, Nat.reduceSub, Nat.add_zero, Nat.zero_add, Nat.sub_self, Nat.sub_zero])) ?_
        refine wC (v := (.sl 2 0 x34.length 1 false)) (h' := [some ⟨5, [255].map (eI .u8)⟩, some ⟨5, x33.map (eI .u8)⟩, some ⟨5, x34.map (eI .u8)⟩]) rfl (Vm.Fn.lendR (ref01_joined_ok N [255] x33 x34 h_13) [] [0, 1] (by decide) rfl (by decide) Lend.nil (Brw.row (exp_slT rfl rfl (fun _ => rfl)) (Brw.row (exp_slT rfl rfl (fun _ => rfl)) Brw.nil)) rfl (rfB.live (rfs_map (fun _ => rfl) _) rfB.nil) rfl (by simp only [lent, lendSet, lendSet_nil, rnH, Blk.rn, V.rns, V.rn, sg, List.map_cons, List.map_nil, Option.map_some, Option.map_none, List.drop_succ_cons, List.drop_zero, List.drop_nil, List.set_cons_zero, List.set_cons_succ, List.cons_append, List.nil_append, List.append_nil, rns_eI, rns_eB, rns_eS, rns_eL, rns_C_api_OutPoint, rns_K_api_OutPoint, rns_C_api_Input, rns_K_api_Input, rns_C_api_Output, rns_K_api_Output, rns_M_52, rns_C_api_Coin, rns_K_api_Coin, rns_ar4, rns_ar8, rns_ar20, rns_ar32, rns_ar64, List.getElem?_cons_zero, List.getElem?_cons_succ, List.getElem?_nil, List.length_cons, List.length_nil, Nat.reduceAdd, Nat.reduceSub, Nat.add_zero, Nat.zero_add, Nat.sub_self, Nat.sub_zero])) ?_
        refine wC (v := (.sl 3 0 x35.length 1 false)) (h' := [some ⟨5, [255].map (eI .u8)⟩, some ⟨5, x33.map (eI .u8)⟩, some ⟨5, x34.map (eI .u8)⟩, some ⟨5, x35.map (eI .u8)⟩]) rfl (Vm.Fn.lendR (ref01_joined_ok N b x34 x35 h_14) [] [2] (by decide) rfl (by decide) Lend.nil (Brw.same rfl (Brw.row (exp_slT rfl rfl (fun _ => rfl)) Brw.nil)) rfl (rfB.live (rfs_map (fun _ => rfl) _) rfB.nil) rfl (by simp only [lent, lendSet, lendSet_nil, rnH, Blk.rn, V.rns, V.rn, sg, List.map_cons, List.map_nil, Option.map_some, Option.map_none, List.drop_succ_cons, List.drop_zero, List.drop_nil, List.set_cons_zero, List.set_cons_succ, List.cons_append, List.nil_append, List.append_nil, rns_eI, rns_eB, rns_eS, rns_eL, rns_C_api_OutPoint, rns_K_api_OutPoint, rns_C_api_Input, rns_K_api_Input, rns_C_api_Output, rns_K_api_Output, rns_M_52, rns_C_api_Coin, rns_K_api_Coin, rns_ar4, rns_ar8, rns_ar20, rns_ar32, rns_ar64, List.getElem?_cons_zero, List.getElem?_cons_succ, List.getElem?_nil, List.length_cons, List.length_nil, Nat.reduceAdd, Nat.reduceSub, Nat.add_zero, Nat.zero_add, Nat.sub_self, Nat.sub_zero])) ?_
        refine wS (v := (.sl 3 0 x35.length 1 false)) (sv (d_assign rfl)) ?_
        refine OpsW.nil ?_
        refine Ex.then_mk ?_
        refine AB.ret ?_
        obtain rfl := Option.some.inj hr
        exact done_ret (r1 := (.sl 3 0 x35.length 1 false)) (res1 Try.results28 (rvT rfl)) (Ghost.rn [3] rfl rfl (FLe.same rfl FLe.nil) (HLe.live rfl (les_map (fun _ => rfl) _) (all_map (fun _ => rfl) _) HLe.nil) rfl)
set_option maxRecDepth 20000 in
set_option maxHeartbeats 1000000 in
theorem ref01_AppendHash_ok (N : Nat) (b : List Int) (vh : List Int) (r : (List Int)) (hr : ref01_AppendHash N b vh = some r) :
    Vm.Fn Try.prog 38 [] [(.row none 1 (b.map (eI .u8))), (.agg (vh.map (eI .u8)))] (.sl 0 0 r.length 1 false) [some ⟨5, r.map (eI .u8)⟩] := by
  refine fn_ab Try.func38 rfl (by kernel_rfl) Try.ntmps38 (Nat.le_of_ble_eq_true rfl) rfl (fr := [(0, (.row none 1 (b.map (eI .u8)))), (1, (.agg (vh.map (eI .u8))))]) rfl ?_
  unfold ref01_AppendHash at hr
  refine AB.seq ?_
  refine AB.rw ?_
  refine wS (v := (.ptr 0 0)) (h' := [some ⟨36, vh.map (eI .u8)⟩]) (sv (d_box rfl (flatA (fun _ => rfl)) rfl rfl)) ?_
  refine wS (v := (.row (some true) 1 [])) (sv (d_assign rfl)) ?_
  refine OpsW.nil ?_
  refine Ex.then_mk ?_
  refine AB.seq ?_
  replace hr := bnd hr; obtain ⟨q, h_1, hr⟩ := hr
  replace hr := bnd hr; obtain ⟨x7, h_2, hr⟩ := hr
  refine AB.rw ?_
  refine wS (v := (.row none 1 (b.map (eI .u8)))) (sv (d_move rfl)) ?_
  refine wS (v := (.sl 0 0 32 1 false)) (sv (d_slice rfl rfl rfl (slA (E := (eI .u8)) (l := vh) ti36 ti5 rfl rfl rfl (arr_len h_1) ⟨Nat.le_of_ble_eq_true rfl, Nat.le_of_ble_eq_true rfl⟩))) ?_
  refine wC (v := (.sl 1 0 x7.length 1 false)) (h' := [some ⟨36, vh.map (eI .u8)⟩, some ⟨5, x7.map (eI .u8)⟩]) rfl (Vm.Fn.lendR (ref01_joined_ok N b vh x7 h_2) [] [0] (by decide) rfl (by decide) Lend.nil (Brw.same rfl (Brw.row (exp_slT (arr_len h_1) rfl (fun _ => rfl)) Brw.nil)) rfl (rfB.live (rfs_map (fun _ => rfl) _) rfB.nil) rfl (by simp only [lent, lendSet, lendSet_nil, rnH, Blk.rn, V.rns, V.rn, sg, List.map_cons, List.map_nil, Option.map_some, Option.map_none, List.drop_succ_cons, List.drop_zero, List.drop_nil, List.set_cons_zero, List.set_cons_succ, List.cons_append, List.nil_append, List.append_nil, rns_eI, rns_eB, rns_eS, rns_eL, rns_C_api_OutPoint, rns_K_api_OutPoint, rns_C_api_Input, rns_K_api_Input, rns_C_api_Output, rns_K_api_Output, rns_M_52, rns_C_api_Coin, rns_K_api_Coin, rns_ar4, rns_ar8, rns_ar20, rns_ar32, rns_ar64, List.getElem?_cons_zero, List.getElem?_cons_succ, List.getElem?_nil, List.length_cons, List.length_nil, Nat.reduceAdd, Nat.reduceSub, Nat.add_zero, Nat.zero_add, Nat.sub_self, Nat.sub_zero])) ?_
  refine wS (v := (.sl 1 0 x7.length 1 false)) (sv (d_assign rfl)) ?_
  refine OpsW.nil ?_
  refine Ex.then_mk ?_
  refine AB.ret ?_
  obtain rfl := Option.some.inj hr
  exact done_ret (r1 := (.sl 1 0 x7.length 1 false)) (res1 Try.results38 (rvT rfl)) (Ghost.rn [1] rfl rfl (FLe.same rfl FLe.nil) (HLe.live rfl (les_map (fun _ => rfl) _) (all_map (fun _ => rfl) _) HLe.nil) rfl)
set_option maxRecDepth 20000 in
set_option maxHeartbeats 1000000 in
theorem ref09_Point_ok (N : Nat) (o_Tx : List Int) (o_Index : Int) (r : (List Int)) (hr : ref09_Point N o_Tx o_Index = some r) :
    Vm.Fn Try.prog 29 [] [(.agg (ar32 (eI .u8) o_Tx [(eI .u32 o_Index)]))] (.sl 0 0 r.length 1 false) [some ⟨5, r.map (eI .u8)⟩] := by
  refine fn_ab Try.func29 rfl (by kernel_rfl) Try.ntmps29 (Nat.le_of_ble_eq_true rfl) rfl (fr := [(0, (.agg (ar32 (eI .u8) o_Tx [(eI .u32 o_Index)])))]) rfl ?_
  unfold ref09_Point at hr
  refine AB.seq ?_
  refine AB.rw ?_
  refine wS (v := (.ptr 0 0)) (h' := [some ⟨38, (ar32 (eI .u8) o_Tx [(eI .u32 o_Index)])⟩]) (sv (d_box rfl rfl rfl rfl)) ?_
  refine wS (v := (.row (some true) 1 [])) (sv (d_assign rfl)) ?_
  refine OpsW.nil ?_
  refine Ex.then_mk ?_
  refine AB.seq ?_
  replace hr := bnd hr; obtain ⟨q, h_1, hr⟩ := hr
  replace hr := bnd hr; obtain ⟨x5, h_2, hr⟩ := hr
  replace hr := bnd hr; obtain ⟨x8, h_4, hr⟩ := hr
  refine AB.rd (memF []) (memF [27, 38]) mixed ?_
  refine DrawG.pick (n := 6) (i := 0) (by decide +kernel) rfl (gS (v := (.ptr 0 0)) (sv (d_fa rfl (fap38_0 ..)))) ?_
  refine DrawG.pick (n := 5) (i := 1) (by decide +kernel) rfl (gS (v := (.agg (o_Tx.map (eI .u8)))) (sv (d_load rfl (ldP rfl (to32 (arr_len h_1) (partN (ds := (ar32 (eI .u8) o_Tx [])) ti36 rfl (Nat.le_of_ble_eq_true rfl) rfl)))))) ?_
  refine DrawG.pick (n := 4) (i := 2) (by decide +kernel) rfl (gC (v := (.sl 1 0 x5.length 1 false)) (h' := [some ⟨38, (ar32 (eI .u8) o_Tx [(eI .u32 o_Index)])⟩, some ⟨5, x5.map (eI .u8)⟩]) (Vm.Fn.argsLe (Vm.Fn.lendB (ref01_AppendHash_ok N [] o_Tx x5 h_2) [] (by decide) rfl Lend.nil (by simp only [V.rn, V.rns, rns_eI, rns_eB] <;> rfl) rfl (by simp only [lent, lendSet, lendSet_nil, rnH, Blk.rn, V.rns, V.rn, sg, List.map_cons, List.map_nil, Option.map_some, Option.map_none, List.drop_succ_cons, List.drop_zero, List.drop_nil, List.set_cons_zero, List.set_cons_succ, List.cons_append, List.nil_append, List.append_nil, rns_eI, rns_eB, rns_eS, rns_eL, rns_C_api_OutPoint, rns_K_api_OutPoint, rns_C_api_Input, rns_K_api_Input, rns_C_api_Output, rns_K_api_Output, rns_M_52, rns_C_api_Coin, rns_K_api_Coin, rns_ar4, rns_ar8, rns_ar20, rns_ar32, rns_ar64, List.getElem?_cons_zero, List.getElem?_cons_succ, List.getElem?_nil, List.length_cons, List.length_nil, Nat.reduceAdd, Nat.reduceSub, Nat.add_zero, Nat.zero_add, Nat.sub_self, Nat.sub_zero])) (V.les_cons V.le_nil (V.les_cons (V.le_refl _ _) V.les_nil))) (fun h => absurd h (by decide)) (fun _ => ⟨_, rfl⟩) (sv (d_call rfl orc1_hit))) ?_
  refine DrawG.pick (n := 3) (i := 3) (by decide +kernel) rfl (gS (v := (.ptr 0 32)) (sv (d_fa rfl (fap38_1 ..)))) ?_
  refine DrawG.pick (n := 2) (i := 4) (by decide +kernel) rfl (gS (v := (eI .u32 o_Index)) (sv (d_load rfl (ldP rfl (part1 ti22 rfl rfl))))) ?_
  refine DrawG.pick (n := 1) (i := 5) (by decide +kernel) rfl (gC (v := (.sl 2 0 x8.length 1 false)) (h' := [some ⟨38, (ar32 (eI .u8) o_Tx [(eI .u32 o_Index)])⟩, some ⟨5, x5.map (eI .u8)⟩, some ⟨5, x8.map (eI .u8)⟩]) (Vm.Fn.lendR (ref01_AppendU32_ok N x5 o_Index x8 h_4) [] [1] (by decide) rfl (by decide) Lend.nil (Brw.row (exp_slT rfl rfl (fun _ => rfl)) (Brw.same rfl Brw.nil)) rfl (rfB.live (rfs_map (fun _ => rfl) _) rfB.nil) rfl (by simp only [lent, lendSet, lendSet_nil, rnH, Blk.rn, V.rns, V.rn, sg, List.map_cons, List.map_nil, Option.map_some, Option.map_none, List.drop_succ_cons, List.drop_zero, List.drop_nil, List.set_cons_zero, List.set_cons_succ, List.cons_append, List.nil_append, List.append_nil, rns_eI, rns_eB, rns_eS, rns_eL, rns_C_api_OutPoint, rns_K_api_OutPoint, rns_C_api_Input, rns_K_api_Input, rns_C_api_Output, rns_K_api_Output, rns_M_52, rns_C_api_Coin, rns_K_api_Coin, rns_ar4, rns_ar8, rns_ar20, rns_ar32, rns_ar64, List.getElem?_cons_zero, List.getElem?_cons_succ, List.getElem?_nil, List.length_cons, List.length_nil, Nat.reduceAdd, Nat.reduceSub, Nat.add_zero, Nat.zero_add, Nat.sub_self, Nat.sub_zero])) (fun h => absurd h (by decide)) (fun _ => ⟨_, rfl⟩) (sv (d_call rfl orc1_hit))) ?_
  refine DrawG.pick (n := 0) (i := 6) (by decide +kernel) rfl (gS (v := (.sl 2 0 x8.length 1 false)) (sv (d_assign rfl))) ?_
  refine DrawG.nil (by decide +kernel) ?_
  refine Ex.then_mk ?_
  refine AB.ret ?_
  obtain rfl := Option.some.inj hr
  exact done_ret (r1 := (.sl 2 0 x8.length 1 false)) (res1 Try.results29 (rvT rfl)) (Ghost.rn [2] rfl rfl (FLe.same rfl FLe.nil) (HLe.live rfl (les_map (fun _ => rfl) _) (all_map (fun _ => rfl) _) HLe.nil) rfl)
set_option maxRecDepth 20000 in
set_option maxHeartbeats 1000000 in
theorem ref01_AppendU64_ok (N : Nat) (b : List Int) (vn : Int) (r : (List Int)) (hr : ref01_AppendU64 N b vn = some r) :
    Vm.Fn Try.prog 39 [] [(.row none 1 (b.map (eI .u8))), (eI .u64 vn)] (.sl 0 0 r.length 1 false) [some ⟨5, r.map (eI .u8)⟩] := by
  refine fn_ab Try.func39 rfl (by kernel_rfl) Try.ntmps39 (Nat.le_of_ble_eq_true rfl) rfl (fr := [(0, (.row none 1 (b.map (eI .u8)))), (1, (eI .u64 vn))]) rfl ?_
  unfold ref01_AppendU64 at hr
  refine AB.seq ?_
  refine AB.rw ?_
  refine wS (v := (.row (some true) 1 [])) (sv (d_assign rfl)) ?_
  refine OpsW.nil ?_
  refine Ex.then_mk ?_
  refine AB.seq ?_
  replace hr := bnd hr; obtain ⟨x7, h_1, hr⟩ := hr
  replace hr := bnd hr; obtain ⟨x8, h_2, hr⟩ := hr
  refine AB.rw ?_
  refine wS (v := (.row none 1 (b.map (eI .u8)))) (sv (d_move rfl)) ?_
  refine wS (v := (eI .u64 vn)) (sv (d_move rfl)) ?_
  refine wC (v := (.sl 0 0 x7.length 1 false)) (h' := [some ⟨5, x7.map (eI .u8)⟩]) rfl (Vm.Fn.lendB (ref01_little_ok N vn 8 x7 h_1) [] (by decide) rfl Lend.nil rfl rfl (by simp only [lent, lendSet, lendSet_nil, rnH, Blk.rn, V.rns, V.rn, sg, List.map_cons, List.map_nil, Option.map_some, Option.map_none, List.drop_succ_cons, List.drop_zero, List.drop_nil, List.set_cons_zero, List.set_cons_succ, List.cons_append, List.nil_append, List.append_nil, rns_eI, rns_eB, rns_eS, rns_eL, rns_C_api_OutPoint, rns_K_api_OutPoint, rns_C_api_Input, rns_K_api_Input, rns_C_api_Output, rns_K_api_Output, rns_M_52, rns_C_api_Coin, rns_K_api_Coin, rns_ar4, rns_ar8, rns_ar20, rns_ar32, rns_ar64, List.getElem?_cons_zero, List.getElem?_cons_succ, List.getElem?_nil, List.length_cons, List.length_nil, Nat.reduceAdd, Nat.reduceSub, Nat.add_zero, Nat.zero_add, Nat.sub_self, Nat.sub_zero])) ?_
  refine wC (v := (.sl 1 0 x8.length 1 false)) (h' := [some ⟨5, x7.map (eI .u8)⟩, some ⟨5, x8.map (eI .u8)⟩]) rfl (Vm.Fn.lendR (ref01_joined_ok N b x7 x8 h_2) [] [0] (by decide) rfl (by decide) Lend.nil (Brw.same rfl (Brw.row (exp_slT rfl rfl (fun _ => rfl)) Brw.nil)) rfl (rfB.live (rfs_map (fun _ => rfl) _) rfB.nil) rfl (by simp only [lent, lendSet, lendSet_nil, rnH, Blk.rn, V.rns, V.rn, sg, List.map_cons, List.map_nil, Option.map_some, Option.map_none, List.drop_succ_cons, List.drop_zero, List.drop_nil, List.set_cons_zero, List.set_cons_succ, List.cons_append, List.nil_append, List.append_nil, rns_eI, rns_eB, rns_eS, rns_eL, rns_C_api_OutPoint, rns_K_api_OutPoint, rns_C_api_Input, rns_K_api_Input, rns_C_api_Output, rns_K_api_Output, rns_M_52, rns_C_api_Coin, rns_K_api_Coin, rns_ar4, rns_ar8, rns_ar20, rns_ar32, rns_ar64, List.getElem?_cons_zero, List.getElem?_cons_succ, List.getElem?_nil, List.length_cons, List.length_nil, Nat.reduceAdd, Nat.reduceSub, Nat.add_zero, Nat.zero_add, Nat.sub_self, Nat.sub_zero])) ?_
  refine wS (v := (.sl 1 0 x8.length 1 false)) (sv (d_assign rfl)) ?_
  refine OpsW.nil ?_
  refine Ex.then_mk ?_
  refine AB.ret ?_
  obtain rfl := Option.some.inj hr
  exact done_ret (r1 := (.sl 1 0 x8.length 1 false)) (res1 Try.results39 (rvT rfl)) (Ghost.rn [1] rfl rfl (FLe.same rfl FLe.nil) (HLe.live rfl (les_map (fun _ => rfl) _) (all_map (fun _ => rfl) _) HLe.nil) rfl)
set_option maxRecDepth 20000 in
set_option maxHeartbeats 1000000 in
theorem ref01_AppendBytes_ok (N : Nat) (b : List Int) (vs : List Int) (r : (List Int)) (hr : ref01_AppendBytes N b vs = some r) :
    Vm.Fn Try.prog 31 [] [(.row none 1 (b.map (eI .u8))), (.row none 1 (vs.map (eI .u8)))] (.sl 0 0 r.length 1 false) [some ⟨5, r.map (eI .u8)⟩] := by
  refine fn_ab Try.func31 rfl (by kernel_rfl) Try.ntmps31 (Nat.le_of_ble_eq_true rfl) rfl (fr := [(0, (.row none 1 (b.map (eI .u8)))), (1, (.row none 1 (vs.map (eI .u8))))]) rfl ?_
  unfold ref01_AppendBytes at hr
  refine AB.seq ?_
  refine AB.rw ?_
  refine wS (v := (.row (some true) 1 [])) (sv (d_assign rfl)) ?_
  refine OpsW.nil ?_
  refine Ex.then_mk ?_
  refine AB.seq ?_
  replace hr := bnd hr; obtain ⟨x9, h_1, hr⟩ := hr
  replace hr := bnd hr; obtain ⟨x11, h_2, hr⟩ := hr
  refine AB.rw ?_
  refine wS (v := (.row none 1 (b.map (eI .u8)))) (sv (d_move rfl)) ?_
  refine wS (v := (.row none 1 (vs.map (eI .u8)))) (sv (d_move rfl)) ?_
  refine wS (v := (eI .i64 (vs.length : Int))) (sv (d_len rfl (lenR ti42))) ?_
  refine wS (v := (eI .u64 (IntKind.u64.wrap (vs.length : Int)))) (sv (d_conv rfl (conv_int _ ⟨_, ti3⟩ ti57 rfl))) ?_
  refine wC (v := (.sl 0 0 x9.length 1 false)) (h' := [some ⟨5, x9.map (eI .u8)⟩]) rfl (Vm.Fn.lendB (ref01_AppendSize_ok N b (IntKind.u64.wrap (vs.length : Int)) x9 h_1) [] (by decide) rfl Lend.nil rfl rfl (by simp only [lent, lendSet, lendSet_nil, rnH, Blk.rn, V.rns, V.rn, sg, List.map_cons, List.map_nil, Option.map_some, Option.map_none, List.drop_succ_cons, List.drop_zero, List.drop_nil, List.set_cons_zero, List.set_cons_succ, List.cons_append, List.nil_append, List.append_nil, rns_eI, rns_eB, rns_eS, rns_eL, rns_C_api_OutPoint, rns_K_api_OutPoint, rns_C_api_Input, rns_K_api_Input, rns_C_api_Output, rns_K_api_Output, rns_M_52, rns_C_api_Coin, rns_K_api_Coin, rns_ar4, rns_ar8, rns_ar20, rns_ar32, rns_ar64, List.getElem?_cons_zero, List.getElem?_cons_succ, List.getElem?_nil, List.length_cons, List.length_nil, Nat.reduceAdd, Nat.reduceSub, Nat.add_zero, Nat.zero_add, Nat.sub_self, Nat.sub_zero])) ?_
  refine wS (v := (.row none 1 (vs.map (eI .u8)))) (sv (d_move rfl)) ?_
  refine wC (v := (.sl 1 0 x11.length 1 false)) (h' := [some ⟨5, x9.map (eI .u8)⟩, some ⟨5, x11.map (eI .u8)⟩]) rfl (Vm.Fn.lendR (ref01_joined_ok N x9 vs x11 h_2) [] [0] (by decide) rfl (by decide) Lend.nil (Brw.row (exp_slT rfl rfl (fun _ => rfl)) (Brw.same rfl Brw.nil)) rfl (rfB.live (rfs_map (fun _ => rfl) _) rfB.nil) rfl (by simp only [lent, lendSet, lendSet_nil, rnH, Blk.rn, V.rns, V.rn, sg, List.map_cons, List.map_nil, Option.map_some, Option.map_none, List.drop_succ_cons, List.drop_zero, List.drop_nil, List.set_cons_zero, List.set_cons_succ, List.cons_append, List.nil_append, List.append_nil, rns_eI, rns_eB, rns_eS, rns_eL, rns_C_api_OutPoint, rns_K_api_OutPoint, rns_C_api_Input, rns_K_api_Input, rns_C_api_Output, rns_K_api_Output, rns_M_52, rns_C_api_Coin, rns_K_api_Coin, rns_ar4, rns_ar8, rns_ar20, rns_ar32, rns_ar64, List.getElem?_cons_zero, List.getElem?_cons_succ, List.getElem?_nil, List.length_cons, List.length_nil, Nat.reduceAdd, Nat.reduceSub, Nat.add_zero, Nat.zero_add, Nat.sub_self, Nat.sub_zero])) ?_
  refine wS (v := (.sl 1 0 x11.length 1 false)) (sv (d_assign rfl)) ?_
  refine OpsW.nil ?_
  refine Ex.then_mk ?_
  refine AB.ret ?_
  obtain rfl := Option.some.inj hr
  exact done_ret (r1 := (.sl 1 0 x11.length 1 false)) (res1 Try.results31 (rvT rfl)) (Ghost.rn [1] rfl rfl (FLe.same rfl FLe.nil) (HLe.live rfl (les_map (fun _ => rfl) _) (all_map (fun _ => rfl) _) HLe.nil) rfl)
set_option maxRecDepth 20000 in
set_option maxHeartbeats 1000000 in
theorem ref09_Out_ok (N : Nat) (o_Value : Int) (o_Script : List Int) (r : (List Int)) (hr : ref09_Out N o_Value o_Script = some r) :
    Vm.Fn Try.prog 30 [] [(.agg [(eI .i64 o_Value), (.row none 1 (o_Script.map (eI .u8)))])] (.sl 0 0 r.length 1 false) [some ⟨5, r.map (eI .u8)⟩] := by
  refine fn_ab Try.func30 rfl (by kernel_rfl) Try.ntmps30 (Nat.le_of_ble_eq_true rfl) rfl (fr := [(0, (.agg [(eI .i64 o_Value), (.row none 1 (o_Script.map (eI .u8)))]))]) rfl ?_
  unfold ref09_Out at hr
  refine AB.seq ?_
  refine AB.rw ?_
  refine wS (v := (.ptr 0 0)) (h' := [some ⟨44, [(eI .i64 o_Value), (.row none 1 (o_Script.map (eI .u8)))]⟩]) (sv (d_box rfl rfl rfl rfl)) ?_
  refine wS (v := (.row (some true) 1 [])) (sv (d_assign rfl)) ?_
  refine OpsW.nil ?_
  refine Ex.then_mk ?_
  refine AB.seq ?_
  replace hr := bnd hr; obtain ⟨x6, h_1, hr⟩ := hr
  replace hr := bnd hr; obtain ⟨x9, h_3, hr⟩ := hr
  refine AB.rd (memF []) (memF [31, 39]) mixed ?_
  refine DrawG.pick (n := 7) (i := 0) (by decide +kernel) rfl (gS (v := (.ptr 0 0)) (sv (d_fa rfl (fap44_0 ..)))) ?_
  refine DrawG.pick (n := 6) (i := 1) (by decide +kernel) rfl (gS (v := (eI .i64 o_Value)) (sv (d_load rfl (ldP rfl (part1 ti2 rfl rfl))))) ?_
  refine DrawG.pick (n := 5) (i := 2) (by decide +kernel) rfl (gS (v := (eI .u64 (IntKind.u64.wrap o_Value))) (sv (d_conv rfl (conv_int _ ⟨_, ti2⟩ ti57 rfl)))) ?_
  refine DrawG.pick (n := 4) (i := 3) (by decide +kernel) rfl (gC (v := (.sl 1 0 x6.length 1 false)) (h' := [some ⟨44, [(eI .i64 o_Value), (.row none 1 (o_Script.map (eI .u8)))]⟩, some ⟨5, x6.map (eI .u8)⟩]) (Vm.Fn.argsLe (Vm.Fn.lendB (ref01_AppendU64_ok N [] (IntKind.u64.wrap o_Value) x6 h_1) [] (by decide) rfl Lend.nil rfl rfl (by simp only [lent, lendSet, lendSet_nil, rnH, Blk.rn, V.rns, V.rn, sg, List.map_cons, List.map_nil, Option.map_some, Option.map_none, List.drop_succ_cons, List.drop_zero, List.drop_nil, List.set_cons_zero, List.set_cons_succ, List.cons_append, List.nil_append, List.append_nil, rns_eI, rns_eB, rns_eS, rns_eL, rns_C_api_OutPoint, rns_K_api_OutPoint, rns_C_api_Input, rns_K_api_Input, rns_C_api_Output, rns_K_api_Output, rns_M_52, rns_C_api_Coin, rns_K_api_Coin, rns_ar4, rns_ar8, rns_ar20, rns_ar32, rns_ar64, List.getElem?_cons_zero, List.getElem?_cons_succ, List.getElem?_nil, List.length_cons, List.length_nil, Nat.reduceAdd, Nat.reduceSub, Nat.add_zero, Nat.zero_add, Nat.sub_self, Nat.sub_zero])) (V.les_cons V.le_nil (V.les_cons (V.le_refl _ _) V.les_nil))) (fun h => absurd h (by decide)) (fun _ => ⟨_, rfl⟩) (sv (d_call rfl orc1_hit))) ?_
  refine DrawG.pick (n := 3) (i := 4) (by decide +kernel) rfl (gS (v := (.ptr 0 1)) (sv (d_fa rfl (fap44_1 ..)))) ?_
  refine DrawG.pick (n := 2) (i := 5) (by decide +kernel) rfl (gS (v := (.row none 1 (o_Script.map (eI .u8)))) (sv (d_load rfl (ldP rfl (part1 ti42 rfl rfl))))) ?_
  refine DrawG.pick (n := 1) (i := 6) (by decide +kernel) rfl (gC (v := (.sl 2 0 x9.length 1 false)) (h' := [some ⟨44, [(eI .i64 o_Value), (.row none 1 (o_Script.map (eI .u8)))]⟩, some ⟨5, x6.map (eI .u8)⟩, some ⟨5, x9.map (eI .u8)⟩]) (Vm.Fn.lendR (ref01_AppendBytes_ok N x6 o_Script x9 h_3) [] [1] (by decide) rfl (by decide) Lend.nil (Brw.row (exp_slT rfl rfl (fun _ => rfl)) (Brw.same rfl Brw.nil)) rfl (rfB.live (rfs_map (fun _ => rfl) _) rfB.nil) rfl (by simp only [lent, lendSet, lendSet_nil, rnH, Blk.rn, V.rns, V.rn, sg, List.map_cons, List.map_nil, Option.map_some, Option.map_none, List.drop_succ_cons, List.drop_zero, List.drop_nil, List.set_cons_zero, List.set_cons_succ, List.cons_append, List.nil_append, List.append_nil, rns_eI, rns_eB, rns_eS, rns_eL, rns_C_api_OutPoint, rns_K_api_OutPoint, rns_C_api_Input, rns_K_api_Input, rns_C_api_Output, rns_K_api_Output, rns_M_52, rns_C_api_Coin, rns_K_api_Coin, rns_ar4, rns_ar8, rns_ar20, rns_ar32, rns_ar64, List.getElem?_cons_zero, List.getElem?_cons_succ, List.getElem?_nil, List.length_cons, List.length_nil, Nat.reduceAdd, Nat.reduceSub, Nat.add_zero, Nat.zero_add, Nat.sub_self, Nat.sub_zero])) (fun h => absurd h (by decide)) (fun _ => ⟨_, rfl⟩) (sv (d_call rfl orc1_hit))) ?_
  refine DrawG.pick (n := 0) (i := 7) (by decide +kernel) rfl (gS (v := (.sl 2 0 x9.length 1 false)) (sv (d_assign rfl))) ?_
  refine DrawG.nil (by decide +kernel) ?_
  refine Ex.then_mk ?_
  refine AB.ret ?_
  obtain rfl := Option.some.inj hr
  exact done_ret (r1 := (.sl 2 0 x9.length 1 false)) (res1 Try.results30 (rvT rfl)) (Ghost.rn [2] rfl rfl (FLe.same rfl FLe.nil) (HLe.live rfl (les_map (fun _ => rfl) _) (all_map (fun _ => rfl) _) HLe.nil) rfl)
set_option maxRecDepth 20000 in
set_option maxHeartbeats 1000000 in
theorem ref09_encode_ok (N : Nat) (t_Version : Int) (t_Inputs : List S_api_Input) (t_Outputs : List S_api_Output) (t_Lock : Int) (witness : Bool) (r : (List Int)) (hr : ref09_encode N t_Version t_Inputs t_Outputs t_Lock witness = some r) :
    Vm.Fn Try.prog 21 [] [(.agg [(eI .u32 t_Version), (.row none 35 (t_Inputs.map E_api_Input)), (.row none 2 (t_Outputs.map E_api_Output)), (eI .u32 t_Lock)]), (eB witness)] (.sl 0 0 r.length 1 false) [some ⟨5, r.map (eI .u8)⟩] := by
  refine fn_ab Try.func21 rfl (by kernel_rfl) Try.ntmps21 (Nat.le_of_ble_eq_true rfl) rfl (fr := [(0, (.agg [(eI .u32 t_Version), (.row none 35 (t_Inputs.map E_api_Input)), (.row none 2 (t_Outputs.map E_api_Output)), (eI .u32 t_Lock)])), (1, (eB witness))]) rfl ?_
  unfold ref09_encode at hr
  refine AB.seq ?_
  refine AB.rw ?_
  refine wS (v := (.ptr 0 0)) (h' := [some ⟨26, [(eI .u32 t_Version), (.row none 35 (t_Inputs.map E_api_Input)), (.row none 2 (t_Outputs.map E_api_Output)), (eI .u32 t_Lock)]⟩]) (sv (d_box rfl rfl rfl rfl)) ?_
  refine wS (v := (.row (some true) 1 [])) (sv (d_assign rfl)) ?_
  refine OpsW.nil ?_
  refine Ex.then_mk ?_
  refine AB.seq ?_
  replace hr := bnd hr; obtain ⟨x16, h_1, hr⟩ := hr
  refine AB.rw ?_
  refine wS (v := (.ptr 0 0)) (sv (d_fa rfl (fap26_0 ..))) ?_
  refine wS (v := (eI .u32 t_Version)) (sv (d_load rfl (ldP rfl (part1 ti22 rfl rfl)))) ?_
  refine wC (v := (.sl 1 0 x16.length 1 false)) (h' := [some ⟨26, [(eI .u32 t_Version), (.row none 35 (t_Inputs.map E_api_Input)), (.row none 2 (t_Outputs.map E_api_Output)), (eI .u32 t_Lock)]⟩, some ⟨5, x16.map (eI .u8)⟩]) rfl (Vm.Fn.argsLe (Vm.Fn.lendB (ref01_AppendU32_ok N [] t_Version x16 h_1) [] (by decide) rfl Lend.nil rfl rfl (by simp only [lent, lendSet, lendSet_nil, rnH, Blk.rn, V.rns, V.rn, sg, List.map_cons, List.map_nil, Option.map_some, Option.map_none, List.drop_succ_cons, List.drop_zero, List.drop_nil, List.set_cons_zero, List.set_cons_succ, List.cons_append, List.nil_append, List.append_nil, rns_eI, rns_eB, rns_eS, rns_eL, rns_C_api_OutPoint, rns_K_api_OutPoint, rns_C_api_Input, rns_K_api_Input, rns_C_api_Output, rns_K_api_Output, rns_M_52, rns_C_api_Coin, rns_K_api_Coin, rns_ar4, rns_ar8, rns_ar20, rns_ar32, rns_ar64, List.getElem?_cons_zero, List.getElem?_cons_succ, List.getElem?_nil, List.length_cons, List.length_nil, Nat.reduceAdd, Nat.reduceSub, Nat.add_zero, Nat.zero_add, Nat.sub_self, Nat.sub_zero])) (V.les_cons V.le_nil (V.les_cons (V.le_refl _ _) V.les_nil))) ?_
  refine wS (v := (.sl 1 0 x16.length 1 false)) (sv (d_assign rfl)) ?_
  refine OpsW.nil ?_
  refine Ex.then_mk ?_
  refine AB.seq ?_
  replace hr := bnd hr; obtain ⟨x22, h_2, hr⟩ := hr
  refine AB.rw ?_
  refine wS (v := (.sl 1 0 x16.length 1 false)) (sv (d_move rfl)) ?_
  refine wS (v := (.ptr 0 1)) (sv (d_fa rfl (fap26_1 ..))) ?_
  refine wS (v := (.row none 35 (t_Inputs.map E_api_Input))) (sv (d_load rfl (ldP rfl (part1 ti23 rfl rfl)))) ?_
  refine wS (v := (eI .i64 (t_Inputs.length : Int))) (sv (d_len rfl (lenR ti23))) ?_
  refine wS (v := (eI .u64 (IntKind.u64.wrap (t_Inputs.length : Int)))) (sv (d_conv rfl (conv_int _ ⟨_, ti3⟩ ti57 rfl))) ?_
  refine wC (v := (.sl 2 0 x22.length 1 false)) (h' := [some ⟨26, [(eI .u32 t_Version), (.row none 35 (t_Inputs.map E_api_Input)), (.row none 2 (t_Outputs.map E_api_Output)), (eI .u32 t_Lock)]⟩, some ⟨5, x16.map (eI .u8)⟩, some ⟨5, x22.map (eI .u8)⟩]) rfl (Vm.Fn.lendR (ref01_AppendSize_ok N x16 (IntKind.u64.wrap (t_Inputs.length : Int)) x22 h_2) [] [1] (by decide) rfl (by decide) Lend.nil (Brw.row (exp_slT rfl rfl (fun _ => rfl)) (Brw.same rfl Brw.nil)) rfl (rfB.live (rfs_map (fun _ => rfl) _) rfB.nil) rfl (by simp only [lent, lendSet, lendSet_nil, rnH, Blk.rn, V.rns, V.rn, sg, List.map_cons, List.map_nil, Option.map_some, Option.map_none, List.drop_succ_cons, List.drop_zero, List.drop_nil, List.set_cons_zero, List.set_cons_succ, List.cons_append, List.nil_append, List.append_nil, rns_eI, rns_eB, rns_eS, rns_eL, rns_C_api_OutPoint, rns_K_api_OutPoint, rns_C_api_Input, rns_K_api_Input, rns_C_api_Output, rns_K_api_Output, rns_M_52, rns_C_api_Coin, rns_K_api_Coin, rns_ar4, rns_ar8, rns_ar20, rns_ar32, rns_ar64, List.getElem?_cons_zero, List.getElem?_cons_succ, List.getElem?_nil, List.length_cons, List.length_nil, Nat.reduceAdd, Nat.reduceSub, Nat.add_zero, Nat.zero_add, Nat.sub_self, Nat.sub_zero])) ?_
  refine wS (v := (.sl 2 0 x22.length 1 false)) (sv (d_assign rfl)) ?_
  refine OpsW.nil ?_
  refine Ex.then_mk ?_
  refine AB.seq_g fun K1 hK1 hG1 => ?_
  have J1 : ∀ (l1 : List Int), ref09_encode_J1 N t_Version t_Inputs t_Outputs t_Lock witness l1 = some r → K1 (mkF 89 [(1, (eB witness)), (2, (.ptr 0 0)), (5, (.sl 1 0 l1.length 1 false))]) [some ⟨26, [(eI .u32 t_Version), (.row none 35 (t_Inputs.map E_api_Input)), (.row none 2 (t_Outputs.map E_api_Output)), (eI .u32 t_Lock)]⟩, some ⟨5, l1.map (eI .u8)⟩] := by
    intro l1 hr
    unfold ref09_encode_J1 at hr
    refine hK1 _ _ ?_
    refine AB.seq ?_
    replace hr := bnd hr; obtain ⟨x44, h_3, hr⟩ := hr
    refine AB.rw ?_
    refine wS (v := (.sl 1 0 l1.length 1 false)) (sv (d_move rfl)) ?_
    refine wS (v := (.ptr 0 2)) (sv (d_fa rfl (fap26_2 ..))) ?_
    refine wS (v := (.row none 2 (t_Outputs.map E_api_Output))) (sv (d_load rfl (ldP rfl (part1 ti24 rfl rfl)))) ?_
    refine wS (v := (eI .i64 (t_Outputs.length : Int))) (sv (d_len rfl (lenR ti24))) ?_
    refine wS (v := (eI .u64 (IntKind.u64.wrap (t_Outputs.length : Int)))) (sv (d_conv rfl (conv_int _ ⟨_, ti3⟩ ti57 rfl))) ?_
    refine wC (v := (.sl 2 0 x44.length 1 false)) (h' := [some ⟨26, [(eI .u32 t_Version), (.row none 35 (t_Inputs.map E_api_Input)), (.row none 2 (t_Outputs.map E_api_Output)), (eI .u32 t_Lock)]⟩, some ⟨5, l1.map (eI .u8)⟩, some ⟨5, x44.map (eI .u8)⟩]) rfl (Vm.Fn.lendR (ref01_AppendSize_ok N l1 (IntKind.u64.wrap (t_Outputs.length : Int)) x44 h_3) [] [1] (by decide) rfl (by decide) Lend.nil (Brw.row (exp_slT rfl rfl (fun _ => rfl)) (Brw.same rfl Brw.nil)) rfl (rfB.live (rfs_map (fun _ => rfl) _) rfB.nil) rfl (by simp only [lent, lendSet, lendSet_nil, rnH, Blk.rn, V.rns, V.rn, sg, List.map_cons, List.map_nil, Option.map_some, Option.map_none, List.drop_succ_cons, List.drop_zero, List.drop_nil, List.set_cons_zero, List.set_cons_succ, List.cons_append, List.nil_append, List.append_nil, rns_eI, rns_eB, rns_eS, rns_eL, rns_C_api_OutPoint, rns_K_api_OutPoint, rns_C_api_Input, rns_K_api_Input, rns_C_api_Output, rns_K_api_Output, rns_M_52, rns_C_api_Coin, rns_K_api_Coin, rns_ar4, rns_ar8, rns_ar20, rns_ar32, rns_ar64, List.getElem?_cons_zero, List.getElem?_cons_succ, List.getElem?_nil, List.length_cons, List.length_nil, Nat.reduceAdd, Nat.reduceSub, Nat.add_zero, Nat.zero_add, Nat.sub_self, Nat.sub_zero])) ?_
    refine wS (v := (.sl 2 0 x44.length 1 false)) (sv (d_assign rfl)) ?_
    refine OpsW.nil ?_
    refine Ex.then_mk ?_
    refine AB.seq_g fun K2 hK2 hG2 => ?_
    have J2 : ∀ (l1_1 : List Int), ref09_encode_J2 N t_Version t_Inputs t_Outputs t_Lock witness l1_1 = some r → K2 (mkF 89 [(1, (eB witness)), (2, (.ptr 0 0)), (5, (.sl 1 0 l1_1.length 1 false))]) [some ⟨26, [(eI .u32 t_Version), (.row none 35 (t_Inputs.map E_api_Input)), (.row none 2 (t_Outputs.map E_api_Output)), (eI .u32 t_Lock)]⟩, some ⟨5, l1_1.map (eI .u8)⟩] := by
      intro l1_1 hr
      unfold ref09_encode_J2 at hr
      refine hK2 _ _ ?_
      refine AB.seq ?_
      replace hr := bnd hr; obtain ⟨x60, h_4, hr⟩ := hr
      refine AB.rw ?_
      refine wS (v := (.sl 1 0 l1_1.length 1 false)) (sv (d_move rfl)) ?_
      refine wS (v := (.ptr 0 3)) (sv (d_fa rfl (fap26_3 ..))) ?_
      refine wS (v := (eI .u32 t_Lock)) (sv (d_load rfl (ldP rfl (part1 ti22 rfl rfl)))) ?_
      refine wC (v := (.sl 2 0 x60.length 1 false)) (h' := [some ⟨26, [(eI .u32 t_Version), (.row none 35 (t_Inputs.map E_api_Input)), (.row none 2 (t_Outputs.map E_api_Output)), (eI .u32 t_Lock)]⟩, some ⟨5, l1_1.map (eI .u8)⟩, some ⟨5, x60.map (eI .u8)⟩]) rfl (Vm.Fn.lendR (ref01_AppendU32_ok N l1_1 t_Lock x60 h_4) [] [1] (by decide) rfl (by decide) Lend.nil (Brw.row (exp_slT rfl rfl (fun _ => rfl)) (Brw.same rfl Brw.nil)) rfl (rfB.live (rfs_map (fun _ => rfl) _) rfB.nil) rfl (by simp only [lent, lendSet, lendSet_nil, rnH, Blk.rn, V.rns, V.rn, sg, List.map_cons, List.map_nil, Option.map_some, Option.map_none, List.drop_succ_cons, List.drop_zero, List.drop_nil, List.set_cons_zero, List.set_cons_succ, List.cons_append, List.nil_append, List.append_nil, rns_eI, rns_eB, rns_eS, rns_eL, rns_C_api_OutPoint, rns_K_api_OutPoint, rns_C_api_Input, rns_K_api_Input, rns_C_api_Output, rns_K_api_Output, rns_M_52, rns_C_api_Coin, rns_K_api_Coin, rns_ar4, rns_ar8, rns_ar20, rns_ar32, rns_ar64, List.getElem?_cons_zero, List.getElem?_cons_succ, List.getElem?_nil, List.length_cons, List.length_nil, Nat.reduceAdd, Nat.reduceSub, Nat.add_zero, Nat.zero_add, Nat.sub_self, Nat.sub_zero])) ?_
      refine wS (v := (.sl 2 0 x60.length 1 false)) (sv (d_assign rfl)) ?_
      refine OpsW.nil ?_
      refine Ex.then_mk ?_
      refine AB.seq_g fun K3 hK3 hG3 => ?_
      have J3 : ∀ (l0 : List Int), ref09_encode_J3 N l0 = some r → K3 (mkF 89 [(5, (.sl 0 0 l0.length 1 false))]) [some ⟨5, l0.map (eI .u8)⟩] := by
        intro l0 hr
        unfold ref09_encode_J3 at hr
        refine hK3 _ _ ?_
        refine AB.seq ?_
        refine AB.rw ?_
        refine wS (v := (.sl 0 0 l0.length 1 false)) (sv (d_move rfl)) ?_
        refine wS (v := (.sl 0 0 l0.length 1 false)) (sv (d_assign rfl)) ?_
        refine OpsW.nil ?_
        refine Ex.then_mk ?_
        refine AB.ret ?_
        obtain rfl := Option.some.inj hr
        exact done_ret (r1 := (.sl 0 0 l0.length 1 false)) (res1 Try.results21 (rvT rfl)) (Ghost.rn [0] rfl rfl (FLe.same rfl FLe.nil) (HLe.live rfl (les_map (fun _ => rfl) _) (all_map (fun _ => rfl) _) HLe.nil) rfl)
      refine AB.seq ?_
      refine AB.rw ?_
      refine wS (v := (.ptr 0 1)) (sv (d_fa rfl (fap26_1 ..))) ?_
      refine wS (v := (.row none 35 (t_Inputs.map E_api_Input))) (sv (d_load rfl (ldP rfl (part1 ti23 rfl rfl)))) ?_
      refine wS (v := (eI .i64 (t_Inputs.length : Int))) (sv (d_len rfl (lenR ti23))) ?_
      refine wS (v := (eI .i64 0)) (sv (d_move rfl)) ?_
      refine OpsW.nil ?_
      refine Ex.then_mk ?_
      replace hr := bnd hr; obtain ⟨res4, hL4, hr⟩ := hr
      refine AB.block ?_
      refine AB.loopN (fun m s h => ∃ (x64 : Int) (l0_1 : List Int), ref09_encode_L4 N t_Inputs witness m x64 l0_1 = some res4 ∧ Ghost 0 s h (mkF 89 [(1, (eB witness)), (5, (.sl 0 0 l0_1.length 1 false)), (62, (.row none 35 (t_Inputs.map E_api_Input))), (63, (eI .i64 (t_Inputs.length : Int))), (64, (eI .i64 x64))]) [some ⟨5, l0_1.map (eI .u8)⟩]) (n := N) ⟨0, x60, hL4, (Ghost.rn [2] rfl rfl (FLe.same rfl (FLe.same rfl (FLe.same rfl (FLe.same rfl (FLe.same rfl FLe.nil))))) (HLe.live rfl (les_map (fun _ => rfl) _) (all_map (fun _ => rfl) _) HLe.nil) rfl)⟩ (by rintro s h ⟨_, _, h0, _⟩; simp [ref09_encode_L4] at h0) ?_
      rintro m4 s h ⟨x64, l0_1, hr4, hg⟩
      refine AB.ghost hg ?_
      clear hg hL4
      rw [ref09_encode_L4] at hr4
      refine AB.seq ?_
      refine AB.rw ?_
      refine wS (v := (eB (decide (x64 < (t_Inputs.length : Int))))) (sv (d_bin rfl rfl (bin_lss ..))) ?_
      refine OpsW.nil ?_
      refine Ex.then_mk ?_
      refine AB.seq ?_
      refine AB.cnd rfl (fun h5 => ?_) (fun h5 => ?_)
      · replace hr4 := iteT hr4 h5
        refine AB.skip ?_
        refine Ex.then_mk ?_
        refine AB.seq_g fun K5 hK5 hG5 => ?_
        have J5 : ∀ (l0_2 : List Int), ref09_encode_J5 N t_Inputs witness x64 (ref09_encode_L4 N t_Inputs witness m4) l0_2 = some res4 → K5 (mkF 89 [(1, (eB witness)), (5, (.sl 0 0 l0_2.length 1 false)), (62, (.row none 35 (t_Inputs.map E_api_Input))), (63, (eI .i64 (t_Inputs.length : Int))), (64, (eI .i64 x64))]) [some ⟨5, l0_2.map (eI .u8)⟩] := by
          intro l0_2 hr4
          unfold ref09_encode_J5 at hr4
          refine hK5 _ _ ?_
          refine AB.rw ?_
          refine wS (v := (eI .i64 (IntKind.i64.wrap (x64 + 1)))) (sv (d_bin rfl rfl (bin_add ..))) ?_
          refine wS (v := (eI .i64 (IntKind.i64.wrap (x64 + 1)))) (sv (d_move rfl)) ?_
          refine OpsW.nil ?_
          refine Ex.then_mk ?_
          exact ⟨IntKind.i64.wrap (x64 + 1), l0_2, hr4, (Ghost.rn [0] rfl rfl (FLe.same rfl (FLe.same rfl (FLe.same rfl (FLe.same rfl (FLe.same rfl FLe.nil))))) (HLe.live rfl (les_map (fun _ => rfl) _) (all_map (fun _ => rfl) _) HLe.nil) rfl)⟩
        refine AB.block ?_
        refine AB.seq ?_
        replace hr4 := bnd hr4; obtain ⟨x66, h_6, hr4⟩ := hr4
        refine AB.rw ?_
        refine wS (sv (d_ia rfl rfl (iaR ti23 ti41 h_6))) ?_
        refine wS (v := (E_api_Input x66)) (sv (d_load rfl (ldR h_6 (partN (ds := (ar32 (eI .u8) x66.Prev.Tx [(eI .u32 x66.Prev.Index), (eI .u32 x66.Sequence), (.row none 1 (x66.Witness.map (eL 1 (eI .u8))))])) ti41 rfl (Nat.le_of_ble_eq_true rfl) rfl)))) ?_
        refine wS (v := (.ptr 1 0)) (h' := [some ⟨5, l0_1.map (eI .u8)⟩, some ⟨41, (ar32 (eI .u8) (List.replicate 32 0) [(eI .u32 0), (eI .u32 0), (.row (some true) 1 [])])⟩]) (sv (d_alloc ti41 rfl rfl rfl)) ?_
        refine wN (h' := [some ⟨5, l0_1.map (eI .u8)⟩, some ⟨41, C_api_Input x66⟩]) (sv (d_store rfl rfl (stP ti41 rfl rfl rfl (Nat.le_of_ble_eq_true rfl) rfl))) ?_
        refine OpsW.nil ?_
        refine Ex.then_mk ?_
        refine AB.seq ?_
        refine AB.seq ?_
        refine AB.rw ?_
        refine wS (v := (eB witness)) (sv (d_move rfl)) ?_
        refine wS (v := (eB (!witness))) (sv (d_un rfl (un_not _ _))) ?_
        refine OpsW.nil ?_
        refine Ex.then_mk ?_
        refine AB.cnd rfl (fun h7 => ?_) (fun h7 => ?_)
        · replace hr4 := iteT hr4 h7
          refine AB.exit ?_
          refine Ex.then_exit_mk ?_
          refine Ex.inBlock_other_mk rfl ?_
          refine Ex.then_exit_mk ?_
          refine Ex.then_exit_mk ?_
          refine Ex.inBlock_same_mk ?_
          obtain rfl := Option.some.inj hr4
          refine Ex.then_mk ?_
          exact hG3 _ _ _ _ (Ghost.rn [0] rfl rfl (FLe.same rfl FLe.nil) (HLe.live rfl (les_map (fun _ => rfl) _) (all_map (fun _ => rfl) _) HLe.nil) rfl) (J3 l0_1 hr)
        · replace hr4 := iteF hr4 h7
          refine AB.skip ?_
          refine Ex.then_mk ?_
          refine AB.seq ?_
          replace hr4 := bnd hr4; obtain ⟨x75, h_8, hr4⟩ := hr4
          refine AB.rw ?_
          refine wS (v := (.sl 0 0 l0_1.length 1 false)) (sv (d_move rfl)) ?_
          refine wS (v := (.ptr 1 34)) (sv (d_fa rfl (fap41_2 ..))) ?_
          refine wS (v := (.row none 1 (x66.Witness.map (eL 1 (eI .u8))))) (sv (d_load rfl (ldP rfl (part1 ti39 rfl rfl)))) ?_
          refine wS (v := (eI .i64 (x66.Witness.length : Int))) (sv (d_len rfl (lenR ti39))) ?_
          refine wS (v := (eI .u64 (IntKind.u64.wrap (x66.Witness.length : Int)))) (sv (d_conv rfl (conv_int _ ⟨_, ti3⟩ ti57 rfl))) ?_
          refine wC (v := (.sl 2 0 x75.length 1 false)) (h' := [some ⟨5, l0_1.map (eI .u8)⟩, some ⟨41, C_api_Input x66⟩, some ⟨5, x75.map (eI .u8)⟩]) rfl (Vm.Fn.lendR (ref01_AppendSize_ok N l0_1 (IntKind.u64.wrap (x66.Witness.length : Int)) x75 h_8) [] [0] (by decide) rfl (by decide) Lend.nil (Brw.row (exp_slT rfl rfl (fun _ => rfl)) (Brw.same rfl Brw.nil)) rfl (rfB.live (rfs_map (fun _ => rfl) _) rfB.nil) rfl (by simp only [lent, lendSet, lendSet_nil, rnH, Blk.rn, V.rns, V.rn, sg, List.map_cons, List.map_nil, Option.map_some, Option.map_none, List.drop_succ_cons, List.drop_zero, List.drop_nil, List.set_cons_zero, List.set_cons_succ, List.cons_append, List.nil_append, List.append_nil, rns_eI, rns_eB, rns_eS, rns_eL, rns_C_api_OutPoint, rns_K_api_OutPoint, rns_C_api_Input, rns_K_api_Input, rns_C_api_Output, rns_K_api_Output, rns_M_52, rns_C_api_Coin, rns_K_api_Coin, rns_ar4, rns_ar8, rns_ar20, rns_ar32, rns_ar64, List.getElem?_cons_zero, List.getElem?_cons_succ, List.getElem?_nil, List.length_cons, List.length_nil, Nat.reduceAdd, Nat.reduceSub, Nat.add_zero, Nat.zero_add, Nat.sub_self, Nat.sub_zero])) ?_
          refine wS (v := (.sl 2 0 x75.length 1 false)) (sv (d_assign rfl)) ?_
          refine OpsW.nil ?_
          refine Ex.then_mk ?_
          refine AB.seq ?_
          refine AB.rw ?_
          refine wS (v := (.ptr 1 34)) (sv (d_fa rfl (fap41_2 ..))) ?_
          refine wS (v := (.row none 1 (x66.Witness.map (eL 1 (eI .u8))))) (sv (d_load rfl (ldP rfl (part1 ti39 rfl rfl)))) ?_
          refine wS (v := (eI .i64 (x66.Witness.length : Int))) (sv (d_len rfl (lenR ti39))) ?_
          refine wS (v := (eI .i64 0)) (sv (d_move rfl)) ?_
          refine OpsW.nil ?_
          refine Ex.then_mk ?_
          replace hr4 := bnd hr4; obtain ⟨res6, hL6, hr4⟩ := hr4
          refine AB.block ?_
          refine AB.loopN (fun m s h => ∃ (x79 : Int) (l0_3 : List Int), ref09_encode_L6 N t_Inputs witness x64 x66 m x79 l0_3 = some res6 ∧ Ghost 0 s h (mkF 89 [(1, (eB witness)), (5, (.sl 0 0 l0_3.length 1 false)), (62, (.row none 35 (t_Inputs.map E_api_Input))), (63, (eI .i64 (t_Inputs.length : Int))), (64, (eI .i64 x64)), (77, (.row none 1 (x66.Witness.map (eL 1 (eI .u8))))), (78, (eI .i64 (x66.Witness.length : Int))), (79, (eI .i64 x79))]) [some ⟨5, l0_3.map (eI .u8)⟩]) (n := N) ⟨0, x75, hL6, (Ghost.rn [2] rfl rfl (FLe.same rfl (FLe.same rfl (FLe.same rfl (FLe.same rfl (FLe.same rfl (FLe.same rfl (FLe.same rfl (FLe.same rfl FLe.nil)))))))) (HLe.live rfl (les_map (fun _ => rfl) _) (all_map (fun _ => rfl) _) HLe.nil) rfl)⟩ (by rintro s h ⟨_, _, h0, _⟩; simp [ref09_encode_L6] at h0) ?_
          rintro m6 s h ⟨x79, l0_3, hr6, hg⟩
          refine AB.ghost hg ?_
          clear hg hL6
          rw [ref09_encode_L6] at hr6
          refine AB.seq ?_
          refine AB.rw ?_
          refine wS (v := (eB (decide (x79 < (x66.Witness.length : Int))))) (sv (d_bin rfl rfl (bin_lss ..))) ?_
          refine OpsW.nil ?_
          refine Ex.then_mk ?_
          refine AB.seq ?_
          refine AB.cnd rfl (fun h9 => ?_) (fun h9 => ?_)
          · replace hr6 := iteT hr6 h9
            refine AB.skip ?_
            refine Ex.then_mk ?_
            refine AB.seq ?_
            refine AB.block ?_
            refine AB.seq ?_
            replace hr6 := bnd hr6; obtain ⟨x81, h_10, hr6⟩ := hr6
            refine AB.rw ?_
            refine wS (sv (d_ia rfl rfl (iaR ti39 ti42 h_10))) ?_
            refine wS (v := (.row none 1 (x81.map (eI .u8)))) (sv (d_load rfl (ldR h_10 (part1 ti42 rfl rfl)))) ?_
            refine wS (v := (.row none 1 (x81.map (eI .u8)))) (sv (d_assign rfl)) ?_
            refine OpsW.nil ?_
            refine Ex.then_mk ?_
            replace hr6 := bnd hr6; obtain ⟨x85, h_11, hr6⟩ := hr6
            refine AB.rw ?_
            refine wS (v := (.sl 0 0 l0_3.length 1 false)) (sv (d_move rfl)) ?_
            refine wS (v := (.row none 1 (x81.map (eI .u8)))) (sv (d_move rfl)) ?_
            refine wC (v := (.sl 1 0 x85.length 1 false)) (h' := [some ⟨5, l0_3.map (eI .u8)⟩, some ⟨5, x85.map (eI .u8)⟩]) rfl (Vm.Fn.lendR (ref01_AppendBytes_ok N l0_3 x81 x85 h_11) [] [0] (by decide) rfl (by decide) Lend.nil (Brw.row (exp_slT rfl rfl (fun _ => rfl)) (Brw.same rfl Brw.nil)) rfl (rfB.live (rfs_map (fun _ => rfl) _) rfB.nil) rfl (by simp only [lent, lendSet, lendSet_nil, rnH, Blk.rn, V.rns, V.rn, sg, List.map_cons, List.map_nil, Option.map_some, Option.map_none, List.drop_succ_cons, List.drop_zero, List.drop_nil, List.set_cons_zero, List.set_cons_succ, List.cons_append, List.nil_append, List.append_nil, rns_eI, rns_eB, rns_eS, rns_eL, rns_C_api_OutPoint, rns_K_api_OutPoint, rns_C_api_Input, rns_K_api_Input, rns_C_api_Output, rns_K_api_Output, rns_M_52, rns_C_api_Coin, rns_K_api_Coin, rns_ar4, rns_ar8, rns_ar20, rns_ar32, rns_ar64, List.getElem?_cons_zero, List.getElem?_cons_succ, List.getElem?_nil, List.length_cons, List.length_nil, Nat.reduceAdd, Nat.reduceSub, Nat.add_zero, Nat.zero_add, Nat.sub_self, Nat.sub_zero])) ?_
            refine wS (v := (.sl 1 0 x85.length 1 false)) (sv (d_assign rfl)) ?_
            refine OpsW.nil ?_
            refine Ex.inBlock_mk ?_
            refine Ex.then_mk ?_
            refine AB.rw ?_
            refine wS (v := (eI .i64 (IntKind.i64.wrap (x79 + 1)))) (sv (d_bin rfl rfl (bin_add ..))) ?_
            refine wS (v := (eI .i64 (IntKind.i64.wrap (x79 + 1)))) (sv (d_move rfl)) ?_
            refine OpsW.nil ?_
            refine Ex.then_mk ?_
            exact ⟨IntKind.i64.wrap (x79 + 1), x85, hr6, (Ghost.rn [1] rfl rfl (FLe.same rfl (FLe.same rfl (FLe.same rfl (FLe.same rfl (FLe.same rfl (FLe.same rfl (FLe.same rfl (FLe.same rfl FLe.nil)))))))) (HLe.live rfl (les_map (fun _ => rfl) _) (all_map (fun _ => rfl) _) HLe.nil) rfl)⟩
          · replace hr6 := iteF hr6 h9
            refine AB.exit ?_
            refine Ex.then_exit_mk ?_
            refine Ex.then_exit_mk ?_
            refine Ex.inBlock_same_mk ?_
            obtain rfl := Option.some.inj hr6
            refine Ex.inBlock_mk ?_
            refine Ex.then_mk ?_
            exact hG5 _ _ _ _ (Ghost.rn [0] rfl rfl (FLe.same rfl (FLe.same rfl (FLe.same rfl (FLe.same rfl (FLe.same rfl FLe.nil))))) (HLe.live rfl (les_map (fun _ => rfl) _) (all_map (fun _ => rfl) _) HLe.nil) rfl) (J5 l0_3 hr4)
      · replace hr4 := iteF hr4 h5
        refine AB.exit ?_
        refine Ex.then_exit_mk ?_
        refine Ex.then_exit_mk ?_
        refine Ex.inBlock_same_mk ?_
        obtain rfl := Option.some.inj hr4
        refine Ex.then_mk ?_
        exact hG3 _ _ _ _ (Ghost.rn [0] rfl rfl (FLe.same rfl FLe.nil) (HLe.live rfl (les_map (fun _ => rfl) _) (all_map (fun _ => rfl) _) HLe.nil) rfl) (J3 l0_1 hr)
    refine AB.seq ?_
    refine AB.rw ?_
    refine wS (v := (.ptr 0 2)) (sv (d_fa rfl (fap26_2 ..))) ?_
    refine wS (v := (.row none 2 (t_Outputs.map E_api_Output))) (sv (d_load rfl (ldP rfl (part1 ti24 rfl rfl)))) ?_
    refine wS (v := (eI .i64 (t_Outputs.length : Int))) (sv (d_len rfl (lenR ti24))) ?_
    refine wS (v := (eI .i64 0)) (sv (d_move rfl)) ?_
    refine OpsW.nil ?_
    refine Ex.then_mk ?_
    replace hr := bnd hr; obtain ⟨res7, hL7, hr⟩ := hr
    refine AB.block ?_
    refine AB.loopN (fun m s h => ∃ (x48 : Int) (l1_2 : List Int), ref09_encode_L7 N t_Version t_Inputs t_Outputs t_Lock witness m x48 l1_2 = some res7 ∧ Ghost 0 s h (mkF 89 [(1, (eB witness)), (2, (.ptr 0 0)), (5, (.sl 1 0 l1_2.length 1 false)), (46, (.row none 2 (t_Outputs.map E_api_Output))), (47, (eI .i64 (t_Outputs.length : Int))), (48, (eI .i64 x48))]) [some ⟨26, [(eI .u32 t_Version), (.row none 35 (t_Inputs.map E_api_Input)), (.row none 2 (t_Outputs.map E_api_Output)), (eI .u32 t_Lock)]⟩, some ⟨5, l1_2.map (eI .u8)⟩]) (n := N) ⟨0, x44, hL7, (Ghost.rn [0, 2] rfl rfl (FLe.same rfl (FLe.same rfl (FLe.same rfl (FLe.same rfl (FLe.same rfl (FLe.same rfl FLe.nil)))))) (HLe.live rfl (V.les_refl _ _) rfl (HLe.live rfl (les_map (fun _ => rfl) _) (all_map (fun _ => rfl) _) HLe.nil)) rfl)⟩ (by rintro s h ⟨_, _, h0, _⟩; simp [ref09_encode_L7] at h0) ?_
    rintro m7 s h ⟨x48, l1_2, hr7, hg⟩
    refine AB.ghost hg ?_
    clear hg hL7
    rw [ref09_encode_L7] at hr7
    refine AB.seq ?_
    refine AB.rw ?_
    refine wS (v := (eB (decide (x48 < (t_Outputs.length : Int))))) (sv (d_bin rfl rfl (bin_lss ..))) ?_
    refine OpsW.nil ?_
    refine Ex.then_mk ?_
    refine AB.seq ?_
    refine AB.cnd rfl (fun h12 => ?_) (fun h12 => ?_)
    · replace hr7 := iteT hr7 h12
      refine AB.skip ?_
      refine Ex.then_mk ?_
      refine AB.seq ?_
      refine AB.block ?_
      refine AB.seq ?_
      replace hr7 := bnd hr7; obtain ⟨x50, h_13, hr7⟩ := hr7
      refine AB.rw ?_
      refine wS (sv (d_ia rfl rfl (iaR ti24 ti44 h_13))) ?_
      refine wS (v := (.agg [(eI .i64 x50.Value), (.row none 1 (x50.Script.map (eI .u8)))])) (sv (d_load rfl (ldR h_13 (partN (ds := [(eI .i64 x50.Value), (.row none 1 (x50.Script.map (eI .u8)))]) ti44 rfl (Nat.le_of_ble_eq_true rfl) rfl)))) ?_
      refine wS (v := (.ptr 2 0)) (h' := [some ⟨26, [(eI .u32 t_Version), (.row none 35 (t_Inputs.map E_api_Input)), (.row none 2 (t_Outputs.map E_api_Output)), (eI .u32 t_Lock)]⟩, some ⟨5, l1_2.map (eI .u8)⟩, some ⟨44, [(eI .i64 0), (.row (some true) 1 [])]⟩]) (sv (d_alloc ti44 rfl rfl rfl)) ?_
      refine wN (h' := [some ⟨26, [(eI .u32 t_Version), (.row none 35 (t_Inputs.map E_api_Input)), (.row none 2 (t_Outputs.map E_api_Output)), (eI .u32 t_Lock)]⟩, some ⟨5, l1_2.map (eI .u8)⟩, some ⟨44, [(eI .i64 x50.Value), (.row none 1 (x50.Script.map (eI .u8)))]⟩]) (sv (d_store rfl rfl (stP ti44 rfl rfl rfl (Nat.le_of_ble_eq_true rfl) rfl))) ?_
      refine OpsW.nil ?_
      refine Ex.then_mk ?_
      replace hr7 := bnd hr7; obtain ⟨x54, h_14, hr7⟩ := hr7
      replace hr7 := bnd hr7; obtain ⟨x55, h_15, hr7⟩ := hr7
      refine AB.rw ?_
      refine wS (v := (.sl 1 0 l1_2.length 1 false)) (sv (d_move rfl)) ?_
      refine wS (v := (.agg [(eI .i64 x50.Value), (.row none 1 (x50.Script.map (eI .u8)))])) (sv (d_load rfl (ldP rfl (partN (ds := [(eI .i64 x50.Value), (.row none 1 (x50.Script.map (eI .u8)))]) ti44 rfl (Nat.le_of_ble_eq_true rfl) rfl)))) ?_
      refine wC (v := (.sl 3 0 x54.length 1 false)) (h' := [some ⟨26, [(eI .u32 t_Version), (.row none 35 (t_Inputs.map E_api_Input)), (.row none 2 (t_Outputs.map E_api_Output)), (eI .u32 t_Lock)]⟩, some ⟨5, l1_2.map (eI .u8)⟩, some ⟨44, [(eI .i64 x50.Value), (.row none 1 (x50.Script.map (eI .u8)))]⟩, some ⟨5, x54.map (eI .u8)⟩]) rfl (Vm.Fn.lendB (ref09_Out_ok N x50.Value x50.Script x54 h_14) [] (by decide) rfl Lend.nil rfl rfl (by simp only [lent, lendSet, lendSet_nil, rnH, Blk.rn, V.rns, V.rn, sg, List.map_cons, List.map_nil, Option.map_some, Option.map_none, List.drop_succ_cons, List.drop_zero, List.drop_nil, List.set_cons_zero, List.set_cons_succ, List.cons_append, List.nil_append, List.append_nil, rns_eI, rns_eB, rns_eS, rns_eL, rns_C_api_OutPoint, rns_K_api_OutPoint, rns_C_api_Input, rns_K_api_Input, rns_C_api_Output, rns_K_api_Output, rns_M_52, rns_C_api_Coin, rns_K_api_Coin, rns_ar4, rns_ar8, rns_ar20, rns_ar32, rns_ar64, List.getElem?_cons_zero, List.getElem?_cons_succ, List.getElem?_nil, List.length_cons, List.length_nil, Nat.reduceAdd, Nat.reduceSub, Nat.add_zero, Nat.zero_add, Nat.sub_self, Nat.sub_zero])) ?_
      refine wS (v := (.sl 4 0 x55.length 1 false)) (h' := [some ⟨26, [(eI .u32 t_Version), (.row none 35 (t_Inputs.map E_api_Input)), (.row none 2 (t_Outputs.map E_api_Output)), (eI .u32 t_Lock)]⟩, none, some ⟨44, [(eI .i64 x50.Value), (.row none 1 (x50.Script.map (eI .u8)))]⟩, some ⟨5, x54.map (eI .u8)⟩, some ⟨5, x55.map (eI .u8)⟩]) (sv (d_append rfl rfl (appS (E := (eI .u8)) rfl ti42 ti5 ⟨rfl, rfl, Nat.le_of_ble_eq_true rfl⟩ rfl (srcS rfl rfl) h_15 rfl rfl))) ?_
      refine wS (v := (.sl 4 0 x55.length 1 false)) (sv (d_assign rfl)) ?_
      refine OpsW.nil ?_
      refine Ex.inBlock_mk ?_
      refine Ex.then_mk ?_
      refine AB.rw ?_
      refine wS (v := (eI .i64 (IntKind.i64.wrap (x48 + 1)))) (sv (d_bin rfl rfl (bin_add ..))) ?_
      refine wS (v := (eI .i64 (IntKind.i64.wrap (x48 + 1)))) (sv (d_move rfl)) ?_
      refine OpsW.nil ?_
      refine Ex.then_mk ?_
      exact ⟨IntKind.i64.wrap (x48 + 1), x55, hr7, (Ghost.rn [0, 4] rfl rfl (FLe.same rfl (FLe.same rfl (FLe.same rfl (FLe.same rfl (FLe.same rfl (FLe.same rfl FLe.nil)))))) (HLe.live rfl (V.les_refl _ _) rfl (HLe.live rfl (les_map (fun _ => rfl) _) (all_map (fun _ => rfl) _) HLe.nil)) rfl)⟩
    · replace hr7 := iteF hr7 h12
      refine AB.exit ?_
      refine Ex.then_exit_mk ?_
      refine Ex.then_exit_mk ?_
      refine Ex.inBlock_same_mk ?_
      obtain rfl := Option.some.inj hr7
      refine Ex.then_mk ?_
      exact hG2 _ _ _ _ (Ghost.rn [0, 1] rfl rfl (FLe.same rfl (FLe.same rfl (FLe.same rfl FLe.nil))) (HLe.live rfl (V.les_refl _ _) rfl (HLe.live rfl (les_map (fun _ => rfl) _) (all_map (fun _ => rfl) _) HLe.nil)) rfl) (J2 l1_2 hr)
  refine AB.seq ?_
  refine AB.rw ?_
  refine wS (v := (.ptr 0 1)) (sv (d_fa rfl (fap26_1 ..))) ?_
  refine wS (v := (.row none 35 (t_Inputs.map E_api_Input))) (sv (d_load rfl (ldP rfl (part1 ti23 rfl rfl)))) ?_
  refine wS (v := (eI .i64 (t_Inputs.length : Int))) (sv (d_len rfl (lenR ti23))) ?_
  refine wS (v := (eI .i64 0)) (sv (d_move rfl)) ?_
  refine OpsW.nil ?_
  refine Ex.then_mk ?_
  replace hr := bnd hr; obtain ⟨res8, hL8, hr⟩ := hr
  refine AB.block ?_
  refine AB.loopN (fun m s h => ∃ (x26 : Int) (l1_3 : List Int), ref09_encode_L8 N t_Version t_Inputs t_Outputs t_Lock witness m x26 l1_3 = some res8 ∧ Ghost 0 s h (mkF 89 [(1, (eB witness)), (2, (.ptr 0 0)), (5, (.sl 1 0 l1_3.length 1 false)), (24, (.row none 35 (t_Inputs.map E_api_Input))), (25, (eI .i64 (t_Inputs.length : Int))), (26, (eI .i64 x26))]) [some ⟨26, [(eI .u32 t_Version), (.row none 35 (t_Inputs.map E_api_Input)), (.row none 2 (t_Outputs.map E_api_Output)), (eI .u32 t_Lock)]⟩, some ⟨5, l1_3.map (eI .u8)⟩]) (n := N) ⟨0, x22, hL8, (Ghost.rn [0, 2] rfl rfl (FLe.same rfl (FLe.same rfl (FLe.same rfl (FLe.same rfl (FLe.same rfl (FLe.same rfl FLe.nil)))))) (HLe.live rfl (V.les_refl _ _) rfl (HLe.live rfl (les_map (fun _ => rfl) _) (all_map (fun _ => rfl) _) HLe.nil)) rfl)⟩ (by rintro s h ⟨_, _, h0, _⟩; simp [ref09_encode_L8] at h0) ?_
  rintro m8 s h ⟨x26, l1_3, hr8, hg⟩
  refine AB.ghost hg ?_
  clear hg hL8
  rw [ref09_encode_L8] at hr8
  refine AB.seq ?_
  refine AB.rw ?_
  refine wS (v := (eB (decide (x26 < (t_Inputs.length : Int))))) (sv (d_bin rfl rfl (bin_lss ..))) ?_
  refine OpsW.nil ?_
  refine Ex.then_mk ?_
  refine AB.seq ?_
  refine AB.cnd rfl (fun h16 => ?_) (fun h16 => ?_)
  · replace hr8 := iteT hr8 h16
    refine AB.skip ?_
    refine Ex.then_mk ?_
    refine AB.seq_g fun K9 hK9 hG9 => ?_
    have J9 : ∀ (l1_4 : List Int), ref09_encode_J9 N t_Version t_Inputs t_Outputs t_Lock witness x26 (ref09_encode_L8 N t_Version t_Inputs t_Outputs t_Lock witness m8) l1_4 = some res8 → K9 (mkF 89 [(1, (eB witness)), (2, (.ptr 0 0)), (5, (.sl 1 0 l1_4.length 1 false)), (24, (.row none 35 (t_Inputs.map E_api_Input))), (25, (eI .i64 (t_Inputs.length : Int))), (26, (eI .i64 x26))]) [some ⟨26, [(eI .u32 t_Version), (.row none 35 (t_Inputs.map E_api_Input)), (.row none 2 (t_Outputs.map E_api_Output)), (eI .u32 t_Lock)]⟩, some ⟨5, l1_4.map (eI .u8)⟩] := by
      intro l1_4 hr8
      unfold ref09_encode_J9 at hr8
      refine hK9 _ _ ?_
      refine AB.rw ?_
      refine wS (v := (eI .i64 (IntKind.i64.wrap (x26 + 1)))) (sv (d_bin rfl rfl (bin_add ..))) ?_
      refine wS (v := (eI .i64 (IntKind.i64.wrap (x26 + 1)))) (sv (d_move rfl)) ?_
      refine OpsW.nil ?_
      refine Ex.then_mk ?_
      exact ⟨IntKind.i64.wrap (x26 + 1), l1_4, hr8, (Ghost.rn [0, 1] rfl rfl (FLe.same rfl (FLe.same rfl (FLe.same rfl (FLe.same rfl (FLe.same rfl (FLe.same rfl FLe.nil)))))) (HLe.live rfl (V.les_refl _ _) rfl (HLe.live rfl (les_map (fun _ => rfl) _) (all_map (fun _ => rfl) _) HLe.nil)) rfl)⟩
    refine AB.block ?_
    refine AB.seq ?_
    replace hr8 := bnd hr8; obtain ⟨x28, h_17, hr8⟩ := hr8
    refine AB.rw ?_
    refine wS (sv (d_ia rfl rfl (iaR ti23 ti41 h_17))) ?_
    refine wS (v := (E_api_Input x28)) (sv (d_load rfl (ldR h_17 (partN (ds := (ar32 (eI .u8) x28.Prev.Tx [(eI .u32 x28.Prev.Index), (eI .u32 x28.Sequence), (.row none 1 (x28.Witness.map (eL 1 (eI .u8))))])) ti41 rfl (Nat.le_of_ble_eq_true rfl) rfl)))) ?_
    refine wS (v := (.ptr 2 0)) (h' := [some ⟨26, [(eI .u32 t_Version), (.row none 35 (t_Inputs.map E_api_Input)), (.row none 2 (t_Outputs.map E_api_Output)), (eI .u32 t_Lock)]⟩, some ⟨5, l1_3.map (eI .u8)⟩, some ⟨41, (ar32 (eI .u8) (List.replicate 32 0) [(eI .u32 0), (eI .u32 0), (.row (some true) 1 [])])⟩]) (sv (d_alloc ti41 rfl rfl rfl)) ?_
    refine wN (h' := [some ⟨26, [(eI .u32 t_Version), (.row none 35 (t_Inputs.map E_api_Input)), (.row none 2 (t_Outputs.map E_api_Output)), (eI .u32 t_Lock)]⟩, some ⟨5, l1_3.map (eI .u8)⟩, some ⟨41, C_api_Input x28⟩]) (sv (d_store rfl rfl (stP ti41 rfl rfl rfl (Nat.le_of_ble_eq_true rfl) rfl))) ?_
    refine OpsW.nil ?_
    refine Ex.then_mk ?_
    replace hr8 := bnd hr8; obtain ⟨x33, h_18, hr8⟩ := hr8
    replace hr8 := bnd hr8; obtain ⟨x34, h_20, hr8⟩ := hr8
    replace hr8 := bnd hr8; obtain ⟨x37, h_21, hr8⟩ := hr8
    refine AB.rd (memF []) (memF [27, 29]) mixed ?_
    refine DrawG.pick (n := 8) (i := 0) (by decide +kernel) rfl (gS (v := (.sl 1 0 l1_3.length 1 false)) (sv (d_move rfl))) ?_
    refine DrawG.pick (n := 7) (i := 1) (by decide +kernel) rfl (gS (v := (.ptr 2 0)) (sv (d_fa rfl (fap41_0 ..)))) ?_
    refine DrawG.pick (n := 6) (i := 2) (by decide +kernel) rfl (gS (v := (E_api_OutPoint x28.Prev)) (sv (d_load rfl (ldP rfl (partN (ds := (ar32 (eI .u8) x28.Prev.Tx [(eI .u32 x28.Prev.Index)])) ti38 rfl (Nat.le_of_ble_eq_true rfl) rfl))))) ?_
    refine DrawG.pick (n := 5) (i := 3) (by decide +kernel) rfl (gC (v := (.sl 3 0 x33.length 1 false)) (h' := [some ⟨26, [(eI .u32 t_Version), (.row none 35 (t_Inputs.map E_api_Input)), (.row none 2 (t_Outputs.map E_api_Output)), (eI .u32 t_Lock)]⟩, some ⟨5, l1_3.map (eI .u8)⟩, some ⟨41, C_api_Input x28⟩, some ⟨5, x33.map (eI .u8)⟩]) (Vm.Fn.lendB (ref09_Point_ok N x28.Prev.Tx x28.Prev.Index x33 h_18) [] (by decide) rfl Lend.nil rfl rfl (by simp only [lent, lendSet, lendSet_nil, rnH, Blk.rn, V.rns, V.rn, sg, List.map_cons, List.map_nil, Option.map_some, Option.map_none, List.drop_succ_cons, List.drop_zero, List.drop_nil, List.set_cons_zero, List.set_cons_succ, List.cons_append, List.nil_append, List.append_nil, rns_eI, rns_eB, rns_eS, rns_eL, rns_C_api_OutPoint, rns_K_api_OutPoint, rns_C_api_Input, rns_K_api_Input, rns_C_api_Output, rns_K_api_Output, rns_M_52, rns_C_api_Coin, rns_K_api_Coin, rns_ar4, rns_ar8, rns_ar20, rns_ar32, rns_ar64, List.getElem?_cons_zero, List.getElem?_cons_succ, List.getElem?_nil, List.length_cons, List.length_nil, Nat.reduceAdd, Nat.reduceSub, Nat.add_zero, Nat.zero_add, Nat.sub_self, Nat.sub_zero])) (fun h => absurd h (by decide)) (fun _ => ⟨_, rfl⟩) (sv (d_call rfl orc1_hit))) ?_
    refine DrawG.fork (n := 4) [4, 5] (by decide +kernel) (by decide) ?_
    refine (Fork.cons rfl (gS (v := (.sl 4 0 x34.length 1 false)) (h' := [some ⟨26, [(eI .u32 t_Version), (.row none 35 (t_Inputs.map E_api_Input)), (.row none 2 (t_Outputs.map E_api_Output)), (eI .u32 t_Lock)]⟩, none, some ⟨41, C_api_Input x28⟩, some ⟨5, x33.map (eI .u8)⟩, some ⟨5, x34.map (eI .u8)⟩]) (sv (d_append rfl rfl (appS (E := (eI .u8)) rfl ti42 ti5 ⟨rfl, rfl, Nat.le_of_ble_eq_true rfl⟩ rfl (srcS rfl rfl) h_20 rfl rfl)))) ?_ (Fork.cons rfl (gS (v := (.ptr 2 33)) (sv (d_fa rfl (fap41_1 ..)))) ?_ Fork.nil))
    · refine DrawG.pick (n := 3) (i := 5) (by decide +kernel) rfl (gS (v := (.ptr 2 33)) (sv (d_fa rfl (fap41_1 ..)))) ?_
      refine DrawG.pick (n := 2) (i := 6) (by decide +kernel) rfl (gS (v := (eI .u32 x28.Sequence)) (sv (d_load rfl (ldP rfl (part1 ti22 rfl rfl))))) ?_
      refine DrawG.pick (n := 1) (i := 7) (by decide +kernel) rfl (gC (v := (.sl 5 0 x37.length 1 false)) (h' := [some ⟨26, [(eI .u32 t_Version), (.row none 35 (t_Inputs.map E_api_Input)), (.row none 2 (t_Outputs.map E_api_Output)), (eI .u32 t_Lock)]⟩, none, some ⟨41, C_api_Input x28⟩, some ⟨5, x33.map (eI .u8)⟩, some ⟨5, x34.map (eI .u8)⟩, some ⟨5, x37.map (eI .u8)⟩]) (Vm.Fn.lendR (ref01_AppendU32_ok N x34 x28.Sequence x37 h_21) [] [4] (by decide) rfl (by decide) Lend.nil (Brw.row (exp_slT rfl rfl (fun _ => rfl)) (Brw.same rfl Brw.nil)) rfl (rfB.live (rfs_map (fun _ => rfl) _) rfB.nil) rfl (by simp only [lent, lendSet, lendSet_nil, rnH, Blk.rn, V.rns, V.rn, sg, List.map_cons, List.map_nil, Option.map_some, Option.map_none, List.drop_succ_cons, List.drop_zero, List.drop_nil, List.set_cons_zero, List.set_cons_succ, List.cons_append, List.nil_append, List.append_nil, rns_eI, rns_eB, rns_eS, rns_eL, rns_C_api_OutPoint, rns_K_api_OutPoint, rns_C_api_Input, rns_K_api_Input, rns_C_api_Output, rns_K_api_Output, rns_M_52, rns_C_api_Coin, rns_K_api_Coin, rns_ar4, rns_ar8, rns_ar20, rns_ar32, rns_ar64, List.getElem?_cons_zero, List.getElem?_cons_succ, List.getElem?_nil, List.length_cons, List.length_nil, Nat.reduceAdd, Nat.reduceSub, Nat.add_zero, Nat.zero_add, Nat.sub_self, Nat.sub_zero])) (fun h => absurd h (by decide)) (fun _ => ⟨_, rfl⟩) (sv (d_call rfl orc1_hit))) ?_
      refine DrawG.pick (n := 0) (i := 8) (by decide +kernel) rfl (gS (v := (.sl 5 0 x37.length 1 false)) (sv (d_assign rfl))) ?_
      refine DrawG.nil (by decide +kernel) ?_
      refine Ex.inBlock_mk ?_
      refine Ex.then_mk ?_
      exact hG9 _ _ _ _ (Ghost.rn [0, 5] rfl rfl (FLe.same rfl (FLe.same rfl (FLe.same rfl (FLe.same rfl (FLe.same rfl (FLe.same rfl FLe.nil)))))) (HLe.live rfl (V.les_refl _ _) rfl (HLe.live rfl (les_map (fun _ => rfl) _) (all_map (fun _ => rfl) _) HLe.nil)) rfl) (J9 x37 hr8)
    · refine DrawG.fork (n := 3) [4, 6] (by decide +kernel) (by decide) ?_
      refine (Fork.cons rfl (gS (v := (.sl 4 0 x34.length 1 false)) (h' := [some ⟨26, [(eI .u32 t_Version), (.row none 35 (t_Inputs.map E_api_Input)), (.row none 2 (t_Outputs.map E_api_Output)), (eI .u32 t_Lock)]⟩, none, some ⟨41, C_api_Input x28⟩, some ⟨5, x33.map (eI .u8)⟩, some ⟨5, x34.map (eI .u8)⟩]) (sv (d_append rfl rfl (appS (E := (eI .u8)) rfl ti42 ti5 ⟨rfl, rfl, Nat.le_of_ble_eq_true rfl⟩ rfl (srcS rfl rfl) h_20 rfl rfl)))) ?_ (Fork.cons rfl (gS (v := (eI .u32 x28.Sequence)) (sv (d_load rfl (ldP rfl (part1 ti22 rfl rfl))))) ?_ Fork.nil))
      · refine DrawG.pick (n := 2) (i := 6) (by decide +kernel) rfl (gS (v := (eI .u32 x28.Sequence)) (sv (d_load rfl (ldP rfl (part1 ti22 rfl rfl))))) ?_
        refine DrawG.pick (n := 1) (i := 7) (by decide +kernel) rfl (gC (v := (.sl 5 0 x37.length 1 false)) (h' := [some ⟨26, [(eI .u32 t_Version), (.row none 35 (t_Inputs.map E_api_Input)), (.row none 2 (t_Outputs.map E_api_Output)), (eI .u32 t_Lock)]⟩, none, some ⟨41, C_api_Input x28⟩, some ⟨5, x33.map (eI .u8)⟩, some ⟨5, x34.map (eI .u8)⟩, some ⟨5, x37.map (eI .u8)⟩]) (Vm.Fn.lendR (ref01_AppendU32_ok N x34 x28.Sequence x37 h_21) [] [4] (by decide) rfl (by decide) Lend.nil (Brw.row (exp_slT rfl rfl (fun _ => rfl)) (Brw.same rfl Brw.nil)) rfl (rfB.live (rfs_map (fun _ => rfl) _) rfB.nil) rfl (by simp only [lent, lendSet, lendSet_nil, rnH, Blk.rn, V.rns, V.rn, sg, List.map_cons, List.map_nil, Option.map_some, Option.map_none, List.drop_succ_cons, List.drop_zero, List.drop_nil, List.set_cons_zero, List.set_cons_succ, List.cons_append, List.nil_append, List.append_nil, rns_eI, rns_eB, rns_eS, rns_eL, rns_C_api_OutPoint, rns_K_api_OutPoint, rns_C_api_Input, rns_K_api_Input, rns_C_api_Output, rns_K_api_Output, rns_M_52, rns_C_api_Coin, rns_K_api_Coin, rns_ar4, rns_ar8, rns_ar20, rns_ar32, rns_ar64, List.getElem?_cons_zero, List.getElem?_cons_succ, List.getElem?_nil, List.length_cons, List.length_nil, Nat.reduceAdd, Nat.reduceSub, Nat.add_zero, Nat.zero_add, Nat.sub_self, Nat.sub_zero])) (fun h => absurd h (by decide)) (fun _ => ⟨_, rfl⟩) (sv (d_call rfl orc1_hit))) ?_
        refine DrawG.pick (n := 0) (i := 8) (by decide +kernel) rfl (gS (v := (.sl 5 0 x37.length 1 false)) (sv (d_assign rfl))) ?_
        refine DrawG.nil (by decide +kernel) ?_
        refine Ex.inBlock_mk ?_
        refine Ex.then_mk ?_
        exact hG9 _ _ _ _ (Ghost.rn [0, 5] rfl rfl (FLe.same rfl (FLe.same rfl (FLe.same rfl (FLe.same rfl (FLe.same rfl (FLe.same rfl FLe.nil)))))) (HLe.live rfl (V.les_refl _ _) rfl (HLe.live rfl (les_map (fun _ => rfl) _) (all_map (fun _ => rfl) _) HLe.nil)) rfl) (J9 x37 hr8)
      · refine DrawG.pick (n := 2) (i := 4) (by decide +kernel) rfl (gS (v := (.sl 4 0 x34.length 1 false)) (h' := [some ⟨26, [(eI .u32 t_Version), (.row none 35 (t_Inputs.map E_api_Input)), (.row none 2 (t_Outputs.map E_api_Output)), (eI .u32 t_Lock)]⟩, none, some ⟨41, C_api_Input x28⟩, some ⟨5, x33.map (eI .u8)⟩, some ⟨5, x34.map (eI .u8)⟩]) (sv (d_append rfl rfl (appS (E := (eI .u8)) rfl ti42 ti5 ⟨rfl, rfl, Nat.le_of_ble_eq_true rfl⟩ rfl (srcS rfl rfl) h_20 rfl rfl)))) ?_
        refine DrawG.pick (n := 1) (i := 7) (by decide +kernel) rfl (gC (v := (.sl 5 0 x37.length 1 false)) (h' := [some ⟨26, [(eI .u32 t_Version), (.row none 35 (t_Inputs.map E_api_Input)), (.row none 2 (t_Outputs.map E_api_Output)), (eI .u32 t_Lock)]⟩, none, some ⟨41, C_api_Input x28⟩, some ⟨5, x33.map (eI .u8)⟩, some ⟨5, x34.map (eI .u8)⟩, some ⟨5, x37.map (eI .u8)⟩]) (Vm.Fn.lendR (ref01_AppendU32_ok N x34 x28.Sequence x37 h_21) [] [4] (by decide) rfl (by decide) Lend.nil (Brw.row (exp_slT rfl rfl (fun _ => rfl)) (Brw.same rfl Brw.nil)) rfl (rfB.live (rfs_map (fun _ => rfl) _) rfB.nil) rfl (by simp only [lent, lendSet, lendSet_nil, rnH, Blk.rn, V.rns, V.rn, sg, List.map_cons, List.map_nil, Option.map_some, Option.map_none, List.drop_succ_cons, List.drop_zero, List.drop_nil, List.set_cons_zero, List.set_cons_succ, List.cons_append, List.nil_append, List.append_nil, rns_eI, rns_eB, rns_eS, rns_eL, rns_C_api_OutPoint, rns_K_api_OutPoint, rns_C_api_Input, rns_K_api_Input, rns_C_api_Output, rns_K_api_Output, rns_M_52, rns_C_api_Coin, rns_K_api_Coin, rns_ar4, rns_ar8, rns_ar20, rns_ar32, rns_ar64, List.getElem?_cons_zero, List.getElem?_cons_succ, List.getElem?_nil, List.length_cons, List.length_nil, Nat.reduceAdd, Nat.reduceSub, Nat.add_zero, Nat.zero_add, Nat.sub_self, Nat.sub_zero])) (fun h => absurd h (by decide)) (fun _ => ⟨_, rfl⟩) (sv (d_call rfl orc1_hit))) ?_
        refine DrawG.pick (n := 0) (i := 8) (by decide +kernel) rfl (gS (v := (.sl 5 0 x37.length 1 false)) (sv (d_assign rfl))) ?_
        refine DrawG.nil (by decide +kernel) ?_
        refine Ex.inBlock_mk ?_
        refine Ex.then_mk ?_
        exact hG9 _ _ _ _ (Ghost.rn [0, 5] rfl rfl (FLe.same rfl (FLe.same rfl (FLe.same rfl (FLe.same rfl (FLe.same rfl (FLe.same rfl FLe.nil)))))) (HLe.live rfl (V.les_refl _ _) rfl (HLe.live rfl (les_map (fun _ => rfl) _) (all_map (fun _ => rfl) _) HLe.nil)) rfl) (J9 x37 hr8)
  · replace hr8 := iteF hr8 h16
    refine AB.exit ?_
    refine Ex.then_exit_mk ?_
    refine Ex.then_exit_mk ?_
    refine Ex.inBlock_same_mk ?_
    obtain rfl := Option.some.inj hr8
    refine Ex.then_mk ?_
    exact hG1 _ _ _ _ (Ghost.rn [0, 1] rfl rfl (FLe.same rfl (FLe.same rfl (FLe.same rfl FLe.nil))) (HLe.live rfl (V.les_refl _ _) rfl (HLe.live rfl (les_map (fun _ => rfl) _) (all_map (fun _ => rfl) _) HLe.nil)) rfl) (J1 l1_3 hr)
set_option maxRecDepth 20000 in
set_option maxHeartbeats 1000000 in
theorem ref09_Fits_ok (N : Nat) (t_Version : Int) (t_Inputs : List S_api_Input) (t_Outputs : List S_api_Output) (t_Lock : Int) (r : Bool) (hr : ref09_Fits N t_Version t_Inputs t_Outputs t_Lock = some r) :
    Vm.Fn Try.prog 16 [] [(.agg [(eI .u32 t_Version), (.row none 35 (t_Inputs.map E_api_Input)), (.row none 2 (t_Outputs.map E_api_Output)), (eI .u32 t_Lock)])] (eB r) [] := by
  refine fn_ab Try.func16 rfl (by kernel_rfl) Try.ntmps16 (Nat.le_of_ble_eq_true rfl) rfl (fr := [(0, (.agg [(eI .u32 t_Version), (.row none 35 (t_Inputs.map E_api_Input)), (.row none 2 (t_Outputs.map E_api_Output)), (eI .u32 t_Lock)]))]) rfl ?_
  unfold ref09_Fits at hr
  refine AB.seq ?_
  refine AB.rw ?_
  refine wS (v := (.ptr 0 0)) (h' := [some ⟨26, [(eI .u32 t_Version), (.row none 35 (t_Inputs.map E_api_Input)), (.row none 2 (t_Outputs.map E_api_Output)), (eI .u32 t_Lock)]⟩]) (sv (d_box rfl rfl rfl rfl)) ?_
  refine wS (v := (eB false)) (sv (d_assign rfl)) ?_
  refine OpsW.nil ?_
  refine Ex.then_mk ?_
  refine AB.seq ?_
  refine AB.seq_g fun K1 hK1 hG1 => ?_
  have J1 : ∀ (x18 : Bool), ref09_Fits_J1 N t_Version t_Inputs t_Outputs t_Lock x18 = some r → K1 (mkF 63 [(1, (.ptr 0 0)), (18, (eB x18))]) [some ⟨26, [(eI .u32 t_Version), (.row none 35 (t_Inputs.map E_api_Input)), (.row none 2 (t_Outputs.map E_api_Output)), (eI .u32 t_Lock)]⟩] := by
    intro x18 hr
    unfold ref09_Fits_J1 at hr
    refine hK1 _ _ ?_
    refine AB.cnd rfl (fun h1 => ?_) (fun h1 => ?_)
    · replace hr := iteT hr h1
      refine AB.seq ?_
      refine AB.rw ?_
      refine wS (v := (eB false)) (sv (d_assign rfl)) ?_
      refine OpsW.nil ?_
      refine Ex.then_mk ?_
      refine AB.ret ?_
      refine Ex.then_ret_mk ?_
      obtain rfl := Option.some.inj hr
      exact done_ret (r1 := (eB false)) (res1 Try.results16 (rvT rfl)) (Ghost.rn [] rfl rfl (FLe.same rfl FLe.nil) HLe.nil rfl)
    · replace hr := iteF hr h1
      refine AB.skip ?_
      refine Ex.then_mk ?_
      refine AB.seq_g fun K2 hK2 hG2 => ?_
      have J2 : ref09_Fits_J2 N t_Version t_Inputs t_Outputs t_Lock = some r → K2 (mkF 63 [(1, (.ptr 0 0))]) [some ⟨26, [(eI .u32 t_Version), (.row none 35 (t_Inputs.map E_api_Input)), (.row none 2 (t_Outputs.map E_api_Output)), (eI .u32 t_Lock)]⟩] := by
        intro hr
        unfold ref09_Fits_J2 at hr
        refine hK2 _ _ ?_
        refine AB.seq_g fun K3 hK3 hG3 => ?_
        have J3 : ref09_Fits_J3 N t_Version t_Inputs t_Outputs t_Lock = some r → K3 (mkF 63 [(1, (.ptr 0 0))]) [some ⟨26, [(eI .u32 t_Version), (.row none 35 (t_Inputs.map E_api_Input)), (.row none 2 (t_Outputs.map E_api_Output)), (eI .u32 t_Lock)]⟩] := by
          intro hr
          unfold ref09_Fits_J3 at hr
          refine hK3 _ _ ?_
          refine AB.seq ?_
          replace hr := bnd hr; obtain ⟨x60, h_2, hr⟩ := hr
          refine AB.rw ?_
          refine wS (v := (.agg [(eI .u32 t_Version), (.row none 35 (t_Inputs.map E_api_Input)), (.row none 2 (t_Outputs.map E_api_Output)), (eI .u32 t_Lock)])) (sv (d_load rfl (ldP rfl (partN (ds := [(eI .u32 t_Version), (.row none 35 (t_Inputs.map E_api_Input)), (.row none 2 (t_Outputs.map E_api_Output)), (eI .u32 t_Lock)]) ti26 rfl (Nat.le_of_ble_eq_true rfl) rfl)))) ?_
          refine wC (v := (.sl 1 0 x60.length 1 false)) (h' := [some ⟨26, [(eI .u32 t_Version), (.row none 35 (t_Inputs.map E_api_Input)), (.row none 2 (t_Outputs.map E_api_Output)), (eI .u32 t_Lock)]⟩, some ⟨5, x60.map (eI .u8)⟩]) rfl (Vm.Fn.lendB (ref09_encode_ok N t_Version t_Inputs t_Outputs t_Lock true x60 h_2) [] (by decide) rfl Lend.nil rfl rfl (by simp only [lent, lendSet, lendSet_nil, rnH, Blk.rn, V.rns, V.rn, sg, List.map_cons, List.map_nil, Option.map_some, Option.map_none, List.drop_succ_cons, List.drop_zero, List.drop_nil, List.set_cons_zero, List.set_cons_succ, List.cons_append, List.nil_append, List.append_nil, rns_eI, rns_eB, rns_eS, rns_eL, rns_C_api_OutPoint, rns_K_api_OutPoint, rns_C_api_Input, rns_K_api_Input, rns_C_api_Output, rns_K_api_Output, rns_M_52, rns_C_api_Coin, rns_K_api_Coin, rns_ar4, rns_ar8, rns_ar20, rns_ar32, rns_ar64, List.getElem?_cons_zero, List.getElem?_cons_succ, List.getElem?_nil, List.length_cons, List.length_nil, Nat.reduceAdd, Nat.reduceSub, Nat.add_zero, Nat.zero_add, Nat.sub_self, Nat.sub_zero])) ?_
          refine wS (v := (eI .i64 (x60.length : Int))) (sv (d_len rfl (lenS ti42))) ?_
          refine wS (v := (eB (decide ((x60.length : Int) ≤ 20000)))) (sv (d_bin rfl rfl (bin_leq ..))) ?_
          refine wS (v := (eB (decide ((x60.length : Int) ≤ 20000)))) (sv (d_assign rfl)) ?_
          refine OpsW.nil ?_
          refine Ex.then_mk ?_
          refine AB.ret ?_
          obtain rfl := Option.some.inj hr
          exact done_ret (r1 := (eB (decide ((x60.length : Int) ≤ 20000)))) (res1 Try.results16 (rvT rfl)) (Ghost.rn [] rfl rfl (FLe.same rfl FLe.nil) HLe.nil rfl)
        refine AB.seq ?_
        refine AB.rw ?_
        refine wS (v := (.ptr 0 1)) (sv (d_fa rfl (fap26_1 ..))) ?_
        refine wS (v := (.row none 35 (t_Inputs.map E_api_Input))) (sv (d_load rfl (ldP rfl (part1 ti23 rfl rfl)))) ?_
        refine wS (v := (eI .i64 (t_Inputs.length : Int))) (sv (d_len rfl (lenR ti23))) ?_
        refine wS (v := (eI .i64 0)) (sv (d_move rfl)) ?_
        refine OpsW.nil ?_
        refine Ex.then_mk ?_
        replace hr := bnd hr; obtain ⟨res4, hL4, hr⟩ := hr
        refine AB.block ?_
        refine AB.loopN (fun m s h => ∃ (x39 : Int), ref09_Fits_L4 N t_Version t_Inputs t_Outputs t_Lock m x39 = some res4 ∧ Ghost 0 s h (mkF 63 [(1, (.ptr 0 0)), (37, (.row none 35 (t_Inputs.map E_api_Input))), (38, (eI .i64 (t_Inputs.length : Int))), (39, (eI .i64 x39))]) [some ⟨26, [(eI .u32 t_Version), (.row none 35 (t_Inputs.map E_api_Input)), (.row none 2 (t_Outputs.map E_api_Output)), (eI .u32 t_Lock)]⟩]) (n := N) ⟨0, hL4, (Ghost.rn [0] rfl rfl (FLe.same rfl (FLe.same rfl (FLe.same rfl (FLe.same rfl FLe.nil)))) (HLe.live rfl (V.les_refl _ _) rfl HLe.nil) rfl)⟩ (by rintro s h ⟨_, h0, _⟩; simp [ref09_Fits_L4] at h0) ?_
        rintro m4 s h ⟨x39, hr4, hg⟩
        refine AB.ghost hg ?_
        clear hg hL4
        rw [ref09_Fits_L4] at hr4
        refine AB.seq ?_
        refine AB.rw ?_
        refine wS (v := (eB (decide (x39 < (t_Inputs.length : Int))))) (sv (d_bin rfl rfl (bin_lss ..))) ?_
        refine OpsW.nil ?_
        refine Ex.then_mk ?_
        refine AB.seq ?_
        refine AB.cnd rfl (fun h3 => ?_) (fun h3 => ?_)
        · replace hr4 := iteT hr4 h3
          refine AB.skip ?_
          refine Ex.then_mk ?_
          refine AB.seq_g fun K5 hK5 hG5 => ?_
          have J5 : ref09_Fits_J5 N t_Version t_Inputs t_Outputs t_Lock x39 (ref09_Fits_L4 N t_Version t_Inputs t_Outputs t_Lock m4) = some res4 → K5 (mkF 63 [(1, (.ptr 0 0)), (37, (.row none 35 (t_Inputs.map E_api_Input))), (38, (eI .i64 (t_Inputs.length : Int))), (39, (eI .i64 x39))]) [some ⟨26, [(eI .u32 t_Version), (.row none 35 (t_Inputs.map E_api_Input)), (.row none 2 (t_Outputs.map E_api_Output)), (eI .u32 t_Lock)]⟩] := by
            intro hr4
            unfold ref09_Fits_J5 at hr4
            refine hK5 _ _ ?_
            refine AB.rw ?_
            refine wS (v := (eI .i64 (IntKind.i64.wrap (x39 + 1)))) (sv (d_bin rfl rfl (bin_add ..))) ?_
            refine wS (v := (eI .i64 (IntKind.i64.wrap (x39 + 1)))) (sv (d_move rfl)) ?_
            refine OpsW.nil ?_
            refine Ex.then_mk ?_
            exact ⟨IntKind.i64.wrap (x39 + 1), hr4, (Ghost.rn [0] rfl rfl (FLe.same rfl (FLe.same rfl (FLe.same rfl (FLe.same rfl FLe.nil)))) (HLe.live rfl (V.les_refl _ _) rfl HLe.nil) rfl)⟩
          refine AB.block ?_
          refine AB.seq ?_
          replace hr4 := bnd hr4; obtain ⟨x41, h_4, hr4⟩ := hr4
          refine AB.rw ?_
          refine wS (sv (d_ia rfl rfl (iaR ti23 ti41 h_4))) ?_
          refine wS (v := (E_api_Input x41)) (sv (d_load rfl (ldR h_4 (partN (ds := (ar32 (eI .u8) x41.Prev.Tx [(eI .u32 x41.Prev.Index), (eI .u32 x41.Sequence), (.row none 1 (x41.Witness.map (eL 1 (eI .u8))))])) ti41 rfl (Nat.le_of_ble_eq_true rfl) rfl)))) ?_
          refine wS (v := (.ptr 1 0)) (h' := [some ⟨26, [(eI .u32 t_Version), (.row none 35 (t_Inputs.map E_api_Input)), (.row none 2 (t_Outputs.map E_api_Output)), (eI .u32 t_Lock)]⟩, some ⟨41, (ar32 (eI .u8) (List.replicate 32 0) [(eI .u32 0), (eI .u32 0), (.row (some true) 1 [])])⟩]) (sv (d_alloc ti41 rfl rfl rfl)) ?_
          refine wN (h' := [some ⟨26, [(eI .u32 t_Version), (.row none 35 (t_Inputs.map E_api_Input)), (.row none 2 (t_Outputs.map E_api_Output)), (eI .u32 t_Lock)]⟩, some ⟨41, C_api_Input x41⟩]) (sv (d_store rfl rfl (stP ti41 rfl rfl rfl (Nat.le_of_ble_eq_true rfl) rfl))) ?_
          refine OpsW.nil ?_
          refine Ex.then_mk ?_
          refine AB.seq ?_
          refine AB.seq ?_
          refine AB.rw ?_
          refine wS (v := (.ptr 1 34)) (sv (d_fa rfl (fap41_2 ..))) ?_
          refine wS (v := (.row none 1 (x41.Witness.map (eL 1 (eI .u8))))) (sv (d_load rfl (ldP rfl (part1 ti39 rfl rfl)))) ?_
          refine wS (v := (eI .i64 (x41.Witness.length : Int))) (sv (d_len rfl (lenR ti39))) ?_
          refine wS (v := (eB (decide (32 < (x41.Witness.length : Int))))) (sv (d_bin rfl rfl (bin_gtr ..))) ?_
          refine OpsW.nil ?_
          refine Ex.then_mk ?_
          refine AB.cnd rfl (fun h5 => ?_) (fun h5 => ?_)
          · replace hr4 := iteT hr4 h5
            refine AB.seq ?_
            refine AB.rw ?_
            refine wS (v := (eB false)) (sv (d_assign rfl)) ?_
            refine OpsW.nil ?_
            refine Ex.then_mk ?_
            refine AB.ret ?_
            refine Ex.then_ret_mk ?_
            refine Ex.inBlock_ret_mk ?_
            refine Ex.then_ret_mk ?_
            refine Ex.then_ret_mk ?_
            refine Ex.inBlock_ret_mk ?_
            refine Ex.then_ret_mk ?_
            obtain rfl := Option.some.inj hr4
            obtain rfl := Option.some.inj hr
            exact done_ret (r1 := (eB false)) (res1 Try.results16 (rvT rfl)) (Ghost.rn [] rfl rfl (FLe.same rfl FLe.nil) HLe.nil rfl)
          · replace hr4 := iteF hr4 h5
            refine AB.skip ?_
            refine Ex.then_mk ?_
            refine AB.seq ?_
            refine AB.rw ?_
            refine wS (v := (.ptr 1 34)) (sv (d_fa rfl (fap41_2 ..))) ?_
            refine wS (v := (.row none 1 (x41.Witness.map (eL 1 (eI .u8))))) (sv (d_load rfl (ldP rfl (part1 ti39 rfl rfl)))) ?_
            refine wS (v := (eI .i64 (x41.Witness.length : Int))) (sv (d_len rfl (lenR ti39))) ?_
            refine wS (v := (eI .i64 0)) (sv (d_move rfl)) ?_
            refine OpsW.nil ?_
            refine Ex.then_mk ?_
            replace hr4 := bnd hr4; obtain ⟨res6, hL6, hr4⟩ := hr4
            refine AB.block ?_
            refine AB.loopN (fun m s h => ∃ (x50 : Int), ref09_Fits_L6 N t_Version t_Inputs t_Outputs t_Lock x39 x41 m x50 = some res6 ∧ Ghost 0 s h (mkF 63 [(1, (.ptr 0 0)), (37, (.row none 35 (t_Inputs.map E_api_Input))), (38, (eI .i64 (t_Inputs.length : Int))), (39, (eI .i64 x39)), (48, (.row none 1 (x41.Witness.map (eL 1 (eI .u8))))), (49, (eI .i64 (x41.Witness.length : Int))), (50, (eI .i64 x50))]) [some ⟨26, [(eI .u32 t_Version), (.row none 35 (t_Inputs.map E_api_Input)), (.row none 2 (t_Outputs.map E_api_Output)), (eI .u32 t_Lock)]⟩]) (n := N) ⟨0, hL6, (Ghost.rn [0] rfl rfl (FLe.same rfl (FLe.same rfl (FLe.same rfl (FLe.same rfl (FLe.same rfl (FLe.same rfl (FLe.same rfl FLe.nil))))))) (HLe.live rfl (V.les_refl _ _) rfl HLe.nil) rfl)⟩ (by rintro s h ⟨_, h0, _⟩; simp [ref09_Fits_L6] at h0) ?_
            rintro m6 s h ⟨x50, hr6, hg⟩
            refine AB.ghost hg ?_
            clear hg hL6
            rw [ref09_Fits_L6] at hr6
            refine AB.seq ?_
            refine AB.rw ?_
            refine wS (v := (eB (decide (x50 < (x41.Witness.length : Int))))) (sv (d_bin rfl rfl (bin_lss ..))) ?_
            refine OpsW.nil ?_
            refine Ex.then_mk ?_
            refine AB.seq ?_
            refine AB.cnd rfl (fun h6 => ?_) (fun h6 => ?_)
            · replace hr6 := iteT hr6 h6
              refine AB.skip ?_
              refine Ex.then_mk ?_
              refine AB.seq ?_
              refine AB.block ?_
              refine AB.seq ?_
              replace hr6 := bnd hr6; obtain ⟨x52, h_7, hr6⟩ := hr6
              refine AB.rw ?_
              refine wS (sv (d_ia rfl rfl (iaR ti39 ti42 h_7))) ?_
              refine wS (v := (.row none 1 (x52.map (eI .u8)))) (sv (d_load rfl (ldR h_7 (part1 ti42 rfl rfl)))) ?_
              refine wS (v := (.row none 1 (x52.map (eI .u8)))) (sv (d_assign rfl)) ?_
              refine OpsW.nil ?_
              refine Ex.then_mk ?_
              refine AB.seq ?_
              refine AB.rw ?_
              refine wS (v := (.row none 1 (x52.map (eI .u8)))) (sv (d_move rfl)) ?_
              refine wS (v := (eI .i64 (x52.length : Int))) (sv (d_len rfl (lenR ti42))) ?_
              refine wS (v := (eB (decide (520 < (x52.length : Int))))) (sv (d_bin rfl rfl (bin_gtr ..))) ?_
              refine OpsW.nil ?_
              refine Ex.then_mk ?_
              refine AB.cnd rfl (fun h8 => ?_) (fun h8 => ?_)
              · replace hr6 := iteT hr6 h8
                refine AB.seq ?_
                refine AB.rw ?_
                refine wS (v := (eB false)) (sv (d_assign rfl)) ?_
                refine OpsW.nil ?_
                refine Ex.then_mk ?_
                refine AB.ret ?_
                refine Ex.inBlock_ret_mk ?_
                refine Ex.then_ret_mk ?_
                refine Ex.then_ret_mk ?_
                refine Ex.inBlock_ret_mk ?_
                refine Ex.inBlock_ret_mk ?_
                refine Ex.then_ret_mk ?_
                refine Ex.then_ret_mk ?_
                refine Ex.inBlock_ret_mk ?_
                refine Ex.then_ret_mk ?_
                obtain rfl := Option.some.inj hr6
                obtain rfl := Option.some.inj hr4
                obtain rfl := Option.some.inj hr
                exact done_ret (r1 := (eB false)) (res1 Try.results16 (rvT rfl)) (Ghost.rn [] rfl rfl (FLe.same rfl FLe.nil) HLe.nil rfl)
              · replace hr6 := iteF hr6 h8
                refine AB.skip ?_
                refine Ex.inBlock_mk ?_
                refine Ex.then_mk ?_
                refine AB.rw ?_
                refine wS (v := (eI .i64 (IntKind.i64.wrap (x50 + 1)))) (sv (d_bin rfl rfl (bin_add ..))) ?_
                refine wS (v := (eI .i64 (IntKind.i64.wrap (x50 + 1)))) (sv (d_move rfl)) ?_
                refine OpsW.nil ?_
                refine Ex.then_mk ?_
                exact ⟨IntKind.i64.wrap (x50 + 1), hr6, (Ghost.rn [0] rfl rfl (FLe.same rfl (FLe.same rfl (FLe.same rfl (FLe.same rfl (FLe.same rfl (FLe.same rfl (FLe.same rfl FLe.nil))))))) (HLe.live rfl (V.les_refl _ _) rfl HLe.nil) rfl)⟩
            · replace hr6 := iteF hr6 h6
              refine AB.exit ?_
              refine Ex.then_exit_mk ?_
              refine Ex.then_exit_mk ?_
              refine Ex.inBlock_same_mk ?_
              obtain rfl := Option.some.inj hr6
              refine Ex.inBlock_mk ?_
              refine Ex.then_mk ?_
              exact hG5 _ _ _ _ (Ghost.rn [0] rfl rfl (FLe.same rfl (FLe.same rfl (FLe.same rfl (FLe.same rfl FLe.nil)))) (HLe.live rfl (V.les_refl _ _) rfl HLe.nil) rfl) (J5 hr4)
        · replace hr4 := iteF hr4 h3
          refine AB.exit ?_
          refine Ex.then_exit_mk ?_
          refine Ex.then_exit_mk ?_
          refine Ex.inBlock_same_mk ?_
          obtain rfl := Option.some.inj hr4
          refine Ex.then_mk ?_
          exact hG3 _ _ _ _ (Ghost.rn [0] rfl rfl (FLe.same rfl FLe.nil) (HLe.live rfl (V.les_refl _ _) rfl HLe.nil) rfl) (J3 hr)
      refine AB.seq ?_
      refine AB.rw ?_
      refine wS (v := (.ptr 0 2)) (sv (d_fa rfl (fap26_2 ..))) ?_
      refine wS (v := (.row none 2 (t_Outputs.map E_api_Output))) (sv (d_load rfl (ldP rfl (part1 ti24 rfl rfl)))) ?_
      refine wS (v := (eI .i64 (t_Outputs.length : Int))) (sv (d_len rfl (lenR ti24))) ?_
      refine wS (v := (eI .i64 0)) (sv (d_move rfl)) ?_
      refine OpsW.nil ?_
      refine Ex.then_mk ?_
      replace hr := bnd hr; obtain ⟨res7, hL7, hr⟩ := hr
      refine AB.block ?_
      refine AB.loopN (fun m s h => ∃ (x22 : Int), ref09_Fits_L7 N t_Version t_Inputs t_Outputs t_Lock m x22 = some res7 ∧ Ghost 0 s h (mkF 63 [(1, (.ptr 0 0)), (20, (.row none 2 (t_Outputs.map E_api_Output))), (21, (eI .i64 (t_Outputs.length : Int))), (22, (eI .i64 x22))]) [some ⟨26, [(eI .u32 t_Version), (.row none 35 (t_Inputs.map E_api_Input)), (.row none 2 (t_Outputs.map E_api_Output)), (eI .u32 t_Lock)]⟩]) (n := N) ⟨0, hL7, (Ghost.rn [0] rfl rfl (FLe.same rfl (FLe.same rfl (FLe.same rfl (FLe.same rfl FLe.nil)))) (HLe.live rfl (V.les_refl _ _) rfl HLe.nil) rfl)⟩ (by rintro s h ⟨_, h0, _⟩; simp [ref09_Fits_L7] at h0) ?_
      rintro m7 s h ⟨x22, hr7, hg⟩
      refine AB.ghost hg ?_
      clear hg hL7
      rw [ref09_Fits_L7] at hr7
      refine AB.seq ?_
      refine AB.rw ?_
      refine wS (v := (eB (decide (x22 < (t_Outputs.length : Int))))) (sv (d_bin rfl rfl (bin_lss ..))) ?_
      refine OpsW.nil ?_
      refine Ex.then_mk ?_
      refine AB.seq ?_
      refine AB.cnd rfl (fun h9 => ?_) (fun h9 => ?_)
      · replace hr7 := iteT hr7 h9
        refine AB.skip ?_
        refine Ex.then_mk ?_
        refine AB.seq ?_
        refine AB.block ?_
        refine AB.seq ?_
        replace hr7 := bnd hr7; obtain ⟨x24, h_10, hr7⟩ := hr7
        refine AB.rw ?_
        refine wS (sv (d_ia rfl rfl (iaR ti24 ti44 h_10))) ?_
        refine wS (v := (.agg [(eI .i64 x24.Value), (.row none 1 (x24.Script.map (eI .u8)))])) (sv (d_load rfl (ldR h_10 (partN (ds := [(eI .i64 x24.Value), (.row none 1 (x24.Script.map (eI .u8)))]) ti44 rfl (Nat.le_of_ble_eq_true rfl) rfl)))) ?_
        refine wS (v := (.ptr 1 0)) (h' := [some ⟨26, [(eI .u32 t_Version), (.row none 35 (t_Inputs.map E_api_Input)), (.row none 2 (t_Outputs.map E_api_Output)), (eI .u32 t_Lock)]⟩, some ⟨44, [(eI .i64 0), (.row (some true) 1 [])]⟩]) (sv (d_alloc ti44 rfl rfl rfl)) ?_
        refine wN (h' := [some ⟨26, [(eI .u32 t_Version), (.row none 35 (t_Inputs.map E_api_Input)), (.row none 2 (t_Outputs.map E_api_Output)), (eI .u32 t_Lock)]⟩, some ⟨44, [(eI .i64 x24.Value), (.row none 1 (x24.Script.map (eI .u8)))]⟩]) (sv (d_store rfl rfl (stP ti44 rfl rfl rfl (Nat.le_of_ble_eq_true rfl) rfl))) ?_
        refine OpsW.nil ?_
        refine Ex.then_mk ?_
        refine AB.seq_g fun K8 hK8 hG8 => ?_
        have J8 : ∀ (x34 : Bool), ref09_Fits_J8 N t_Version t_Inputs t_Outputs t_Lock x22 (ref09_Fits_L7 N t_Version t_Inputs t_Outputs t_Lock m7) x34 = some res7 → K8 (mkF 63 [(1, (.ptr 0 0)), (20, (.row none 2 (t_Outputs.map E_api_Output))), (21, (eI .i64 (t_Outputs.length : Int))), (22, (eI .i64 x22)), (34, (eB x34))]) [some ⟨26, [(eI .u32 t_Version), (.row none 35 (t_Inputs.map E_api_Input)), (.row none 2 (t_Outputs.map E_api_Output)), (eI .u32 t_Lock)]⟩] := by
          intro x34 hr7
          unfold ref09_Fits_J8 at hr7
          refine hK8 _ _ ?_
          refine AB.cnd rfl (fun h11 => ?_) (fun h11 => ?_)
          · replace hr7 := iteT hr7 h11
            refine AB.seq ?_
            refine AB.rw ?_
            refine wS (v := (eB false)) (sv (d_assign rfl)) ?_
            refine OpsW.nil ?_
            refine Ex.then_mk ?_
            refine AB.ret ?_
            refine Ex.inBlock_ret_mk ?_
            refine Ex.then_ret_mk ?_
            refine Ex.then_ret_mk ?_
            refine Ex.inBlock_ret_mk ?_
            refine Ex.then_ret_mk ?_
            obtain rfl := Option.some.inj hr7
            obtain rfl := Option.some.inj hr
            exact done_ret (r1 := (eB false)) (res1 Try.results16 (rvT rfl)) (Ghost.rn [] rfl rfl (FLe.same rfl FLe.nil) HLe.nil rfl)
          · replace hr7 := iteF hr7 h11
            refine AB.skip ?_
            refine Ex.inBlock_mk ?_
            refine Ex.then_mk ?_
            refine AB.rw ?_
            refine wS (v := (eI .i64 (IntKind.i64.wrap (x22 + 1)))) (sv (d_bin rfl rfl (bin_add ..))) ?_
            refine wS (v := (eI .i64 (IntKind.i64.wrap (x22 + 1)))) (sv (d_move rfl)) ?_
            refine OpsW.nil ?_
            refine Ex.then_mk ?_
            exact ⟨IntKind.i64.wrap (x22 + 1), hr7, (Ghost.rn [0] rfl rfl (FLe.same rfl (FLe.same rfl (FLe.same rfl (FLe.same rfl FLe.nil)))) (HLe.live rfl (V.les_refl _ _) rfl HLe.nil) rfl)⟩
        rcases Bool.eq_false_or_eq_true (decide (x24.Value < 0)) with h12 | h12
        · replace hr7 := iteT hr7 h12
          refine AB.rw ?_
          refine wS (v := (.ptr 1 0)) (sv (d_fa rfl (fap44_0 ..))) ?_
          refine wS (v := (eI .i64 x24.Value)) (sv (d_load rfl (ldP rfl (part1 ti2 rfl rfl)))) ?_
          refine wS (v := (eB (decide (x24.Value < 0)))) (sv (d_bin rfl rfl (bin_lss ..))) ?_
          refine wS (v := (eB (decide (x24.Value < 0)))) (sv (d_move rfl)) ?_
          refine wS (svX rfl rfl h12) ?_
          refine wS (svX rfl rfl h12) ?_
          refine wS (svX rfl rfl h12) ?_
          refine wS (svX rfl rfl h12) ?_
          refine wS (v := (eB true)) (sv (d_pickT rfl h12 rfl)) ?_
          refine OpsW.nil ?_
          refine Ex.then_mk ?_
          exact hG8 _ _ _ _ (Ghost.rn [0] rfl rfl (FLe.same rfl (FLe.same rfl (FLe.same rfl (FLe.same rfl (FLe.same rfl FLe.nil))))) (HLe.live rfl (V.les_refl _ _) rfl HLe.nil) rfl) (J8 true hr7)
        · replace hr7 := iteF hr7 h12
          refine AB.rw ?_
          refine wS (v := (.ptr 1 0)) (sv (d_fa rfl (fap44_0 ..))) ?_
          refine wS (v := (eI .i64 x24.Value)) (sv (d_load rfl (ldP rfl (part1 ti2 rfl rfl)))) ?_
          refine wS (v := (eB (decide (x24.Value < 0)))) (sv (d_bin rfl rfl (bin_lss ..))) ?_
          refine wS (v := (eB (decide (x24.Value < 0)))) (sv (d_move rfl)) ?_
          refine wS (v := (.ptr 1 1)) (svG rfl rfl h12 (d_fa rfl (fap44_1 ..))) ?_
          refine wS (v := (.row none 1 (x24.Script.map (eI .u8)))) (svG rfl rfl h12 (d_load rfl (ldP rfl (part1 ti42 rfl rfl)))) ?_
          refine wS (v := (eI .i64 (x24.Script.length : Int))) (svG rfl rfl h12 (d_len rfl (lenR ti42))) ?_
          refine wS (v := (eB (decide (520 < (x24.Script.length : Int))))) (svG rfl rfl h12 (d_bin rfl rfl (bin_gtr ..))) ?_
          refine wS (v := (eB (decide (520 < (x24.Script.length : Int))))) (sv (d_pickF rfl h12 rfl)) ?_
          refine OpsW.nil ?_
          refine Ex.then_mk ?_
          exact hG8 _ _ _ _ (Ghost.rn [0] rfl rfl (FLe.same rfl (FLe.same rfl (FLe.same rfl (FLe.same rfl (FLe.same rfl FLe.nil))))) (HLe.live rfl (V.les_refl _ _) rfl HLe.nil) rfl) (J8 (decide (520 < (x24.Script.length : Int))) hr7)
      · replace hr7 := iteF hr7 h9
        refine AB.exit ?_
        refine Ex.then_exit_mk ?_
        refine Ex.then_exit_mk ?_
        refine Ex.inBlock_same_mk ?_
        obtain rfl := Option.some.inj hr7
        refine Ex.then_mk ?_
        exact hG2 _ _ _ _ (Ghost.rn [0] rfl rfl (FLe.same rfl FLe.nil) (HLe.live rfl (V.les_refl _ _) rfl HLe.nil) rfl) (J2 hr)
  rcases Bool.eq_false_or_eq_true (decide (64 < (t_Inputs.length : Int))) with h13 | h13
  · replace hr := iteT hr h13
    refine AB.rw ?_
    refine wS (v := (.ptr 0 1)) (sv (d_fa rfl (fap26_1 ..))) ?_
    refine wS (v := (.row none 35 (t_Inputs.map E_api_Input))) (sv (d_load rfl (ldP rfl (part1 ti23 rfl rfl)))) ?_
    refine wS (v := (eI .i64 (t_Inputs.length : Int))) (sv (d_len rfl (lenR ti23))) ?_
    refine wS (v := (eB (decide (64 < (t_Inputs.length : Int))))) (sv (d_bin rfl rfl (bin_gtr ..))) ?_
    refine wS (v := (eB (decide (64 < (t_Inputs.length : Int))))) (sv (d_move rfl)) ?_
    refine wS (svX rfl rfl h13) ?_
    refine wS (svX rfl rfl h13) ?_
    refine wS (svX rfl rfl h13) ?_
    refine wS (svX rfl rfl h13) ?_
    refine wS (v := (eB true)) (sv (d_pickT rfl h13 rfl)) ?_
    refine OpsW.nil ?_
    refine Ex.then_mk ?_
    exact hG1 _ _ _ _ (Ghost.rn [0] rfl rfl (FLe.same rfl (FLe.same rfl FLe.nil)) (HLe.live rfl (V.les_refl _ _) rfl HLe.nil) rfl) (J1 true hr)
  · replace hr := iteF hr h13
    refine AB.rw ?_
    refine wS (v := (.ptr 0 1)) (sv (d_fa rfl (fap26_1 ..))) ?_
    refine wS (v := (.row none 35 (t_Inputs.map E_api_Input))) (sv (d_load rfl (ldP rfl (part1 ti23 rfl rfl)))) ?_
    refine wS (v := (eI .i64 (t_Inputs.length : Int))) (sv (d_len rfl (lenR ti23))) ?_
    refine wS (v := (eB (decide (64 < (t_Inputs.length : Int))))) (sv (d_bin rfl rfl (bin_gtr ..))) ?_
    refine wS (v := (eB (decide (64 < (t_Inputs.length : Int))))) (sv (d_move rfl)) ?_
    refine wS (v := (.ptr 0 2)) (svG rfl rfl h13 (d_fa rfl (fap26_2 ..))) ?_
    refine wS (v := (.row none 2 (t_Outputs.map E_api_Output))) (svG rfl rfl h13 (d_load rfl (ldP rfl (part1 ti24 rfl rfl)))) ?_
    refine wS (v := (eI .i64 (t_Outputs.length : Int))) (svG rfl rfl h13 (d_len rfl (lenR ti24))) ?_
    refine wS (v := (eB (decide (64 < (t_Outputs.length : Int))))) (svG rfl rfl h13 (d_bin rfl rfl (bin_gtr ..))) ?_
    refine wS (v := (eB (decide (64 < (t_Outputs.length : Int))))) (sv (d_pickF rfl h13 rfl)) ?_
    refine OpsW.nil ?_
    refine Ex.then_mk ?_
    exact hG1 _ _ _ _ (Ghost.rn [0] rfl rfl (FLe.same rfl (FLe.same rfl FLe.nil)) (HLe.live rfl (V.les_refl _ _) rfl HLe.nil) rfl) (J1 (decide (64 < (t_Outputs.length : Int))) hr)
set_option maxRecDepth 20000 in
set_option maxHeartbeats 1000000 in
theorem ref09_Null_ok (N : Nat) (o_Tx : List Int) (o_Index : Int) (r : Bool) (hr : ref09_Null N o_Tx o_Index = some r) :
    Vm.Fn Try.prog 17 [] [(.agg (ar32 (eI .u8) o_Tx [(eI .u32 o_Index)]))] (eB r) [] := by
  refine fn_ab Try.func17 rfl (by kernel_rfl) Try.ntmps17 (Nat.le_of_ble_eq_true rfl) rfl (fr := [(0, (.agg (ar32 (eI .u8) o_Tx [(eI .u32 o_Index)])))]) rfl ?_
  unfold ref09_Null at hr
  refine AB.seq ?_
  refine AB.rw ?_
  refine wS (v := (.ptr 0 0)) (h' := [some ⟨38, (ar32 (eI .u8) o_Tx [(eI .u32 o_Index)])⟩]) (sv (d_box rfl rfl rfl rfl)) ?_
  refine wS (v := (eB false)) (sv (d_assign rfl)) ?_
  refine OpsW.nil ?_
  refine Ex.then_mk ?_
  refine AB.seq ?_
  refine AB.rw ?_
  refine wS (v := (.agg (ar32 (eI .u8) o_Tx [(eI .u32 o_Index)]))) (sv (d_load rfl (ldP rfl (partN (ds := (ar32 (eI .u8) o_Tx [(eI .u32 o_Index)])) ti38 rfl (Nat.le_of_ble_eq_true rfl) rfl)))) ?_
  refine wS (v := (.agg (ar32 (eI .u8) (List.replicate 32 0) [(eI .u32 4294967295)]))) (sv (d_build rfl (bldS ti38 pl38 rfl))) ?_
  refine wS (v := (eB (aeq32 o_Tx (List.replicate 32 0) ((o_Index == 4294967295) && true)))) (sv (d_bin rfl rfl (bin_eqlP (d := 9) ti38 rfl ft38 (Nat.le_of_ble_eq_true rfl) eg38 rfl rfl rfl rfl rfl))) ?_
  refine wS (v := (eB (aeq32 o_Tx (List.replicate 32 0) ((o_Index == 4294967295) && true)))) (sv (d_assign rfl)) ?_
  refine OpsW.nil ?_
  refine Ex.then_mk ?_
  refine AB.ret ?_
  obtain rfl := Option.some.inj hr
  exact done_ret (r1 := (eB (aeq32 o_Tx (List.replicate 32 0) ((o_Index == 4294967295) && true)))) (res1 Try.results17 (rvT rfl)) (Ghost.rn [] rfl rfl (FLe.same rfl FLe.nil) HLe.nil rfl)
set_option maxRecDepth 20000 in
set_option maxHeartbeats 1000000 in
theorem ref09_Coinbase_ok (N : Nat) (t_Version : Int) (t_Inputs : List S_api_Input) (t_Outputs : List S_api_Output) (t_Lock : Int) (r : Bool) (hr : ref09_Coinbase N t_Version t_Inputs t_Outputs t_Lock = some r) :
    Vm.Fn Try.prog 18 [] [(.agg [(eI .u32 t_Version), (.row none 35 (t_Inputs.map E_api_Input)), (.row none 2 (t_Outputs.map E_api_Output)), (eI .u32 t_Lock)])] (eB r) [] := by
  refine fn_ab Try.func18 rfl (by kernel_rfl) Try.ntmps18 (Nat.le_of_ble_eq_true rfl) rfl (fr := [(0, (.agg [(eI .u32 t_Version), (.row none 35 (t_Inputs.map E_api_Input)), (.row none 2 (t_Outputs.map E_api_Output)), (eI .u32 t_Lock)]))]) rfl ?_
  unfold ref09_Coinbase at hr
  refine AB.seq ?_
  refine AB.rw ?_
  refine wS (v := (.ptr 0 0)) (h' := [some ⟨26, [(eI .u32 t_Version), (.row none 35 (t_Inputs.map E_api_Input)), (.row none 2 (t_Outputs.map E_api_Output)), (eI .u32 t_Lock)]⟩]) (sv (d_box rfl rfl rfl rfl)) ?_
  refine wS (v := (eB false)) (sv (d_assign rfl)) ?_
  refine OpsW.nil ?_
  refine Ex.then_mk ?_
  refine AB.seq_g fun K1 hK1 hG1 => ?_
  have J1 : ∀ (x2 : Bool), ref09_Coinbase_J1 N x2 = some r → K1 (mkF 15 [(2, (eB x2))]) [] := by
    intro x2 hr
    unfold ref09_Coinbase_J1 at hr
    refine hK1 _ _ ?_
    refine AB.ret ?_
    obtain rfl := Option.some.inj hr
    exact done_ret (r1 := (eB x2)) (res1 Try.results18 (rvT rfl)) (Ghost.rn [] rfl rfl (FLe.same rfl FLe.nil) HLe.nil rfl)
  rcases Bool.eq_false_or_eq_true ((t_Inputs.length : Int) == 1) with h1 | h1
  · replace hr := iteT hr h1
    replace hr := bnd hr; obtain ⟨x10, h_2, hr⟩ := hr
    replace hr := bnd hr; obtain ⟨x13, h_3, hr⟩ := hr
    refine AB.rw ?_
    refine wS (v := (.ptr 0 1)) (sv (d_fa rfl (fap26_1 ..))) ?_
    refine wS (v := (.row none 35 (t_Inputs.map E_api_Input))) (sv (d_load rfl (ldP rfl (part1 ti23 rfl rfl)))) ?_
    refine wS (v := (eI .i64 (t_Inputs.length : Int))) (sv (d_len rfl (lenR ti23))) ?_
    refine wS (v := (eB ((t_Inputs.length : Int) == 1))) (sv (d_bin rfl rfl (bin_eql ..))) ?_
    refine wS (v := (eB ((t_Inputs.length : Int) == 1))) (sv (d_move rfl)) ?_
    refine wS (v := (.ptr 0 1)) (svG rfl rfl h1 (d_fa rfl (fap26_1 ..))) ?_
    refine wS (v := (.row none 35 (t_Inputs.map E_api_Input))) (svG rfl rfl h1 (d_load rfl (ldP rfl (part1 ti23 rfl rfl)))) ?_
    refine wS (svG rfl rfl h1 (d_ia rfl rfl (iaR ti23 ti41 h_2))) ?_
    refine wS (svG rfl rfl h1 (d_fa rfl (fae41_0 ..))) ?_
    refine wS (v := (E_api_OutPoint x10.Prev)) (svG rfl rfl h1 (d_load rfl (ldR h_2 (partN (ds := (ar32 (eI .u8) x10.Prev.Tx [(eI .u32 x10.Prev.Index)])) ti38 rfl (Nat.le_of_ble_eq_true rfl) rfl)))) ?_
    refine wCG (v := (eB x13)) (h' := [some ⟨26, [(eI .u32 t_Version), (.row none 35 (t_Inputs.map E_api_Input)), (.row none 2 (t_Outputs.map E_api_Output)), (eI .u32 t_Lock)]⟩]) rfl rfl h1 rfl (Vm.Fn.pure (ref09_Null_ok N x10.Prev.Tx x10.Prev.Index x13 h_3) rfl rfl) ?_
    refine wS (v := (eB x13)) (sv (d_pickT rfl h1 rfl)) ?_
    refine wS (v := (eB x13)) (sv (d_assign rfl)) ?_
    refine OpsW.nil ?_
    refine Ex.then_mk ?_
    exact hG1 _ _ _ _ (Ghost.rn [] rfl rfl (FLe.same rfl FLe.nil) HLe.nil rfl) (J1 x13 hr)
  · replace hr := iteF hr h1
    refine AB.rw ?_
    refine wS (v := (.ptr 0 1)) (sv (d_fa rfl (fap26_1 ..))) ?_
    refine wS (v := (.row none 35 (t_Inputs.map E_api_Input))) (sv (d_load rfl (ldP rfl (part1 ti23 rfl rfl)))) ?_
    refine wS (v := (eI .i64 (t_Inputs.length : Int))) (sv (d_len rfl (lenR ti23))) ?_
    refine wS (v := (eB ((t_Inputs.length : Int) == 1))) (sv (d_bin rfl rfl (bin_eql ..))) ?_
    refine wS (v := (eB ((t_Inputs.length : Int) == 1))) (sv (d_move rfl)) ?_
    refine wS (svX rfl rfl h1) ?_
    refine wS (svX rfl rfl h1) ?_
    refine wS (svX rfl rfl h1) ?_
    refine wS (svX rfl rfl h1) ?_
    refine wS (svX rfl rfl h1) ?_
    refine wS (svX rfl rfl h1) ?_
    refine wS (v := (eB false)) (sv (d_pickF rfl h1 rfl)) ?_
    refine wS (v := (eB false)) (sv (d_assign rfl)) ?_
    refine OpsW.nil ?_
    refine Ex.then_mk ?_
    exact hG1 _ _ _ _ (Ghost.rn [] rfl rfl (FLe.same rfl FLe.nil) HLe.nil rfl) (J1 false hr)
set_option maxRecDepth 20000 in
set_option maxHeartbeats 1000000 in
theorem ref09_Check_ok (N : Nat) (t_Version : Int) (t_Inputs : List S_api_Input) (t_Outputs : List S_api_Output) (t_Lock : Int) (r : Int) (hr : ref09_Check N t_Version t_Inputs t_Outputs t_Lock = some r) :
    Vm.Fn Try.prog 12 [] [(.agg [(eI .u32 t_Version), (.row none 35 (t_Inputs.map E_api_Input)), (.row none 2 (t_Outputs.map E_api_Output)), (eI .u32 t_Lock)])] (eI .i64 r) [] := by
  refine fn_ab Try.func12 rfl (by kernel_rfl) Try.ntmps12 (Nat.le_of_ble_eq_true rfl) rfl (fr := [(0, (.agg [(eI .u32 t_Version), (.row none 35 (t_Inputs.map E_api_Input)), (.row none 2 (t_Outputs.map E_api_Output)), (eI .u32 t_Lock)]))]) rfl ?_
  unfold ref09_Check at hr
  refine AB.seq ?_
  refine AB.rw ?_
  refine wS (v := (.ptr 0 0)) (h' := [some ⟨26, [(eI .u32 t_Version), (.row none 35 (t_Inputs.map E_api_Input)), (.row none 2 (t_Outputs.map E_api_Output)), (eI .u32 t_Lock)]⟩]) (sv (d_box rfl rfl rfl rfl)) ?_
  refine wS (v := (eI .i64 0)) (sv (d_assign rfl)) ?_
  refine OpsW.nil ?_
  refine Ex.then_mk ?_
  refine AB.seq ?_
  refine AB.seq ?_
  replace hr := bnd hr; obtain ⟨x11, h_1, hr⟩ := hr
  refine AB.rw ?_
  refine wS (v := (.agg [(eI .u32 t_Version), (.row none 35 (t_Inputs.map E_api_Input)), (.row none 2 (t_Outputs.map E_api_Output)), (eI .u32 t_Lock)])) (sv (d_load rfl (ldP rfl (partN (ds := [(eI .u32 t_Version), (.row none 35 (t_Inputs.map E_api_Input)), (.row none 2 (t_Outputs.map E_api_Output)), (eI .u32 t_Lock)]) ti26 rfl (Nat.le_of_ble_eq_true rfl) rfl)))) ?_
  refine wC (v := (eB x11)) (h' := [some ⟨26, [(eI .u32 t_Version), (.row none 35 (t_Inputs.map E_api_Input)), (.row none 2 (t_Outputs.map E_api_Output)), (eI .u32 t_Lock)]⟩]) rfl (Vm.Fn.pure (ref09_Fits_ok N t_Version t_Inputs t_Outputs t_Lock x11 h_1) rfl rfl) ?_
  refine wS (v := (eB (!x11))) (sv (d_un rfl (un_not _ _))) ?_
  refine OpsW.nil ?_
  refine Ex.then_mk ?_
  refine AB.cnd rfl (fun h2 => ?_) (fun h2 => ?_)
  · replace hr := iteT hr h2
    refine AB.seq ?_
    refine AB.rw ?_
    refine wS (v := (eI .i64 4)) (sv (d_assign rfl)) ?_
    refine OpsW.nil ?_
    refine Ex.then_mk ?_
    refine AB.ret ?_
    refine Ex.then_ret_mk ?_
    obtain rfl := Option.some.inj hr
    exact done_ret (r1 := (eI .i64 4)) (res1 Try.results12 (rvT rfl)) (Ghost.rn [] rfl rfl (FLe.same rfl FLe.nil) HLe.nil rfl)
  · replace hr := iteF hr h2
    refine AB.skip ?_
    refine Ex.then_mk ?_
    refine AB.seq ?_
    refine AB.seq_g fun K1 hK1 hG1 => ?_
    have J1 : ∀ (x22 : Bool), ref09_Check_J1 N t_Version t_Inputs t_Outputs t_Lock x22 = some r → K1 (mkF 81 [(1, (.ptr 0 0)), (22, (eB x22))]) [some ⟨26, [(eI .u32 t_Version), (.row none 35 (t_Inputs.map E_api_Input)), (.row none 2 (t_Outputs.map E_api_Output)), (eI .u32 t_Lock)]⟩] := by
      intro x22 hr
      unfold ref09_Check_J1 at hr
      refine hK1 _ _ ?_
      refine AB.cnd rfl (fun h3 => ?_) (fun h3 => ?_)
      · replace hr := iteT hr h3
        refine AB.seq ?_
        refine AB.rw ?_
        refine wS (v := (eI .i64 93)) (sv (d_assign rfl)) ?_
        refine OpsW.nil ?_
        refine Ex.then_mk ?_
        refine AB.ret ?_
        refine Ex.then_ret_mk ?_
        obtain rfl := Option.some.inj hr
        exact done_ret (r1 := (eI .i64 93)) (res1 Try.results12 (rvT rfl)) (Ghost.rn [] rfl rfl (FLe.same rfl FLe.nil) HLe.nil rfl)
      · replace hr := iteF hr h3
        refine AB.skip ?_
        refine Ex.then_mk ?_
        refine AB.seq ?_
        refine AB.rw ?_
        refine wS (v := (eI .i64 0)) (sv (d_assign rfl)) ?_
        refine OpsW.nil ?_
        refine Ex.then_mk ?_
        refine AB.seq_g fun K2 hK2 hG2 => ?_
        have J2 : ∀ (sum : Int), ref09_Check_J2 N t_Version t_Inputs t_Outputs t_Lock sum = some r → K2 (mkF 81 [(1, (.ptr 0 0)), (3, (eI .i64 sum))]) [some ⟨26, [(eI .u32 t_Version), (.row none 35 (t_Inputs.map E_api_Input)), (.row none 2 (t_Outputs.map E_api_Output)), (eI .u32 t_Lock)]⟩] := by
          intro sum hr
          unfold ref09_Check_J2 at hr
          refine hK2 _ _ ?_
          refine AB.seq ?_
          refine AB.seq ?_
          refine AB.rw ?_
          refine wS (v := (eI .i64 sum)) (sv (d_move rfl)) ?_
          refine wS (v := (eB (decide (2100000000000000 < sum)))) (sv (d_bin rfl rfl (bin_gtr ..))) ?_
          refine OpsW.nil ?_
          refine Ex.then_mk ?_
          refine AB.cnd rfl (fun h4 => ?_) (fun h4 => ?_)
          · replace hr := iteT hr h4
            refine AB.seq ?_
            refine AB.rw ?_
            refine wS (v := (eI .i64 90)) (sv (d_assign rfl)) ?_
            refine OpsW.nil ?_
            refine Ex.then_mk ?_
            refine AB.ret ?_
            refine Ex.then_ret_mk ?_
            obtain rfl := Option.some.inj hr
            exact done_ret (r1 := (eI .i64 90)) (res1 Try.results12 (rvT rfl)) (Ghost.rn [] rfl rfl (FLe.same rfl FLe.nil) HLe.nil rfl)
          · replace hr := iteF hr h4
            refine AB.skip ?_
            refine Ex.then_mk ?_
            refine AB.seq_g fun K3 hK3 hG3 => ?_
            have J3 : ref09_Check_J3 N t_Version t_Inputs t_Outputs t_Lock = some r → K3 (mkF 81 [(1, (.ptr 0 0))]) [some ⟨26, [(eI .u32 t_Version), (.row none 35 (t_Inputs.map E_api_Input)), (.row none 2 (t_Outputs.map E_api_Output)), (eI .u32 t_Lock)]⟩] := by
              intro hr
              unfold ref09_Check_J3 at hr
              refine hK3 _ _ ?_
              refine AB.seq_g fun K4 hK4 hG4 => ?_
              have J4 : ref09_Check_J4 N = some r → K4 (mkF 81 []) [] := by
                intro hr
                unfold ref09_Check_J4 at hr
                refine hK4 _ _ ?_
                refine AB.seq ?_
                refine AB.rw ?_
                refine wS (v := (eI .i64 0)) (sv (d_assign rfl)) ?_
                refine OpsW.nil ?_
                refine Ex.then_mk ?_
                refine AB.ret ?_
                obtain rfl := Option.some.inj hr
                exact done_ret (r1 := (eI .i64 0)) (res1 Try.results12 (rvT rfl)) (Ghost.rn [] rfl rfl (FLe.same rfl FLe.nil) HLe.nil rfl)
              refine AB.seq ?_
              refine AB.rw ?_
              refine wS (v := (.ptr 0 1)) (sv (d_fa rfl (fap26_1 ..))) ?_
              refine wS (v := (.row none 35 (t_Inputs.map E_api_Input))) (sv (d_load rfl (ldP rfl (part1 ti23 rfl rfl)))) ?_
              refine wS (v := (eI .i64 (t_Inputs.length : Int))) (sv (d_len rfl (lenR ti23))) ?_
              refine wS (v := (eI .i64 0)) (sv (d_move rfl)) ?_
              refine OpsW.nil ?_
              refine Ex.then_mk ?_
              replace hr := bnd hr; obtain ⟨res5, hL5, hr⟩ := hr
              refine AB.block ?_
              refine AB.loopN (fun m s h => ∃ (x68 : Int), ref09_Check_L5 N t_Version t_Inputs t_Outputs t_Lock m x68 = some res5 ∧ Ghost 0 s h (mkF 81 [(1, (.ptr 0 0)), (66, (.row none 35 (t_Inputs.map E_api_Input))), (67, (eI .i64 (t_Inputs.length : Int))), (68, (eI .i64 x68))]) [some ⟨26, [(eI .u32 t_Version), (.row none 35 (t_Inputs.map E_api_Input)), (.row none 2 (t_Outputs.map E_api_Output)), (eI .u32 t_Lock)]⟩]) (n := N) ⟨0, hL5, (Ghost.rn [0] rfl rfl (FLe.same rfl (FLe.same rfl (FLe.same rfl (FLe.same rfl FLe.nil)))) (HLe.live rfl (V.les_refl _ _) rfl HLe.nil) rfl)⟩ (by rintro s h ⟨_, h0, _⟩; simp [ref09_Check_L5] at h0) ?_
              rintro m5 s h ⟨x68, hr5, hg⟩
              refine AB.ghost hg ?_
              clear hg hL5
              rw [ref09_Check_L5] at hr5
              refine AB.seq ?_
              refine AB.rw ?_
              refine wS (v := (eB (decide (x68 < (t_Inputs.length : Int))))) (sv (d_bin rfl rfl (bin_lss ..))) ?_
              refine OpsW.nil ?_
              refine Ex.then_mk ?_
              refine AB.seq ?_
              refine AB.cnd rfl (fun h5 => ?_) (fun h5 => ?_)
              · replace hr5 := iteT hr5 h5
                refine AB.skip ?_
                refine Ex.then_mk ?_
                refine AB.seq ?_
                refine AB.block ?_
                refine AB.seq ?_
                replace hr5 := bnd hr5; obtain ⟨x70, h_6, hr5⟩ := hr5
                refine AB.rw ?_
                refine wS (sv (d_ia rfl rfl (iaR ti23 ti41 h_6))) ?_
                refine wS (v := (E_api_Input x70)) (sv (d_load rfl (ldR h_6 (partN (ds := (ar32 (eI .u8) x70.Prev.Tx [(eI .u32 x70.Prev.Index), (eI .u32 x70.Sequence), (.row none 1 (x70.Witness.map (eL 1 (eI .u8))))])) ti41 rfl (Nat.le_of_ble_eq_true rfl) rfl)))) ?_
                refine wS (v := (.ptr 1 0)) (h' := [some ⟨26, [(eI .u32 t_Version), (.row none 35 (t_Inputs.map E_api_Input)), (.row none 2 (t_Outputs.map E_api_Output)), (eI .u32 t_Lock)]⟩, some ⟨41, (ar32 (eI .u8) (List.replicate 32 0) [(eI .u32 0), (eI .u32 0), (.row (some true) 1 [])])⟩]) (sv (d_alloc ti41 rfl rfl rfl)) ?_
                refine wN (h' := [some ⟨26, [(eI .u32 t_Version), (.row none 35 (t_Inputs.map E_api_Input)), (.row none 2 (t_Outputs.map E_api_Output)), (eI .u32 t_Lock)]⟩, some ⟨41, C_api_Input x70⟩]) (sv (d_store rfl rfl (stP ti41 rfl rfl rfl (Nat.le_of_ble_eq_true rfl) rfl))) ?_
                refine OpsW.nil ?_
                refine Ex.then_mk ?_
                refine AB.seq_g fun K6 hK6 hG6 => ?_
                have J6 : ∀ (x79 : Bool), ref09_Check_J6 N t_Version t_Inputs t_Outputs t_Lock x68 (ref09_Check_L5 N t_Version t_Inputs t_Outputs t_Lock m5) x79 = some res5 → K6 (mkF 81 [(1, (.ptr 0 0)), (66, (.row none 35 (t_Inputs.map E_api_Input))), (67, (eI .i64 (t_Inputs.length : Int))), (68, (eI .i64 x68)), (79, (eB x79))]) [some ⟨26, [(eI .u32 t_Version), (.row none 35 (t_Inputs.map E_api_Input)), (.row none 2 (t_Outputs.map E_api_Output)), (eI .u32 t_Lock)]⟩] := by
                  intro x79 hr5
                  unfold ref09_Check_J6 at hr5
                  refine hK6 _ _ ?_
                  refine AB.cnd rfl (fun h7 => ?_) (fun h7 => ?_)
                  · replace hr5 := iteT hr5 h7
                    refine AB.seq ?_
                    refine AB.rw ?_
                    refine wS (v := (eI .i64 92)) (sv (d_assign rfl)) ?_
                    refine OpsW.nil ?_
                    refine Ex.then_mk ?_
                    refine AB.ret ?_
                    refine Ex.inBlock_ret_mk ?_
                    refine Ex.then_ret_mk ?_
                    refine Ex.then_ret_mk ?_
                    refine Ex.inBlock_ret_mk ?_
                    refine Ex.then_ret_mk ?_
                    obtain rfl := Option.some.inj hr5
                    obtain rfl := Option.some.inj hr
                    exact done_ret (r1 := (eI .i64 92)) (res1 Try.results12 (rvT rfl)) (Ghost.rn [] rfl rfl (FLe.same rfl FLe.nil) HLe.nil rfl)
                  · replace hr5 := iteF hr5 h7
                    refine AB.skip ?_
                    refine Ex.inBlock_mk ?_
                    refine Ex.then_mk ?_
                    refine AB.rw ?_
                    refine wS (v := (eI .i64 (IntKind.i64.wrap (x68 + 1)))) (sv (d_bin rfl rfl (bin_add ..))) ?_
                    refine wS (v := (eI .i64 (IntKind.i64.wrap (x68 + 1)))) (sv (d_move rfl)) ?_
                    refine OpsW.nil ?_
                    refine Ex.then_mk ?_
                    exact ⟨IntKind.i64.wrap (x68 + 1), hr5, (Ghost.rn [0] rfl rfl (FLe.same rfl (FLe.same rfl (FLe.same rfl (FLe.same rfl FLe.nil)))) (HLe.live rfl (V.les_refl _ _) rfl HLe.nil) rfl)⟩
                replace hr5 := bnd hr5; obtain ⟨x74, h_8, hr5⟩ := hr5
                rcases Bool.eq_false_or_eq_true x74 with h9 | h9
                · replace hr5 := iteT hr5 h9
                  replace hr5 := bnd hr5; obtain ⟨x77, h_10, hr5⟩ := hr5
                  refine AB.rw ?_
                  refine wS (v := (.ptr 1 0)) (sv (d_fa rfl (fap41_0 ..))) ?_
                  refine wS (v := (E_api_OutPoint x70.Prev)) (sv (d_load rfl (ldP rfl (partN (ds := (ar32 (eI .u8) x70.Prev.Tx [(eI .u32 x70.Prev.Index)])) ti38 rfl (Nat.le_of_ble_eq_true rfl) rfl)))) ?_
                  refine wC (v := (eB x74)) (h' := [some ⟨26, [(eI .u32 t_Version), (.row none 35 (t_Inputs.map E_api_Input)), (.row none 2 (t_Outputs.map E_api_Output)), (eI .u32 t_Lock)]⟩, some ⟨41, C_api_Input x70⟩]) rfl (Vm.Fn.pure (ref09_Null_ok N x70.Prev.Tx x70.Prev.Index x74 h_8) rfl rfl) ?_
                  refine wS (v := (eB x74)) (sv (d_move rfl)) ?_
                  refine wS (v := (.agg [(eI .u32 t_Version), (.row none 35 (t_Inputs.map E_api_Input)), (.row none 2 (t_Outputs.map E_api_Output)), (eI .u32 t_Lock)])) (svG rfl rfl h9 (d_load rfl (ldP rfl (partN (ds := [(eI .u32 t_Version), (.row none 35 (t_Inputs.map E_api_Input)), (.row none 2 (t_Outputs.map E_api_Output)), (eI .u32 t_Lock)]) ti26 rfl (Nat.le_of_ble_eq_true rfl) rfl)))) ?_
                  refine wCG (v := (eB x77)) (h' := [some ⟨26, [(eI .u32 t_Version), (.row none 35 (t_Inputs.map E_api_Input)), (.row none 2 (t_Outputs.map E_api_Output)), (eI .u32 t_Lock)]⟩, some ⟨41, C_api_Input x70⟩]) rfl rfl h9 rfl (Vm.Fn.pure (ref09_Coinbase_ok N t_Version t_Inputs t_Outputs t_Lock x77 h_10) rfl rfl) ?_
                  refine wS (v := (eB (!x77))) (svG rfl rfl h9 (d_un rfl (un_not _ _))) ?_
                  refine wS (v := (eB (!x77))) (sv (d_pickT rfl h9 rfl)) ?_
                  refine OpsW.nil ?_
                  refine Ex.then_mk ?_
                  exact hG6 _ _ _ _ (Ghost.rn [0] rfl rfl (FLe.same rfl (FLe.same rfl (FLe.same rfl (FLe.same rfl (FLe.same rfl FLe.nil))))) (HLe.live rfl (V.les_refl _ _) rfl HLe.nil) rfl) (J6 (!x77) hr5)
                · replace hr5 := iteF hr5 h9
                  refine AB.rw ?_
                  refine wS (v := (.ptr 1 0)) (sv (d_fa rfl (fap41_0 ..))) ?_
                  refine wS (v := (E_api_OutPoint x70.Prev)) (sv (d_load rfl (ldP rfl (partN (ds := (ar32 (eI .u8) x70.Prev.Tx [(eI .u32 x70.Prev.Index)])) ti38 rfl (Nat.le_of_ble_eq_true rfl) rfl)))) ?_
                  refine wC (v := (eB x74)) (h' := [some ⟨26, [(eI .u32 t_Version), (.row none 35 (t_Inputs.map E_api_Input)), (.row none 2 (t_Outputs.map E_api_Output)), (eI .u32 t_Lock)]⟩, some ⟨41, C_api_Input x70⟩]) rfl (Vm.Fn.pure (ref09_Null_ok N x70.Prev.Tx x70.Prev.Index x74 h_8) rfl rfl) ?_
                  refine wS (v := (eB x74)) (sv (d_move rfl)) ?_
                  refine wS (svX rfl rfl h9) ?_
                  refine wS (svX rfl rfl h9) ?_
                  refine wS (svX rfl rfl h9) ?_
                  refine wS (v := (eB false)) (sv (d_pickF rfl h9 rfl)) ?_
                  refine OpsW.nil ?_
                  refine Ex.then_mk ?_
                  exact hG6 _ _ _ _ (Ghost.rn [0] rfl rfl (FLe.same rfl (FLe.same rfl (FLe.same rfl (FLe.same rfl (FLe.same rfl FLe.nil))))) (HLe.live rfl (V.les_refl _ _) rfl HLe.nil) rfl) (J6 false hr5)
              · replace hr5 := iteF hr5 h5
                refine AB.exit ?_
                refine Ex.then_exit_mk ?_
                refine Ex.then_exit_mk ?_
                refine Ex.inBlock_same_mk ?_
                obtain rfl := Option.some.inj hr5
                refine Ex.then_mk ?_
                exact hG4 _ _ _ _ (Ghost.rn [] rfl rfl FLe.nil HLe.nil rfl) (J4 hr)
            refine AB.seq ?_
            refine AB.rw ?_
            refine wS (v := (.ptr 0 1)) (sv (d_fa rfl (fap26_1 ..))) ?_
            refine wS (v := (.row none 35 (t_Inputs.map E_api_Input))) (sv (d_load rfl (ldP rfl (part1 ti23 rfl rfl)))) ?_
            refine wS (v := (eI .i64 (t_Inputs.length : Int))) (sv (d_len rfl (lenR ti23))) ?_
            refine wS (v := (eI .i64 0)) (sv (d_move rfl)) ?_
            refine OpsW.nil ?_
            refine Ex.then_mk ?_
            replace hr := bnd hr; obtain ⟨res7, hL7, hr⟩ := hr
            refine AB.block ?_
            refine AB.loopN (fun m s h => ∃ (x43 : Int), ref09_Check_L7 N t_Version t_Inputs t_Outputs t_Lock m x43 = some res7 ∧ Ghost 0 s h (mkF 81 [(1, (.ptr 0 0)), (42, (eI .i64 (t_Inputs.length : Int))), (43, (eI .i64 x43))]) [some ⟨26, [(eI .u32 t_Version), (.row none 35 (t_Inputs.map E_api_Input)), (.row none 2 (t_Outputs.map E_api_Output)), (eI .u32 t_Lock)]⟩]) (n := N) ⟨0, hL7, (Ghost.rn [0] rfl rfl (FLe.same rfl (FLe.same rfl (FLe.same rfl FLe.nil))) (HLe.live rfl (V.les_refl _ _) rfl HLe.nil) rfl)⟩ (by rintro s h ⟨_, h0, _⟩; simp [ref09_Check_L7] at h0) ?_
            rintro m7 s h ⟨x43, hr7, hg⟩
            refine AB.ghost hg ?_
            clear hg hL7
            rw [ref09_Check_L7] at hr7
            refine AB.seq ?_
            refine AB.rw ?_
            refine wS (v := (eB (decide (x43 < (t_Inputs.length : Int))))) (sv (d_bin rfl rfl (bin_lss ..))) ?_
            refine OpsW.nil ?_
            refine Ex.then_mk ?_
            refine AB.seq ?_
            refine AB.cnd rfl (fun h11 => ?_) (fun h11 => ?_)
            · replace hr7 := iteT hr7 h11
              refine AB.skip ?_
              refine Ex.then_mk ?_
              refine AB.seq_g fun K8 hK8 hG8 => ?_
              have J8 : ref09_Check_J8 N t_Version t_Inputs t_Outputs t_Lock x43 (ref09_Check_L7 N t_Version t_Inputs t_Outputs t_Lock m7) = some res7 → K8 (mkF 81 [(1, (.ptr 0 0)), (42, (eI .i64 (t_Inputs.length : Int))), (43, (eI .i64 x43))]) [some ⟨26, [(eI .u32 t_Version), (.row none 35 (t_Inputs.map E_api_Input)), (.row none 2 (t_Outputs.map E_api_Output)), (eI .u32 t_Lock)]⟩] := by
                intro hr7
                unfold ref09_Check_J8 at hr7
                refine hK8 _ _ ?_
                refine AB.rw ?_
                refine wS (v := (eI .i64 (IntKind.i64.wrap (x43 + 1)))) (sv (d_bin rfl rfl (bin_add ..))) ?_
                refine wS (v := (eI .i64 (IntKind.i64.wrap (x43 + 1)))) (sv (d_move rfl)) ?_
                refine OpsW.nil ?_
                refine Ex.then_mk ?_
                exact ⟨IntKind.i64.wrap (x43 + 1), hr7, (Ghost.rn [0] rfl rfl (FLe.same rfl (FLe.same rfl (FLe.same rfl FLe.nil))) (HLe.live rfl (V.les_refl _ _) rfl HLe.nil) rfl)⟩
              refine AB.block ?_
              refine AB.seq ?_
              refine AB.rw ?_
              refine wS (v := (eI .i64 x43)) (sv (d_move rfl)) ?_
              refine wS (v := (eI .i64 x43)) (sv (d_assign rfl)) ?_
              refine OpsW.nil ?_
              refine Ex.then_mk ?_
              refine AB.seq ?_
              refine AB.rw ?_
              refine wS (v := (eI .i64 0)) (sv (d_assign rfl)) ?_
              refine OpsW.nil ?_
              refine Ex.then_mk ?_
              replace hr7 := bnd hr7; obtain ⟨res9, hL9, hr7⟩ := hr7
              refine AB.block ?_
              refine AB.loopN (fun m s h => ∃ (k : Int), ref09_Check_L9 N t_Version t_Inputs t_Outputs t_Lock x43 m k = some res9 ∧ Ghost 0 s h (mkF 81 [(1, (.ptr 0 0)), (6, (eI .i64 x43)), (7, (eI .i64 k)), (42, (eI .i64 (t_Inputs.length : Int))), (43, (eI .i64 x43))]) [some ⟨26, [(eI .u32 t_Version), (.row none 35 (t_Inputs.map E_api_Input)), (.row none 2 (t_Outputs.map E_api_Output)), (eI .u32 t_Lock)]⟩]) (n := N) ⟨0, hL9, (Ghost.rn [0] rfl rfl (FLe.same rfl (FLe.same rfl (FLe.same rfl (FLe.same rfl (FLe.same rfl FLe.nil))))) (HLe.live rfl (V.les_refl _ _) rfl HLe.nil) rfl)⟩ (by rintro s h ⟨_, h0, _⟩; simp [ref09_Check_L9] at h0) ?_
              rintro m9 s h ⟨k, hr9, hg⟩
              refine AB.ghost hg ?_
              clear hg hL9
              rw [ref09_Check_L9] at hr9
              refine AB.seq ?_
              refine AB.seq ?_
              refine AB.rw ?_
              refine wS (v := (eI .i64 k)) (sv (d_move rfl)) ?_
              refine wS (v := (eI .i64 x43)) (sv (d_move rfl)) ?_
              refine wS (v := (eB (decide (k < x43)))) (sv (d_bin rfl rfl (bin_lss ..))) ?_
              refine OpsW.nil ?_
              refine Ex.then_mk ?_
              refine AB.cnd rfl (fun h12 => ?_) (fun h12 => ?_)
              · replace hr9 := iteT hr9 h12
                refine AB.skip ?_
                refine Ex.then_mk ?_
                refine AB.seq ?_
                refine AB.block ?_
                refine AB.seq ?_
                replace hr9 := bnd hr9; obtain ⟨x54, h_13, hr9⟩ := hr9
                replace hr9 := bnd hr9; obtain ⟨x60, h_14, hr9⟩ := hr9
                refine AB.rg E0 (fun _ => by show drawOk (fun _ => false) _ = true; decide +kernel) ?_
                refine tS (v := (.ptr 0 1)) (sv (d_fa rfl (fap26_1 ..))) ?_
                refine tS (v := (.row none 35 (t_Inputs.map E_api_Input))) (sv (d_load rfl (ldP rfl (part1 ti23 rfl rfl)))) ?_
                refine tS (v := (eI .i64 x43)) (sv (d_move rfl)) ?_
                refine tS (sv (d_ia rfl rfl (iaR ti23 ti41 h_13))) ?_
                refine tS (sv (d_fa rfl (fae41_0 ..))) ?_
                refine tS (v := (E_api_OutPoint x54.Prev)) (sv (d_load rfl (ldR h_13 (partN (ds := (ar32 (eI .u8) x54.Prev.Tx [(eI .u32 x54.Prev.Index)])) ti38 rfl (Nat.le_of_ble_eq_true rfl) rfl)))) ?_
                refine tS (v := (.ptr 0 1)) (sv (d_fa rfl (fap26_1 ..))) ?_
                refine tS (v := (.row none 35 (t_Inputs.map E_api_Input))) (sv (d_load rfl (ldP rfl (part1 ti23 rfl rfl)))) ?_
                refine tS (v := (eI .i64 k)) (sv (d_move rfl)) ?_
                refine tS (sv (d_ia rfl rfl (iaR ti23 ti41 h_14))) ?_
                refine tS (sv (d_fa rfl (fae41_0 ..))) ?_
                refine tS (v := (E_api_OutPoint x60.Prev)) (sv (d_load rfl (ldR h_14 (partN (ds := (ar32 (eI .u8) x60.Prev.Tx [(eI .u32 x60.Prev.Index)])) ti38 rfl (Nat.le_of_ble_eq_true rfl) rfl)))) ?_
                refine tS (v := (eB (aeq32 x54.Prev.Tx x60.Prev.Tx ((x54.Prev.Index == x60.Prev.Index) && true)))) (sv (d_bin rfl rfl (bin_eqlP (d := 9) ti38 rfl ft38 (Nat.le_of_ble_eq_true rfl) eg38 rfl rfl rfl rfl rfl))) ?_
                refine OpsTo.nil ?_
                refine Ex.then_mk ?_
                refine AB.cnd rfl (fun h15 => ?_) (fun h15 => ?_)
                · replace hr9 := iteT hr9 h15
                  refine AB.seq ?_
                  refine AB.rw ?_
                  refine wS (v := (eI .i64 91)) (sv (d_assign rfl)) ?_
                  refine OpsW.nil ?_
                  refine Ex.then_mk ?_
                  refine AB.ret ?_
                  refine Ex.inBlock_ret_mk ?_
                  refine Ex.then_ret_mk ?_
                  refine Ex.then_ret_mk ?_
                  refine Ex.inBlock_ret_mk ?_
                  refine Ex.inBlock_ret_mk ?_
                  refine Ex.then_ret_mk ?_
                  refine Ex.then_ret_mk ?_
                  refine Ex.inBlock_ret_mk ?_
                  refine Ex.then_ret_mk ?_
                  obtain rfl := Option.some.inj hr9
                  obtain rfl := Option.some.inj hr7
                  obtain rfl := Option.some.inj hr
                  exact done_ret (r1 := (eI .i64 91)) (res1 Try.results12 (rvT rfl)) (Ghost.rn [] rfl rfl (FLe.same rfl FLe.nil) HLe.nil rfl)
                · replace hr9 := iteF hr9 h15
                  refine AB.skip ?_
                  refine Ex.inBlock_mk ?_
                  refine Ex.then_mk ?_
                  refine AB.rw ?_
                  refine wS (v := (eI .i64 k)) (sv (d_move rfl)) ?_
                  refine wS (v := (eI .i64 (IntKind.i64.wrap (k + 1)))) (sv (d_bin rfl rfl (bin_add ..))) ?_
                  refine wS (v := (eI .i64 (IntKind.i64.wrap (k + 1)))) (sv (d_assign rfl)) ?_
                  refine OpsW.nil ?_
                  refine Ex.then_mk ?_
                  exact ⟨IntKind.i64.wrap (k + 1), hr9, (Ghost.rn [0] rfl rfl (FLe.same rfl (FLe.same rfl (FLe.same rfl (FLe.same rfl (FLe.same rfl FLe.nil))))) (HLe.live rfl (V.les_refl _ _) rfl HLe.nil) rfl)⟩
              · replace hr9 := iteF hr9 h12
                refine AB.exit ?_
                refine Ex.then_exit_mk ?_
                refine Ex.then_exit_mk ?_
                refine Ex.inBlock_same_mk ?_
                obtain rfl := Option.some.inj hr9
                refine Ex.inBlock_mk ?_
                refine Ex.then_mk ?_
                exact hG8 _ _ _ _ (Ghost.rn [0] rfl rfl (FLe.same rfl (FLe.same rfl (FLe.same rfl FLe.nil))) (HLe.live rfl (V.les_refl _ _) rfl HLe.nil) rfl) (J8 hr7)
            · replace hr7 := iteF hr7 h11
              refine AB.exit ?_
              refine Ex.then_exit_mk ?_
              refine Ex.then_exit_mk ?_
              refine Ex.inBlock_same_mk ?_
              obtain rfl := Option.some.inj hr7
              refine Ex.then_mk ?_
              exact hG3 _ _ _ _ (Ghost.rn [0] rfl rfl (FLe.same rfl FLe.nil) (HLe.live rfl (V.les_refl _ _) rfl HLe.nil) rfl) (J3 hr)
        refine AB.seq ?_
        refine AB.rw ?_
        refine wS (v := (.ptr 0 2)) (sv (d_fa rfl (fap26_2 ..))) ?_
        refine wS (v := (.row none 2 (t_Outputs.map E_api_Output))) (sv (d_load rfl (ldP rfl (part1 ti24 rfl rfl)))) ?_
        refine wS (v := (eI .i64 (t_Outputs.length : Int))) (sv (d_len rfl (lenR ti24))) ?_
        refine wS (v := (eI .i64 0)) (sv (d_move rfl)) ?_
        refine OpsW.nil ?_
        refine Ex.then_mk ?_
        replace hr := bnd hr; obtain ⟨res10, hL10, hr⟩ := hr
        refine AB.block ?_
        refine AB.loopN (fun m s h => ∃ (sum_1 : Int) (x26 : Int), ref09_Check_L10 N t_Version t_Inputs t_Outputs t_Lock m sum_1 x26 = some res10 ∧ Ghost 0 s h (mkF 81 [(1, (.ptr 0 0)), (3, (eI .i64 sum_1)), (24, (.row none 2 (t_Outputs.map E_api_Output))), (25, (eI .i64 (t_Outputs.length : Int))), (26, (eI .i64 x26))]) [some ⟨26, [(eI .u32 t_Version), (.row none 35 (t_Inputs.map E_api_Input)), (.row none 2 (t_Outputs.map E_api_Output)), (eI .u32 t_Lock)]⟩]) (n := N) ⟨0, 0, hL10, (Ghost.rn [0] rfl rfl (FLe.same rfl (FLe.same rfl (FLe.same rfl (FLe.same rfl (FLe.same rfl FLe.nil))))) (HLe.live rfl (V.les_refl _ _) rfl HLe.nil) rfl)⟩ (by rintro s h ⟨_, _, h0, _⟩; simp [ref09_Check_L10] at h0) ?_
        rintro m10 s h ⟨sum_1, x26, hr10, hg⟩
        refine AB.ghost hg ?_
        clear hg hL10
        rw [ref09_Check_L10] at hr10
        refine AB.seq ?_
        refine AB.rw ?_
        refine wS (v := (eB (decide (x26 < (t_Outputs.length : Int))))) (sv (d_bin rfl rfl (bin_lss ..))) ?_
        refine OpsW.nil ?_
        refine Ex.then_mk ?_
        refine AB.seq ?_
        refine AB.cnd rfl (fun h16 => ?_) (fun h16 => ?_)
        · replace hr10 := iteT hr10 h16
          refine AB.skip ?_
          refine Ex.then_mk ?_
          refine AB.seq ?_
          refine AB.block ?_
          refine AB.seq ?_
          replace hr10 := bnd hr10; obtain ⟨x28, h_17, hr10⟩ := hr10
          refine AB.rw ?_
          refine wS (sv (d_ia rfl rfl (iaR ti24 ti44 h_17))) ?_
          refine wS (v := (.agg [(eI .i64 x28.Value), (.row none 1 (x28.Script.map (eI .u8)))])) (sv (d_load rfl (ldR h_17 (partN (ds := [(eI .i64 x28.Value), (.row none 1 (x28.Script.map (eI .u8)))]) ti44 rfl (Nat.le_of_ble_eq_true rfl) rfl)))) ?_
          refine wS (v := (.ptr 1 0)) (h' := [some ⟨26, [(eI .u32 t_Version), (.row none 35 (t_Inputs.map E_api_Input)), (.row none 2 (t_Outputs.map E_api_Output)), (eI .u32 t_Lock)]⟩, some ⟨44, [(eI .i64 0), (.row (some true) 1 [])]⟩]) (sv (d_alloc ti44 rfl rfl rfl)) ?_
          refine wN (h' := [some ⟨26, [(eI .u32 t_Version), (.row none 35 (t_Inputs.map E_api_Input)), (.row none 2 (t_Outputs.map E_api_Output)), (eI .u32 t_Lock)]⟩, some ⟨44, [(eI .i64 x28.Value), (.row none 1 (x28.Script.map (eI .u8)))]⟩]) (sv (d_store rfl rfl (stP ti44 rfl rfl rfl (Nat.le_of_ble_eq_true rfl) rfl))) ?_
          refine OpsW.nil ?_
          refine Ex.then_mk ?_
          refine AB.seq ?_
          refine AB.seq ?_
          refine AB.rw ?_
          refine wS (v := (.ptr 1 0)) (sv (d_fa rfl (fap44_0 ..))) ?_
          refine wS (v := (eI .i64 x28.Value)) (sv (d_load rfl (ldP rfl (part1 ti2 rfl rfl)))) ?_
          refine wS (v := (eB (decide (2100000000000000 < x28.Value)))) (sv (d_bin rfl rfl (bin_gtr ..))) ?_
          refine OpsW.nil ?_
          refine Ex.then_mk ?_
          refine AB.cnd rfl (fun h18 => ?_) (fun h18 => ?_)
          · replace hr10 := iteT hr10 h18
            refine AB.seq ?_
            refine AB.rw ?_
            refine wS (v := (eI .i64 90)) (sv (d_assign rfl)) ?_
            refine OpsW.nil ?_
            refine Ex.then_mk ?_
            refine AB.ret ?_
            refine Ex.then_ret_mk ?_
            refine Ex.inBlock_ret_mk ?_
            refine Ex.then_ret_mk ?_
            refine Ex.then_ret_mk ?_
            refine Ex.inBlock_ret_mk ?_
            refine Ex.then_ret_mk ?_
            obtain rfl := Option.some.inj hr10
            obtain rfl := Option.some.inj hr
            exact done_ret (r1 := (eI .i64 90)) (res1 Try.results12 (rvT rfl)) (Ghost.rn [] rfl rfl (FLe.same rfl FLe.nil) HLe.nil rfl)
          · replace hr10 := iteF hr10 h18
            refine AB.skip ?_
            refine Ex.then_mk ?_
            refine AB.rw ?_
            refine wS (v := (eI .i64 sum_1)) (sv (d_move rfl)) ?_
            refine wS (v := (.ptr 1 0)) (sv (d_fa rfl (fap44_0 ..))) ?_
            refine wS (v := (eI .i64 x28.Value)) (sv (d_load rfl (ldP rfl (part1 ti2 rfl rfl)))) ?_
            refine wS (v := (eI .i64 (IntKind.i64.wrap (sum_1 + x28.Value)))) (sv (d_bin rfl rfl (bin_add ..))) ?_
            refine wS (v := (eI .i64 (IntKind.i64.wrap (sum_1 + x28.Value)))) (sv (d_assign rfl)) ?_
            refine OpsW.nil ?_
            refine Ex.inBlock_mk ?_
            refine Ex.then_mk ?_
            refine AB.rw ?_
            refine wS (v := (eI .i64 (IntKind.i64.wrap (x26 + 1)))) (sv (d_bin rfl rfl (bin_add ..))) ?_
            refine wS (v := (eI .i64 (IntKind.i64.wrap (x26 + 1)))) (sv (d_move rfl)) ?_
            refine OpsW.nil ?_
            refine Ex.then_mk ?_
            exact ⟨IntKind.i64.wrap (sum_1 + x28.Value), IntKind.i64.wrap (x26 + 1), hr10, (Ghost.rn [0] rfl rfl (FLe.same rfl (FLe.same rfl (FLe.same rfl (FLe.same rfl (FLe.same rfl FLe.nil))))) (HLe.live rfl (V.les_refl _ _) rfl HLe.nil) rfl)⟩
        · replace hr10 := iteF hr10 h16
          refine AB.exit ?_
          refine Ex.then_exit_mk ?_
          refine Ex.then_exit_mk ?_
          refine Ex.inBlock_same_mk ?_
          obtain rfl := Option.some.inj hr10
          refine Ex.then_mk ?_
          exact hG2 _ _ _ _ (Ghost.rn [0] rfl rfl (FLe.same rfl (FLe.same rfl FLe.nil)) (HLe.live rfl (V.les_refl _ _) rfl HLe.nil) rfl) (J2 sum_1 hr)
    rcases Bool.eq_false_or_eq_true ((t_Inputs.length : Int) == 0) with h19 | h19
    · replace hr := iteT hr h19
      refine AB.rw ?_
      refine wS (v := (.ptr 0 1)) (sv (d_fa rfl (fap26_1 ..))) ?_
      refine wS (v := (.row none 35 (t_Inputs.map E_api_Input))) (sv (d_load rfl (ldP rfl (part1 ti23 rfl rfl)))) ?_
      refine wS (v := (eI .i64 (t_Inputs.length : Int))) (sv (d_len rfl (lenR ti23))) ?_
      refine wS (v := (eB ((t_Inputs.length : Int) == 0))) (sv (d_bin rfl rfl (bin_eql ..))) ?_
      refine wS (v := (eB ((t_Inputs.length : Int) == 0))) (sv (d_move rfl)) ?_
      refine wS (svX rfl rfl h19) ?_
      refine wS (svX rfl rfl h19) ?_
      refine wS (svX rfl rfl h19) ?_
      refine wS (svX rfl rfl h19) ?_
      refine wS (v := (eB true)) (sv (d_pickT rfl h19 rfl)) ?_
      refine OpsW.nil ?_
      refine Ex.then_mk ?_
      exact hG1 _ _ _ _ (Ghost.rn [0] rfl rfl (FLe.same rfl (FLe.same rfl FLe.nil)) (HLe.live rfl (V.les_refl _ _) rfl HLe.nil) rfl) (J1 true hr)
    · replace hr := iteF hr h19
      refine AB.rw ?_
      refine wS (v := (.ptr 0 1)) (sv (d_fa rfl (fap26_1 ..))) ?_
      refine wS (v := (.row none 35 (t_Inputs.map E_api_Input))) (sv (d_load rfl (ldP rfl (part1 ti23 rfl rfl)))) ?_
      refine wS (v := (eI .i64 (t_Inputs.length : Int))) (sv (d_len rfl (lenR ti23))) ?_
      refine wS (v := (eB ((t_Inputs.length : Int) == 0))) (sv (d_bin rfl rfl (bin_eql ..))) ?_
      refine wS (v := (eB ((t_Inputs.length : Int) == 0))) (sv (d_move rfl)) ?_
      refine wS (v := (.ptr 0 2)) (svG rfl rfl h19 (d_fa rfl (fap26_2 ..))) ?_
      refine wS (v := (.row none 2 (t_Outputs.map E_api_Output))) (svG rfl rfl h19 (d_load rfl (ldP rfl (part1 ti24 rfl rfl)))) ?_
      refine wS (v := (eI .i64 (t_Outputs.length : Int))) (svG rfl rfl h19 (d_len rfl (lenR ti24))) ?_
      refine wS (v := (eB ((t_Outputs.length : Int) == 0))) (svG rfl rfl h19 (d_bin rfl rfl (bin_eql ..))) ?_
      refine wS (v := (eB ((t_Outputs.length : Int) == 0))) (sv (d_pickF rfl h19 rfl)) ?_
      refine OpsW.nil ?_
      refine Ex.then_mk ?_
      exact hG1 _ _ _ _ (Ghost.rn [0] rfl rfl (FLe.same rfl (FLe.same rfl FLe.nil)) (HLe.live rfl (V.les_refl _ _) rfl HLe.nil) rfl) (J1 ((t_Outputs.length : Int) == 0) hr)
end Go.Proofs.Ytbjiaiobpbpjoaa
