/- Walks printed by a program of ours (gen.py): each Go function of the list does what its shallow function says. -/
import Derived.Test.YtheekineakjhdaaDoorWk2
set_option linter.unusedVariables false
set_option linter.unusedSimpArgs false
namespace Go.Proofs.YtheekineakjhdaaDoor
open Go Go.Vm
set_option maxRecDepth 20000 in
set_option maxHeartbeats 1000000 in
theorem ref08_SameOps_ok (N : Nat) (va : List S_api_Op) (b : List S_api_Op) (r : Bool) (hr : ref08_SameOps N va b = some r) :
    Vm.Fn Tryd.prog 17 [] [(.row none 4 (va.map E_api_Op)), (.row none 4 (b.map E_api_Op))] (eB r) [] := by
  refine fn_ab Tryd.func17 rfl (by kernel_rfl) Tryd.ntmps17 (Nat.le_of_ble_eq_true rfl) rfl (fr := [(0, (.row none 4 (va.map E_api_Op))), (1, (.row none 4 (b.map E_api_Op)))]) rfl ?_
  unfold ref08_SameOps at hr
  refine AB.seq ?_
  refine AB.rw ?_
  refine wS (v := (eB false)) (sv (d_assign rfl)) ?_
  refine OpsW.nil ?_
  refine Ex.then_mk ?_
  refine AB.seq ?_
  refine AB.seq ?_
  refine AB.rw ?_
  refine wS (v := (.row none 4 (va.map E_api_Op))) (sv (d_move rfl)) ?_
  refine wS (v := (eI .i64 (va.length : Int))) (sv (d_len rfl (lenR ti31))) ?_
  refine wS (v := (.row none 4 (b.map E_api_Op))) (sv (d_move rfl)) ?_
  refine wS (v := (eI .i64 (b.length : Int))) (sv (d_len rfl (lenR ti31))) ?_
  refine wS (v := (eB ((va.length : Int) != (b.length : Int)))) (sv (d_bin rfl rfl (bin_neq ..))) ?_
  refine OpsW.nil ?_
  refine Ex.then_mk ?_
  refine AB.cnd rfl (fun h1 => ?_) (fun h1 => ?_)
  · replace hr := iteT hr h1
    refine AB.seq ?_
    refine AB.rw ?_
    refine wS (v := (eB false)) (sv (d_assign rfl)) ?_
    refine OpsW.nil ?_
    refine Ex.then_mk ?_
    refine AB.ret ?_
    refine Ex.then_ret_mk ?_
    obtain rfl := Option.some.inj hr
    exact done_ret (r1 := (eB false)) (res1 Tryd.results17 (rvT rfl)) (Ghost.rn [] rfl rfl (FLe.same rfl FLe.nil) HLe.nil rfl)
  · replace hr := iteF hr h1
    refine AB.skip ?_
    refine Ex.then_mk ?_
    refine AB.seq_g fun K1 hK1 hG1 => ?_
    have J1 : ref08_SameOps_J1 N = some r → K1 (mkF 68 []) [] := by
      intro hr
      unfold ref08_SameOps_J1 at hr
      refine hK1 _ _ ?_
      refine AB.seq ?_
      refine AB.rw ?_
      refine wS (v := (eB true)) (sv (d_assign rfl)) ?_
      refine OpsW.nil ?_
      refine Ex.then_mk ?_
      refine AB.ret ?_
      obtain rfl := Option.some.inj hr
      exact done_ret (r1 := (eB true)) (res1 Tryd.results17 (rvT rfl)) (Ghost.rn [] rfl rfl (FLe.same rfl FLe.nil) HLe.nil rfl)
    refine AB.seq ?_
    refine AB.rw ?_
    refine wS (v := (.row none 4 (va.map E_api_Op))) (sv (d_move rfl)) ?_
    refine wS (v := (eI .i64 (va.length : Int))) (sv (d_len rfl (lenR ti31))) ?_
    refine wS (v := (eI .i64 0)) (sv (d_move rfl)) ?_
    refine OpsW.nil ?_
    refine Ex.then_mk ?_
    replace hr := bnd hr; obtain ⟨res2, hL2, hr⟩ := hr
    refine AB.block ?_
    refine AB.loopN (fun m s h => ∃ (x13 : Int), ref08_SameOps_L2 N va b m x13 = some res2 ∧ Ghost 0 s h (mkF 68 [(0, (.row none 4 (va.map E_api_Op))), (1, (.row none 4 (b.map E_api_Op))), (12, (eI .i64 (va.length : Int))), (13, (eI .i64 x13))]) []) (n := N) ⟨0, hL2, (Ghost.rn [] rfl rfl (FLe.same rfl (FLe.same rfl (FLe.same rfl (FLe.same rfl FLe.nil)))) HLe.nil rfl)⟩ (by rintro s h ⟨_, h0, _⟩; simp [ref08_SameOps_L2] at h0) ?_
    rintro m2 s h ⟨x13, hr2, hg⟩
    refine AB.ghost hg ?_
    clear hg hL2
    rw [ref08_SameOps_L2] at hr2
    refine AB.seq ?_
    refine AB.rw ?_
    refine wS (v := (eB (decide (x13 < (va.length : Int))))) (sv (d_bin rfl rfl (bin_lss ..))) ?_
    refine OpsW.nil ?_
    refine Ex.then_mk ?_
    refine AB.seq ?_
    refine AB.cnd rfl (fun h2 => ?_) (fun h2 => ?_)
    · replace hr2 := iteT hr2 h2
      refine AB.skip ?_
      refine Ex.then_mk ?_
      refine AB.seq ?_
      refine AB.block ?_
      refine AB.seq ?_
      refine AB.rw ?_
      refine wS (v := (eI .i64 x13)) (sv (d_move rfl)) ?_
      refine wS (v := (eI .i64 x13)) (sv (d_assign rfl)) ?_
      refine OpsW.nil ?_
      refine Ex.then_mk ?_
      refine AB.seq_g fun K3 hK3 hG3 => ?_
      have J3 : ∀ (x66 : Bool), ref08_SameOps_J3 N va b x13 (ref08_SameOps_L2 N va b m2) x66 = some res2 → K3 (mkF 68 [(0, (.row none 4 (va.map E_api_Op))), (1, (.row none 4 (b.map E_api_Op))), (12, (eI .i64 (va.length : Int))), (13, (eI .i64 x13)), (66, (eB x66))]) [] := by
        intro x66 hr2
        unfold ref08_SameOps_J3 at hr2
        refine hK3 _ _ ?_
        refine AB.cnd rfl (fun h3 => ?_) (fun h3 => ?_)
        · replace hr2 := iteT hr2 h3
          refine AB.seq ?_
          refine AB.rw ?_
          refine wS (v := (eB false)) (sv (d_assign rfl)) ?_
          refine OpsW.nil ?_
          refine Ex.then_mk ?_
          refine AB.ret ?_
          refine Ex.inBlock_ret_mk ?_
          refine Ex.then_ret_mk ?_
          refine Ex.then_ret_mk ?_
          refine Ex.inBlock_ret_mk ?_
          refine Ex.then_ret_mk ?_
          obtain rfl := Option.some.inj hr2
          obtain rfl := Option.some.inj hr
          exact done_ret (r1 := (eB false)) (res1 Tryd.results17 (rvT rfl)) (Ghost.rn [] rfl rfl (FLe.same rfl FLe.nil) HLe.nil rfl)
        · replace hr2 := iteF hr2 h3
          refine AB.skip ?_
          refine Ex.inBlock_mk ?_
          refine Ex.then_mk ?_
          refine AB.rw ?_
          refine wS (v := (eI .i64 (IntKind.i64.wrap (x13 + 1)))) (sv (d_bin rfl rfl (bin_add ..))) ?_
          refine wS (v := (eI .i64 (IntKind.i64.wrap (x13 + 1)))) (sv (d_move rfl)) ?_
          refine OpsW.nil ?_
          refine Ex.then_mk ?_
          exact ⟨IntKind.i64.wrap (x13 + 1), hr2, (Ghost.rn [] rfl rfl (FLe.same rfl (FLe.same rfl (FLe.same rfl (FLe.same rfl FLe.nil)))) HLe.nil rfl)⟩
      replace hr2 := bnd hr2; obtain ⟨x18, h_4, hr2⟩ := hr2
      replace hr2 := bnd hr2; obtain ⟨x23, h_5, hr2⟩ := hr2
      rcases Bool.eq_false_or_eq_true (x18.Code != x23.Code) with h6 | h6
      · replace hr2 := iteT hr2 h6
        refine AB.rg E0 (fun _ => by show drawOk (fun _ => false) _ = true; decide +kernel) ?_
        refine tS (v := (.row none 4 (va.map E_api_Op))) (sv (d_move rfl)) ?_
        refine tS (v := (eI .i64 x13)) (sv (d_move rfl)) ?_
        refine tS (sv (d_ia rfl rfl (iaR ti31 ti59 h_4))) ?_
        refine tS (sv (d_fa rfl (fae59_0 ..))) ?_
        refine tS (v := (eI .i64 x18.Code)) (sv (d_load rfl (ldR h_4 (part1 ti3 rfl rfl)))) ?_
        refine tS (v := (.row none 4 (b.map E_api_Op))) (sv (d_move rfl)) ?_
        refine tS (v := (eI .i64 x13)) (sv (d_move rfl)) ?_
        refine tS (sv (d_ia rfl rfl (iaR ti31 ti59 h_5))) ?_
        refine tS (sv (d_fa rfl (fae59_0 ..))) ?_
        refine tS (v := (eI .i64 x23.Code)) (sv (d_load rfl (ldR h_5 (part1 ti3 rfl rfl)))) ?_
        refine tS (v := (eB (x18.Code != x23.Code))) (sv (d_bin rfl rfl (bin_neq ..))) ?_
        refine tS (v := (eB (x18.Code != x23.Code))) (sv (d_move rfl)) ?_
        refine tS (svX rfl rfl h6) ?_
        refine tS (svX rfl rfl h6) ?_
        refine tS (svX rfl rfl h6) ?_
        refine tS (svX rfl rfl h6) ?_
        refine tS (svX rfl rfl h6) ?_
        refine tS (svX rfl rfl h6) ?_
        refine tS (svX rfl rfl h6) ?_
        refine tS (svX rfl rfl h6) ?_
        refine tS (svX rfl rfl h6) ?_
        refine tS (svX rfl rfl h6) ?_
        refine tS (svX rfl rfl h6) ?_
        refine tS (v := (eB true)) (sv (d_pickT rfl h6 rfl)) ?_
        refine tS (v := (eB true)) (sv (d_move rfl)) ?_
        refine tS (svX rfl rfl rfl) ?_
        refine tS (svX rfl rfl rfl) ?_
        refine tS (svX rfl rfl rfl) ?_
        refine tS (svX rfl rfl rfl) ?_
        refine tS (svX rfl rfl rfl) ?_
        refine tS (svX rfl rfl rfl) ?_
        refine tS (svX rfl rfl rfl) ?_
        refine tS (svX rfl rfl rfl) ?_
        refine tS (svX rfl rfl rfl) ?_
        refine tS (svX rfl rfl rfl) ?_
        refine tS (svX rfl rfl rfl) ?_
        refine tS (v := (eB true)) (sv (d_pickT rfl rfl rfl)) ?_
        refine tS (v := (eB true)) (sv (d_move rfl)) ?_
        refine tS (svX rfl rfl rfl) ?_
        refine tS (svX rfl rfl rfl) ?_
        refine tS (svX rfl rfl rfl) ?_
        refine tS (svX rfl rfl rfl) ?_
        refine tS (svX rfl rfl rfl) ?_
        refine tS (svX rfl rfl rfl) ?_
        refine tS (svX rfl rfl rfl) ?_
        refine tS (svX rfl rfl rfl) ?_
        refine tS (svX rfl rfl rfl) ?_
        refine tS (svX rfl rfl rfl) ?_
        refine tS (svX rfl rfl rfl) ?_
        refine tS (svX rfl rfl rfl) ?_
        refine tS (v := (eB true)) (sv (d_pickT rfl rfl rfl)) ?_
        refine OpsTo.nil ?_
        refine Ex.then_mk ?_
        exact hG3 _ _ _ _ (Ghost.rn [] rfl rfl (FLe.same rfl (FLe.same rfl (FLe.same rfl (FLe.same rfl (FLe.same rfl FLe.nil))))) HLe.nil rfl) (J3 true hr2)
      · replace hr2 := iteF hr2 h6
        rcases Bool.eq_false_or_eq_true (x18.M != x23.M) with h7 | h7
        · replace hr2 := iteT hr2 h7
          refine AB.rg E0 (fun _ => by show drawOk (fun _ => false) _ = true; decide +kernel) ?_
          refine tS (v := (.row none 4 (va.map E_api_Op))) (sv (d_move rfl)) ?_
          refine tS (v := (eI .i64 x13)) (sv (d_move rfl)) ?_
          refine tS (sv (d_ia rfl rfl (iaR ti31 ti59 h_4))) ?_
          refine tS (sv (d_fa rfl (fae59_0 ..))) ?_
          refine tS (v := (eI .i64 x18.Code)) (sv (d_load rfl (ldR h_4 (part1 ti3 rfl rfl)))) ?_
          refine tS (v := (.row none 4 (b.map E_api_Op))) (sv (d_move rfl)) ?_
          refine tS (v := (eI .i64 x13)) (sv (d_move rfl)) ?_
          refine tS (sv (d_ia rfl rfl (iaR ti31 ti59 h_5))) ?_
          refine tS (sv (d_fa rfl (fae59_0 ..))) ?_
          refine tS (v := (eI .i64 x23.Code)) (sv (d_load rfl (ldR h_5 (part1 ti3 rfl rfl)))) ?_
          refine tS (v := (eB (x18.Code != x23.Code))) (sv (d_bin rfl rfl (bin_neq ..))) ?_
          refine tS (v := (eB (x18.Code != x23.Code))) (sv (d_move rfl)) ?_
          refine tS (v := (.row none 4 (va.map E_api_Op))) (svG rfl rfl h6 (d_move rfl)) ?_
          refine tS (v := (eI .i64 x13)) (svG rfl rfl h6 (d_move rfl)) ?_
          refine tS (svG rfl rfl h6 (d_ia rfl rfl (iaR ti31 ti59 h_4))) ?_
          refine tS (svG rfl rfl h6 (d_fa rfl (fae59_2 ..))) ?_
          refine tS (v := (eI .i64 x18.M)) (svG rfl rfl h6 (d_load rfl (ldR h_4 (part1 ti3 rfl rfl)))) ?_
          refine tS (v := (.row none 4 (b.map E_api_Op))) (svG rfl rfl h6 (d_move rfl)) ?_
          refine tS (v := (eI .i64 x13)) (svG rfl rfl h6 (d_move rfl)) ?_
          refine tS (svG rfl rfl h6 (d_ia rfl rfl (iaR ti31 ti59 h_5))) ?_
          refine tS (svG rfl rfl h6 (d_fa rfl (fae59_2 ..))) ?_
          refine tS (v := (eI .i64 x23.M)) (svG rfl rfl h6 (d_load rfl (ldR h_5 (part1 ti3 rfl rfl)))) ?_
          refine tS (v := (eB (x18.M != x23.M))) (svG rfl rfl h6 (d_bin rfl rfl (bin_neq ..))) ?_
          refine tS (v := (eB (x18.M != x23.M))) (sv (d_pickF rfl h6 rfl)) ?_
          refine tS (v := (eB (x18.M != x23.M))) (sv (d_move rfl)) ?_
          refine tS (svX rfl rfl h7) ?_
          refine tS (svX rfl rfl h7) ?_
          refine tS (svX rfl rfl h7) ?_
          refine tS (svX rfl rfl h7) ?_
          refine tS (svX rfl rfl h7) ?_
          refine tS (svX rfl rfl h7) ?_
          refine tS (svX rfl rfl h7) ?_
          refine tS (svX rfl rfl h7) ?_
          refine tS (svX rfl rfl h7) ?_
          refine tS (svX rfl rfl h7) ?_
          refine tS (svX rfl rfl h7) ?_
          refine tS (v := (eB true)) (sv (d_pickT rfl h7 rfl)) ?_
          refine tS (v := (eB true)) (sv (d_move rfl)) ?_
          refine tS (svX rfl rfl rfl) ?_
          refine tS (svX rfl rfl rfl) ?_
          refine tS (svX rfl rfl rfl) ?_
          refine tS (svX rfl rfl rfl) ?_
          refine tS (svX rfl rfl rfl) ?_
          refine tS (svX rfl rfl rfl) ?_
          refine tS (svX rfl rfl rfl) ?_
          refine tS (svX rfl rfl rfl) ?_
          refine tS (svX rfl rfl rfl) ?_
          refine tS (svX rfl rfl rfl) ?_
          refine tS (svX rfl rfl rfl) ?_
          refine tS (svX rfl rfl rfl) ?_
          refine tS (v := (eB true)) (sv (d_pickT rfl rfl rfl)) ?_
          refine OpsTo.nil ?_
          refine Ex.then_mk ?_
          exact hG3 _ _ _ _ (Ghost.rn [] rfl rfl (FLe.same rfl (FLe.same rfl (FLe.same rfl (FLe.same rfl (FLe.same rfl FLe.nil))))) HLe.nil rfl) (J3 true hr2)
        · replace hr2 := iteF hr2 h7
          rcases Bool.eq_false_or_eq_true (x18.N != x23.N) with h8 | h8
          · replace hr2 := iteT hr2 h8
            refine AB.rg E0 (fun _ => by show drawOk (fun _ => false) _ = true; decide +kernel) ?_
            refine tS (v := (.row none 4 (va.map E_api_Op))) (sv (d_move rfl)) ?_
            refine tS (v := (eI .i64 x13)) (sv (d_move rfl)) ?_
            refine tS (sv (d_ia rfl rfl (iaR ti31 ti59 h_4))) ?_
            refine tS (sv (d_fa rfl (fae59_0 ..))) ?_
            refine tS (v := (eI .i64 x18.Code)) (sv (d_load rfl (ldR h_4 (part1 ti3 rfl rfl)))) ?_
            refine tS (v := (.row none 4 (b.map E_api_Op))) (sv (d_move rfl)) ?_
            refine tS (v := (eI .i64 x13)) (sv (d_move rfl)) ?_
            refine tS (sv (d_ia rfl rfl (iaR ti31 ti59 h_5))) ?_
            refine tS (sv (d_fa rfl (fae59_0 ..))) ?_
            refine tS (v := (eI .i64 x23.Code)) (sv (d_load rfl (ldR h_5 (part1 ti3 rfl rfl)))) ?_
            refine tS (v := (eB (x18.Code != x23.Code))) (sv (d_bin rfl rfl (bin_neq ..))) ?_
            refine tS (v := (eB (x18.Code != x23.Code))) (sv (d_move rfl)) ?_
            refine tS (v := (.row none 4 (va.map E_api_Op))) (svG rfl rfl h6 (d_move rfl)) ?_
            refine tS (v := (eI .i64 x13)) (svG rfl rfl h6 (d_move rfl)) ?_
            refine tS (svG rfl rfl h6 (d_ia rfl rfl (iaR ti31 ti59 h_4))) ?_
            refine tS (svG rfl rfl h6 (d_fa rfl (fae59_2 ..))) ?_
            refine tS (v := (eI .i64 x18.M)) (svG rfl rfl h6 (d_load rfl (ldR h_4 (part1 ti3 rfl rfl)))) ?_
            refine tS (v := (.row none 4 (b.map E_api_Op))) (svG rfl rfl h6 (d_move rfl)) ?_
            refine tS (v := (eI .i64 x13)) (svG rfl rfl h6 (d_move rfl)) ?_
            refine tS (svG rfl rfl h6 (d_ia rfl rfl (iaR ti31 ti59 h_5))) ?_
            refine tS (svG rfl rfl h6 (d_fa rfl (fae59_2 ..))) ?_
            refine tS (v := (eI .i64 x23.M)) (svG rfl rfl h6 (d_load rfl (ldR h_5 (part1 ti3 rfl rfl)))) ?_
            refine tS (v := (eB (x18.M != x23.M))) (svG rfl rfl h6 (d_bin rfl rfl (bin_neq ..))) ?_
            refine tS (v := (eB (x18.M != x23.M))) (sv (d_pickF rfl h6 rfl)) ?_
            refine tS (v := (eB (x18.M != x23.M))) (sv (d_move rfl)) ?_
            refine tS (v := (.row none 4 (va.map E_api_Op))) (svG rfl rfl h7 (d_move rfl)) ?_
            refine tS (v := (eI .i64 x13)) (svG rfl rfl h7 (d_move rfl)) ?_
            refine tS (svG rfl rfl h7 (d_ia rfl rfl (iaR ti31 ti59 h_4))) ?_
            refine tS (svG rfl rfl h7 (d_fa rfl (fae59_3 ..))) ?_
            refine tS (v := (eI .i64 x18.N)) (svG rfl rfl h7 (d_load rfl (ldR h_4 (part1 ti3 rfl rfl)))) ?_
            refine tS (v := (.row none 4 (b.map E_api_Op))) (svG rfl rfl h7 (d_move rfl)) ?_
            refine tS (v := (eI .i64 x13)) (svG rfl rfl h7 (d_move rfl)) ?_
            refine tS (svG rfl rfl h7 (d_ia rfl rfl (iaR ti31 ti59 h_5))) ?_
            refine tS (svG rfl rfl h7 (d_fa rfl (fae59_3 ..))) ?_
            refine tS (v := (eI .i64 x23.N)) (svG rfl rfl h7 (d_load rfl (ldR h_5 (part1 ti3 rfl rfl)))) ?_
            refine tS (v := (eB (x18.N != x23.N))) (svG rfl rfl h7 (d_bin rfl rfl (bin_neq ..))) ?_
            refine tS (v := (eB (x18.N != x23.N))) (sv (d_pickF rfl h7 rfl)) ?_
            refine tS (v := (eB (x18.N != x23.N))) (sv (d_move rfl)) ?_
            refine tS (svX rfl rfl h8) ?_
            refine tS (svX rfl rfl h8) ?_
            refine tS (svX rfl rfl h8) ?_
            refine tS (svX rfl rfl h8) ?_
            refine tS (svX rfl rfl h8) ?_
            refine tS (svX rfl rfl h8) ?_
            refine tS (svX rfl rfl h8) ?_
            refine tS (svX rfl rfl h8) ?_
            refine tS (svX rfl rfl h8) ?_
            refine tS (svX rfl rfl h8) ?_
            refine tS (svX rfl rfl h8) ?_
            refine tS (svX rfl rfl h8) ?_
            refine tS (v := (eB true)) (sv (d_pickT rfl h8 rfl)) ?_
            refine OpsTo.nil ?_
            refine Ex.then_mk ?_
            exact hG3 _ _ _ _ (Ghost.rn [] rfl rfl (FLe.same rfl (FLe.same rfl (FLe.same rfl (FLe.same rfl (FLe.same rfl FLe.nil))))) HLe.nil rfl) (J3 true hr2)
          · replace hr2 := iteF hr2 h8
            replace hr2 := bnd hr2; obtain ⟨x64, h_9, hr2⟩ := hr2
            have hc10 : Vm.Fn Tryd.prog 11 [] [(.row none 1 (x18.Data.map (eI .u8))), (.row none 1 (x23.Data.map (eI .u8)))] (eB x64) [] := (Vm.Fn.pure (ref01_Same_ok N x18.Data x23.Data x64 h_9) rfl rfl)
            refine AB.rg (Env.one mixed hc10 allF (fun _ _ => rfl)) (fun _ => by show drawOk allF _ = true; decide +kernel) ?_
            refine tS (v := (.row none 4 (va.map E_api_Op))) (sv (d_move rfl)) ?_
            refine tS (v := (eI .i64 x13)) (sv (d_move rfl)) ?_
            refine tS (sv (d_ia rfl rfl (iaR ti31 ti59 h_4))) ?_
            refine tS (sv (d_fa rfl (fae59_0 ..))) ?_
            refine tS (v := (eI .i64 x18.Code)) (sv (d_load rfl (ldR h_4 (part1 ti3 rfl rfl)))) ?_
            refine tS (v := (.row none 4 (b.map E_api_Op))) (sv (d_move rfl)) ?_
            refine tS (v := (eI .i64 x13)) (sv (d_move rfl)) ?_
            refine tS (sv (d_ia rfl rfl (iaR ti31 ti59 h_5))) ?_
            refine tS (sv (d_fa rfl (fae59_0 ..))) ?_
            refine tS (v := (eI .i64 x23.Code)) (sv (d_load rfl (ldR h_5 (part1 ti3 rfl rfl)))) ?_
            refine tS (v := (eB (x18.Code != x23.Code))) (sv (d_bin rfl rfl (bin_neq ..))) ?_
            refine tS (v := (eB (x18.Code != x23.Code))) (sv (d_move rfl)) ?_
            refine tS (v := (.row none 4 (va.map E_api_Op))) (svG rfl rfl h6 (d_move rfl)) ?_
            refine tS (v := (eI .i64 x13)) (svG rfl rfl h6 (d_move rfl)) ?_
            refine tS (svG rfl rfl h6 (d_ia rfl rfl (iaR ti31 ti59 h_4))) ?_
            refine tS (svG rfl rfl h6 (d_fa rfl (fae59_2 ..))) ?_
            refine tS (v := (eI .i64 x18.M)) (svG rfl rfl h6 (d_load rfl (ldR h_4 (part1 ti3 rfl rfl)))) ?_
            refine tS (v := (.row none 4 (b.map E_api_Op))) (svG rfl rfl h6 (d_move rfl)) ?_
            refine tS (v := (eI .i64 x13)) (svG rfl rfl h6 (d_move rfl)) ?_
            refine tS (svG rfl rfl h6 (d_ia rfl rfl (iaR ti31 ti59 h_5))) ?_
            refine tS (svG rfl rfl h6 (d_fa rfl (fae59_2 ..))) ?_
            refine tS (v := (eI .i64 x23.M)) (svG rfl rfl h6 (d_load rfl (ldR h_5 (part1 ti3 rfl rfl)))) ?_
            refine tS (v := (eB (x18.M != x23.M))) (svG rfl rfl h6 (d_bin rfl rfl (bin_neq ..))) ?_
            refine tS (v := (eB (x18.M != x23.M))) (sv (d_pickF rfl h6 rfl)) ?_
            refine tS (v := (eB (x18.M != x23.M))) (sv (d_move rfl)) ?_
            refine tS (v := (.row none 4 (va.map E_api_Op))) (svG rfl rfl h7 (d_move rfl)) ?_
            refine tS (v := (eI .i64 x13)) (svG rfl rfl h7 (d_move rfl)) ?_
            refine tS (svG rfl rfl h7 (d_ia rfl rfl (iaR ti31 ti59 h_4))) ?_
            refine tS (svG rfl rfl h7 (d_fa rfl (fae59_3 ..))) ?_
            refine tS (v := (eI .i64 x18.N)) (svG rfl rfl h7 (d_load rfl (ldR h_4 (part1 ti3 rfl rfl)))) ?_
            refine tS (v := (.row none 4 (b.map E_api_Op))) (svG rfl rfl h7 (d_move rfl)) ?_
            refine tS (v := (eI .i64 x13)) (svG rfl rfl h7 (d_move rfl)) ?_
            refine tS (svG rfl rfl h7 (d_ia rfl rfl (iaR ti31 ti59 h_5))) ?_
            refine tS (svG rfl rfl h7 (d_fa rfl (fae59_3 ..))) ?_
            refine tS (v := (eI .i64 x23.N)) (svG rfl rfl h7 (d_load rfl (ldR h_5 (part1 ti3 rfl rfl)))) ?_
            refine tS (v := (eB (x18.N != x23.N))) (svG rfl rfl h7 (d_bin rfl rfl (bin_neq ..))) ?_
            refine tS (v := (eB (x18.N != x23.N))) (sv (d_pickF rfl h7 rfl)) ?_
            refine tS (v := (eB (x18.N != x23.N))) (sv (d_move rfl)) ?_
            refine tS (v := (.row none 4 (va.map E_api_Op))) (svG rfl rfl h8 (d_move rfl)) ?_
            refine tS (v := (eI .i64 x13)) (svG rfl rfl h8 (d_move rfl)) ?_
            refine tS (svG rfl rfl h8 (d_ia rfl rfl (iaR ti31 ti59 h_4))) ?_
            refine tS (svG rfl rfl h8 (d_fa rfl (fae59_1 ..))) ?_
            refine tS (v := (.row none 1 (x18.Data.map (eI .u8)))) (svG rfl rfl h8 (d_load rfl (ldR h_4 (part1 ti22 rfl rfl)))) ?_
            refine tS (v := (.row none 4 (b.map E_api_Op))) (svG rfl rfl h8 (d_move rfl)) ?_
            refine tS (v := (eI .i64 x13)) (svG rfl rfl h8 (d_move rfl)) ?_
            refine tS (svG rfl rfl h8 (d_ia rfl rfl (iaR ti31 ti59 h_5))) ?_
            refine tS (svG rfl rfl h8 (d_fa rfl (fae59_1 ..))) ?_
            refine tS (v := (.row none 1 (x23.Data.map (eI .u8)))) (svG rfl rfl h8 (d_load rfl (ldR h_5 (part1 ti22 rfl rfl)))) ?_
            refine tS (v := (eB x64)) (h' := []) (svG rfl rfl h8 (d_call rfl Env.one_O)) ?_
            refine tS (v := (eB (!x64))) (svG rfl rfl h8 (d_un rfl (un_not _ _))) ?_
            refine tS (v := (eB (!x64))) (sv (d_pickF rfl h8 rfl)) ?_
            refine OpsTo.nil ?_
            refine Ex.then_mk ?_
            exact hG3 _ _ _ _ (Ghost.rn [] rfl rfl (FLe.same rfl (FLe.same rfl (FLe.same rfl (FLe.same rfl (FLe.same rfl FLe.nil))))) HLe.nil rfl) (J3 (!x64) hr2)
    · replace hr2 := iteF hr2 h2
      refine AB.exit ?_
      refine Ex.then_exit_mk ?_
      refine Ex.then_exit_mk ?_
      refine Ex.inBlock_same_mk ?_
      obtain rfl := Option.some.inj hr2
      refine Ex.then_mk ?_
      exact hG1 _ _ _ _ (Ghost.rn [] rfl rfl FLe.nil HLe.nil rfl) (J1 hr)
set_option maxRecDepth 20000 in
set_option maxHeartbeats 1000000 in
theorem law08_ScriptBack_ok (N : Nat) (l : List S_api_Op) (b : List Int) (r : Bool) (hr : law08_ScriptBack N l b = some r) :
    Vm.Fn Tryd.prog 5 [] [(.row none 4 (l.map E_api_Op)), (.row none 1 (b.map (eI .u8)))] (eB r) [] := by
  refine fn_ab Tryd.func5 rfl (by kernel_rfl) Tryd.ntmps5 (Nat.le_of_ble_eq_true rfl) rfl (fr := [(0, (.row none 4 (l.map E_api_Op))), (1, (.row none 1 (b.map (eI .u8))))]) rfl ?_
  unfold law08_ScriptBack at hr
  refine AB.seq ?_
  refine AB.rw ?_
  refine wS (v := (eB false)) (sv (d_assign rfl)) ?_
  refine OpsW.nil ?_
  refine Ex.then_mk ?_
  refine AB.seq ?_
  refine AB.seq ?_
  replace hr := bnd hr; obtain ⟨x13, h_1, hr⟩ := hr
  refine AB.rw ?_
  refine wC (v := (eB x13)) (h' := []) rfl (Vm.Fn.pure (law08_sane_ok N x13 h_1) rfl rfl) ?_
  refine wS (v := (eB (!x13))) (sv (d_un rfl (un_not _ _))) ?_
  refine OpsW.nil ?_
  refine Ex.then_mk ?_
  refine AB.cnd rfl (fun h2 => ?_) (fun h2 => ?_)
  · replace hr := iteT hr h2
    refine AB.seq ?_
    refine AB.rw ?_
    refine wS (v := (eB false)) (sv (d_assign rfl)) ?_
    refine OpsW.nil ?_
    refine Ex.then_mk ?_
    refine AB.ret ?_
    refine Ex.then_ret_mk ?_
    obtain rfl := Option.some.inj hr
    exact done_ret (r1 := (eB false)) (res1 Tryd.results5 (rvT rfl)) (Ghost.rn [] rfl rfl (FLe.same rfl FLe.nil) HLe.nil rfl)
  · replace hr := iteF hr h2
    refine AB.skip ?_
    refine Ex.then_mk ?_
    refine AB.seq ?_
    refine AB.seq_g fun K1 hK1 hG1 => ?_
    have J1 : ∀ (x22 : Bool), law08_ScriptBack_J1 N l b x22 = some r → K1 (mkF 65 [(0, (.row none 4 (l.map E_api_Op))), (1, (.row none 1 (b.map (eI .u8)))), (22, (eB x22))]) [] := by
      intro x22 hr
      unfold law08_ScriptBack_J1 at hr
      refine hK1 _ _ ?_
      refine AB.cnd rfl (fun h3 => ?_) (fun h3 => ?_)
      · replace hr := iteT hr h3
        refine AB.seq ?_
        refine AB.rw ?_
        refine wS (v := (eB true)) (sv (d_assign rfl)) ?_
        refine OpsW.nil ?_
        refine Ex.then_mk ?_
        refine AB.ret ?_
        refine Ex.then_ret_mk ?_
        obtain rfl := Option.some.inj hr
        exact done_ret (r1 := (eB true)) (res1 Tryd.results5 (rvT rfl)) (Ghost.rn [] rfl rfl (FLe.same rfl FLe.nil) HLe.nil rfl)
      · replace hr := iteF hr h3
        refine AB.skip ?_
        refine Ex.then_mk ?_
        refine AB.seq_g fun K2 hK2 hG2 => ?_
        have J2 : law08_ScriptBack_J2 N b = some r → K2 (mkF 65 [(1, (.row none 1 (b.map (eI .u8))))]) [] := by
          intro hr
          unfold law08_ScriptBack_J2 at hr
          refine hK2 _ _ ?_
          refine AB.seq ?_
          replace hr := bnd hr; obtain ⟨x45, h_4, hr⟩ := hr
          refine AB.rw ?_
          refine wS (v := (.row none 1 (b.map (eI .u8)))) (sv (d_move rfl)) ?_
          refine wC (v := (.tup [(.sl 0 0 x45.1.length 4 true), (eI .i64 x45.2)])) (h' := [some ⟨59, x45.1.flatMap C_api_Op⟩]) rfl (Vm.Fn.lendB (script_Parse_ok N b x45 h_4) [] (by decide) rfl Lend.nil rfl rfl (by simp only [lent, lendSet, lendSet_nil, rnH, Blk.rn, V.rns, V.rn, sg, List.map_cons, List.map_nil, Option.map_some, Option.map_none, List.drop_succ_cons, List.drop_zero, List.drop_nil, List.set_cons_zero, List.set_cons_succ, List.cons_append, List.nil_append, List.append_nil, rns_eI, rns_eB, rns_eS, rns_eL, rns_C_api_Op, List.getElem?_cons_zero, List.getElem?_cons_succ, List.getElem?_nil, List.length_cons, List.length_nil, Nat.reduceAdd, Nat.reduceSub, Nat.add_zero, Nat.zero_add, Nat.sub_self, Nat.sub_zero])) ?_
          refine wS (v := (.tup [(.sl 0 0 x45.1.length 4 true), (eI .i64 x45.2)])) (sv (d_move rfl)) ?_
          refine wS (v := (.sl 0 0 x45.1.length 4 true)) (sv (d_ext rfl rfl)) ?_
          refine wS (v := (eI .i64 x45.2)) (sv (d_ext rfl rfl)) ?_
          refine wS (v := (.sl 0 0 x45.1.length 4 true)) (sv (d_assign rfl)) ?_
          refine wS (v := (eI .i64 x45.2)) (sv (d_assign rfl)) ?_
          refine OpsW.nil ?_
          refine Ex.then_mk ?_
          refine AB.seq ?_
          refine AB.seq ?_
          refine AB.rw ?_
          refine wS (v := (eI .i64 x45.2)) (sv (d_move rfl)) ?_
          refine wS (v := (eB (x45.2 != 0))) (sv (d_bin rfl rfl (bin_neq ..))) ?_
          refine OpsW.nil ?_
          refine Ex.then_mk ?_
          refine AB.cnd rfl (fun h5 => ?_) (fun h5 => ?_)
          · replace hr := iteT hr h5
            refine AB.seq ?_
            refine AB.rw ?_
            refine wS (v := (.sl 0 0 x45.1.length 4 true)) (sv (d_move rfl)) ?_
            refine wS (v := (eI .i64 (x45.1.length : Int))) (sv (d_len rfl (lenS ti31))) ?_
            refine wS (v := (eB ((x45.1.length : Int) == 0))) (sv (d_bin rfl rfl (bin_eql ..))) ?_
            refine wS (v := (eB ((x45.1.length : Int) == 0))) (sv (d_assign rfl)) ?_
            refine OpsW.nil ?_
            refine Ex.then_mk ?_
            refine AB.ret ?_
            refine Ex.then_ret_mk ?_
            obtain rfl := Option.some.inj hr
            exact done_ret (r1 := (eB ((x45.1.length : Int) == 0))) (res1 Tryd.results5 (rvT rfl)) (Ghost.rn [] rfl rfl (FLe.same rfl FLe.nil) HLe.nil rfl)
          · replace hr := iteF hr h5
            refine AB.skip ?_
            refine Ex.then_mk ?_
            refine AB.seq ?_
            replace hr := bnd hr; obtain ⟨x55, h_6, hr⟩ := hr
            refine AB.rw ?_
            refine wS (v := (.sl 0 0 x45.1.length 4 true)) (sv (d_move rfl)) ?_
            refine wC (v := (.tup [(.sl 1 0 x55.1.length 1 false), (eI .i64 x55.2)])) (h' := [some ⟨59, x45.1.flatMap C_api_Op⟩, some ⟨5, x55.1.map (eI .u8)⟩]) rfl (Vm.Fn.lendR (script_Assemble_ok N x45.1 x55 h_6) [] [0] (by decide) rfl (by decide) Lend.nil (Brw.row (exp_slKT (C := C_api_Op) (fun _ => rfl) (Nat.le_of_ble_eq_true rfl) rfl rfl (fun _ => rfl)) Brw.nil) rfl (rfB.live (rfs_map (fun _ => rfl) _) rfB.nil) rfl (by simp only [lent, lendSet, lendSet_nil, rnH, Blk.rn, V.rns, V.rn, sg, List.map_cons, List.map_nil, Option.map_some, Option.map_none, List.drop_succ_cons, List.drop_zero, List.drop_nil, List.set_cons_zero, List.set_cons_succ, List.cons_append, List.nil_append, List.append_nil, rns_eI, rns_eB, rns_eS, rns_eL, rns_C_api_Op, List.getElem?_cons_zero, List.getElem?_cons_succ, List.getElem?_nil, List.length_cons, List.length_nil, Nat.reduceAdd, Nat.reduceSub, Nat.add_zero, Nat.zero_add, Nat.sub_self, Nat.sub_zero])) ?_
            refine wS (v := (.tup [(.sl 1 0 x55.1.length 1 false), (eI .i64 x55.2)])) (sv (d_move rfl)) ?_
            refine wS (v := (.sl 1 0 x55.1.length 1 false)) (sv (d_ext rfl rfl)) ?_
            refine wS (v := (eI .i64 x55.2)) (sv (d_ext rfl rfl)) ?_
            refine wS (v := (.sl 1 0 x55.1.length 1 false)) (sv (d_assign rfl)) ?_
            refine wS (v := (eI .i64 x55.2)) (sv (d_assign rfl)) ?_
            refine OpsW.nil ?_
            refine Ex.then_mk ?_
            refine AB.seq_g fun K3 hK3 hG3 => ?_
            have J3 : ∀ (x4 : Bool), law08_ScriptBack_J3 N x4 = some r → K3 (mkF 65 [(4, (eB x4))]) [] := by
              intro x4 hr
              unfold law08_ScriptBack_J3 at hr
              refine hK3 _ _ ?_
              refine AB.ret ?_
              obtain rfl := Option.some.inj hr
              exact done_ret (r1 := (eB x4)) (res1 Tryd.results5 (rvT rfl)) (Ghost.rn [] rfl rfl (FLe.same rfl FLe.nil) HLe.nil rfl)
            rcases Bool.eq_false_or_eq_true (x55.2 == 0) with h7 | h7
            · replace hr := iteT hr h7
              replace hr := bnd hr; obtain ⟨x63, h_8, hr⟩ := hr
              refine AB.rw ?_
              refine wS (v := (eI .i64 x55.2)) (sv (d_move rfl)) ?_
              refine wS (v := (eB (x55.2 == 0))) (sv (d_bin rfl rfl (bin_eql ..))) ?_
              refine wS (v := (eB (x55.2 == 0))) (sv (d_move rfl)) ?_
              refine wS (v := (.sl 1 0 x55.1.length 1 false)) (svG rfl rfl h7 (d_move rfl)) ?_
              refine wS (v := (.row none 1 (b.map (eI .u8)))) (svG rfl rfl h7 (d_move rfl)) ?_
              refine wCG (v := (eB x63)) (h' := [some ⟨59, x45.1.flatMap C_api_Op⟩, some ⟨5, x55.1.map (eI .u8)⟩]) rfl rfl h7 rfl (Vm.Fn.lendR (ref01_Same_ok N x55.1 b x63 h_8) [] [1] (by decide) rfl (by decide) Lend.nil (Brw.row (exp_slT rfl rfl (fun _ => rfl)) (Brw.same rfl Brw.nil)) rfl rfB.nil rfl (by simp only [lent, lendSet, lendSet_nil, rnH, Blk.rn, V.rns, V.rn, sg, List.map_cons, List.map_nil, Option.map_some, Option.map_none, List.drop_succ_cons, List.drop_zero, List.drop_nil, List.set_cons_zero, List.set_cons_succ, List.cons_append, List.nil_append, List.append_nil, rns_eI, rns_eB, rns_eS, rns_eL, rns_C_api_Op, List.getElem?_cons_zero, List.getElem?_cons_succ, List.getElem?_nil, List.length_cons, List.length_nil, Nat.reduceAdd, Nat.reduceSub, Nat.add_zero, Nat.zero_add, Nat.sub_self, Nat.sub_zero])) ?_
              refine wS (v := (eB x63)) (sv (d_pickT rfl h7 rfl)) ?_
              refine wS (v := (eB x63)) (sv (d_assign rfl)) ?_
              refine OpsW.nil ?_
              refine Ex.then_mk ?_
              exact hG3 _ _ _ _ (Ghost.rn [] rfl rfl (FLe.same rfl FLe.nil) HLe.nil rfl) (J3 x63 hr)
            · replace hr := iteF hr h7
              refine AB.rw ?_
              refine wS (v := (eI .i64 x55.2)) (sv (d_move rfl)) ?_
              refine wS (v := (eB (x55.2 == 0))) (sv (d_bin rfl rfl (bin_eql ..))) ?_
              refine wS (v := (eB (x55.2 == 0))) (sv (d_move rfl)) ?_
              refine wS (svX rfl rfl h7) ?_
              refine wS (svX rfl rfl h7) ?_
              refine wS (svX rfl rfl h7) ?_
              refine wS (v := (eB false)) (sv (d_pickF rfl h7 rfl)) ?_
              refine wS (v := (eB false)) (sv (d_assign rfl)) ?_
              refine OpsW.nil ?_
              refine Ex.then_mk ?_
              exact hG3 _ _ _ _ (Ghost.rn [] rfl rfl (FLe.same rfl FLe.nil) HLe.nil rfl) (J3 false hr)
        refine AB.seq ?_
        replace hr := bnd hr; obtain ⟨x25, h_9, hr⟩ := hr
        refine AB.rw ?_
        refine wS (v := (.row none 4 (l.map E_api_Op))) (sv (d_move rfl)) ?_
        refine wC (v := (.tup [(.sl 0 0 x25.1.length 1 false), (eI .i64 x25.2)])) (h' := [some ⟨5, x25.1.map (eI .u8)⟩]) rfl (Vm.Fn.lendB (script_Assemble_ok N l x25 h_9) [] (by decide) rfl Lend.nil rfl rfl (by simp only [lent, lendSet, lendSet_nil, rnH, Blk.rn, V.rns, V.rn, sg, List.map_cons, List.map_nil, Option.map_some, Option.map_none, List.drop_succ_cons, List.drop_zero, List.drop_nil, List.set_cons_zero, List.set_cons_succ, List.cons_append, List.nil_append, List.append_nil, rns_eI, rns_eB, rns_eS, rns_eL, rns_C_api_Op, List.getElem?_cons_zero, List.getElem?_cons_succ, List.getElem?_nil, List.length_cons, List.length_nil, Nat.reduceAdd, Nat.reduceSub, Nat.add_zero, Nat.zero_add, Nat.sub_self, Nat.sub_zero])) ?_
        refine wS (v := (.tup [(.sl 0 0 x25.1.length 1 false), (eI .i64 x25.2)])) (sv (d_move rfl)) ?_
        refine wS (v := (.sl 0 0 x25.1.length 1 false)) (sv (d_ext rfl rfl)) ?_
        refine wS (v := (eI .i64 x25.2)) (sv (d_ext rfl rfl)) ?_
        refine wS (v := (.sl 0 0 x25.1.length 1 false)) (sv (d_assign rfl)) ?_
        refine wS (v := (eI .i64 x25.2)) (sv (d_assign rfl)) ?_
        refine OpsW.nil ?_
        refine Ex.then_mk ?_
        refine AB.seq ?_
        refine AB.rw ?_
        refine wS (v := (eI .i64 x25.2)) (sv (d_move rfl)) ?_
        refine wS (v := (eB (x25.2 == 0))) (sv (d_bin rfl rfl (bin_eql ..))) ?_
        refine OpsW.nil ?_
        refine Ex.then_mk ?_
        refine AB.cnd rfl (fun h10 => ?_) (fun h10 => ?_)
        · replace hr := iteT hr h10
          refine AB.seq ?_
          replace hr := bnd hr; obtain ⟨x32, h_11, hr⟩ := hr
          refine AB.rw ?_
          refine wS (v := (.sl 0 0 x25.1.length 1 false)) (sv (d_move rfl)) ?_
          refine OpsW.ghost (Ghost.conv (fr' := [(0, (.row none 4 (l.map E_api_Op))), (1, (.row none 1 (b.map (eI .u8)))), (5, (.row none 1 (x25.1.map (eI .u8)))), (6, (eI .i64 x25.2)), (22, (eB x22)), (23, (.tup [(.row none 1 (x25.1.map (eI .u8))), (eI .i64 x25.2)])), (24, (.row none 4 (l.map E_api_Op))), (25, (.tup [(.row none 1 (x25.1.map (eI .u8))), (eI .i64 x25.2)])), (26, (.row none 1 (x25.1.map (eI .u8)))), (27, (eI .i64 x25.2)), (28, (eI .i64 x25.2)), (29, (eB (x25.2 == 0))), (31, (.row none 1 (x25.1.map (eI .u8))))]) (h' := [none]) (FCv.cons rfl (Conv.same (subB_sub rfl)) (FCv.cons rfl (Conv.same (subB_sub rfl)) (FCv.cons rfl (Conv.row (subB_sub rfl) rfl rfl (all_mapE (fun _ => rfl)) (by first | rfl | simp only [List.length_map, len_set, len_cpy])) (FCv.cons rfl (Conv.same (subB_sub rfl)) (FCv.cons rfl (Conv.same (subB_sub rfl)) (FCv.cons rfl (Conv.tup (Convs.cons (Conv.row (subB_sub rfl) rfl rfl (all_mapE (fun _ => rfl)) (by first | rfl | simp only [List.length_map, len_set, len_cpy])) (Convs.cons (Conv.same (subB_sub rfl)) Convs.nil))) (FCv.cons rfl (Conv.same (subB_sub rfl)) (FCv.cons rfl (Conv.tup (Convs.cons (Conv.row (subB_sub rfl) rfl rfl (all_mapE (fun _ => rfl)) (by first | rfl | simp only [List.length_map, len_set, len_cpy])) (Convs.cons (Conv.same (subB_sub rfl)) Convs.nil))) (FCv.cons rfl (Conv.row (subB_sub rfl) rfl rfl (all_mapE (fun _ => rfl)) (by first | rfl | simp only [List.length_map, len_set, len_cpy])) (FCv.cons rfl (Conv.same (subB_sub rfl)) (FCv.cons rfl (Conv.same (subB_sub rfl)) (FCv.cons rfl (Conv.same (subB_sub rfl)) (FCv.cons rfl (Conv.row (subB_sub rfl) rfl rfl (all_mapE (fun _ => rfl)) (by first | rfl | simp only [List.length_map, len_set, len_cpy])) FCv.nil))))))))))))) (HCv.dead HCv.nil)) ?_
          refine wC (v := (.tup [(.sl 1 0 x32.1.length 4 true), (eI .i64 x32.2)])) (h' := [none, some ⟨59, x32.1.flatMap C_api_Op⟩]) rfl (Vm.Fn.lendB (script_Parse_ok N x25.1 x32 h_11) [] (by decide) rfl Lend.nil rfl rfl (by simp only [lent, lendSet, lendSet_nil, rnH, Blk.rn, V.rns, V.rn, sg, List.map_cons, List.map_nil, Option.map_some, Option.map_none, List.drop_succ_cons, List.drop_zero, List.drop_nil, List.set_cons_zero, List.set_cons_succ, List.cons_append, List.nil_append, List.append_nil, rns_eI, rns_eB, rns_eS, rns_eL, rns_C_api_Op, List.getElem?_cons_zero, List.getElem?_cons_succ, List.getElem?_nil, List.length_cons, List.length_nil, Nat.reduceAdd, Nat.reduceSub, Nat.add_zero, Nat.zero_add, Nat.sub_self, Nat.sub_zero])) ?_
          refine wS (v := (.tup [(.sl 1 0 x32.1.length 4 true), (eI .i64 x32.2)])) (sv (d_move rfl)) ?_
          refine wS (v := (.sl 1 0 x32.1.length 4 true)) (sv (d_ext rfl rfl)) ?_
          refine wS (v := (eI .i64 x32.2)) (sv (d_ext rfl rfl)) ?_
          refine wS (v := (.sl 1 0 x32.1.length 4 true)) (sv (d_assign rfl)) ?_
          refine wS (v := (eI .i64 x32.2)) (sv (d_assign rfl)) ?_
          refine OpsW.nil ?_
          refine Ex.then_mk ?_
          refine AB.seq_g fun K4 hK4 hG4 => ?_
          have J4 : ∀ (x42 : Bool), law08_ScriptBack_J4 N b x42 = some r → K4 (mkF 65 [(1, (.row none 1 (b.map (eI .u8)))), (42, (eB x42))]) [] := by
            intro x42 hr
            unfold law08_ScriptBack_J4 at hr
            refine hK4 _ _ ?_
            refine AB.cnd rfl (fun h12 => ?_) (fun h12 => ?_)
            · replace hr := iteT hr h12
              refine AB.seq ?_
              refine AB.rw ?_
              refine wS (v := (eB false)) (sv (d_assign rfl)) ?_
              refine OpsW.nil ?_
              refine Ex.then_mk ?_
              refine AB.ret ?_
              refine Ex.then_ret_mk ?_
              obtain rfl := Option.some.inj hr
              exact done_ret (r1 := (eB false)) (res1 Tryd.results5 (rvT rfl)) (Ghost.rn [] rfl rfl (FLe.same rfl FLe.nil) HLe.nil rfl)
            · replace hr := iteF hr h12
              refine AB.skip ?_
              refine Ex.then_mk ?_
              exact hG2 _ _ _ _ (Ghost.rn [] rfl rfl (FLe.same rfl FLe.nil) HLe.nil rfl) (J2 hr)
          rcases Bool.eq_false_or_eq_true (x32.2 != 0) with h13 | h13
          · replace hr := iteT hr h13
            refine AB.rw ?_
            refine wS (v := (eI .i64 x32.2)) (sv (d_move rfl)) ?_
            refine wS (v := (eB (x32.2 != 0))) (sv (d_bin rfl rfl (bin_neq ..))) ?_
            refine wS (v := (eB (x32.2 != 0))) (sv (d_move rfl)) ?_
            refine wS (svX rfl rfl h13) ?_
            refine wS (svX rfl rfl h13) ?_
            refine wS (svX rfl rfl h13) ?_
            refine wS (svX rfl rfl h13) ?_
            refine wS (v := (eB true)) (sv (d_pickT rfl h13 rfl)) ?_
            refine OpsW.nil ?_
            refine Ex.then_mk ?_
            exact hG4 _ _ _ _ (Ghost.rn [] rfl rfl (FLe.same rfl (FLe.same rfl FLe.nil)) HLe.nil rfl) (J4 true hr)
          · replace hr := iteF hr h13
            replace hr := bnd hr; obtain ⟨x40, h_14, hr⟩ := hr
            refine AB.rw ?_
            refine wS (v := (eI .i64 x32.2)) (sv (d_move rfl)) ?_
            refine wS (v := (eB (x32.2 != 0))) (sv (d_bin rfl rfl (bin_neq ..))) ?_
            refine wS (v := (eB (x32.2 != 0))) (sv (d_move rfl)) ?_
            refine wS (v := (.row none 4 (l.map E_api_Op))) (svG rfl rfl h13 (d_move rfl)) ?_
            refine wS (v := (.sl 1 0 x32.1.length 4 true)) (svG rfl rfl h13 (d_move rfl)) ?_
            refine wCG (v := (eB x40)) (h' := [none, some ⟨59, x32.1.flatMap C_api_Op⟩]) rfl rfl h13 rfl (Vm.Fn.lendR (ref08_SameOps_ok N l x32.1 x40 h_14) [] [1] (by decide) rfl (by decide) Lend.nil (Brw.same rfl (Brw.row (exp_slKT (C := C_api_Op) (fun _ => rfl) (Nat.le_of_ble_eq_true rfl) rfl rfl (fun _ => rfl)) Brw.nil)) rfl rfB.nil rfl (by simp only [lent, lendSet, lendSet_nil, rnH, Blk.rn, V.rns, V.rn, sg, List.map_cons, List.map_nil, Option.map_some, Option.map_none, List.drop_succ_cons, List.drop_zero, List.drop_nil, List.set_cons_zero, List.set_cons_succ, List.cons_append, List.nil_append, List.append_nil, rns_eI, rns_eB, rns_eS, rns_eL, rns_C_api_Op, List.getElem?_cons_zero, List.getElem?_cons_succ, List.getElem?_nil, List.length_cons, List.length_nil, Nat.reduceAdd, Nat.reduceSub, Nat.add_zero, Nat.zero_add, Nat.sub_self, Nat.sub_zero])) ?_
            refine wS (v := (eB (!x40))) (svG rfl rfl h13 (d_un rfl (un_not _ _))) ?_
            refine wS (v := (eB (!x40))) (sv (d_pickF rfl h13 rfl)) ?_
            refine OpsW.nil ?_
            refine Ex.then_mk ?_
            exact hG4 _ _ _ _ (Ghost.rn [] rfl rfl (FLe.same rfl (FLe.same rfl FLe.nil)) HLe.nil rfl) (J4 (!x40) hr)
        · replace hr := iteF hr h10
          refine AB.skip ?_
          refine Ex.then_mk ?_
          exact hG2 _ _ _ _ (Ghost.rn [] rfl rfl (FLe.same rfl FLe.nil) HLe.nil rfl) (J2 hr)
    replace hr := bnd hr; obtain ⟨x16, h_15, hr⟩ := hr
    rcases Bool.eq_false_or_eq_true (!x16) with h16 | h16
    · replace hr := iteT hr h16
      refine AB.rw ?_
      refine wS (v := (.row none 4 (l.map E_api_Op))) (sv (d_move rfl)) ?_
      refine wC (v := (eB x16)) (h' := []) rfl (Vm.Fn.pure (keep_Ops_ok N l 40 x16 h_15) rfl rfl) ?_
      refine wS (v := (eB (!x16))) (sv (d_un rfl (un_not _ _))) ?_
      refine wS (v := (eB (!x16))) (sv (d_move rfl)) ?_
      refine wS (svX rfl rfl h16) ?_
      refine wS (svX rfl rfl h16) ?_
      refine wS (svX rfl rfl h16) ?_
      refine wS (v := (eB true)) (sv (d_pickT rfl h16 rfl)) ?_
      refine OpsW.nil ?_
      refine Ex.then_mk ?_
      exact hG1 _ _ _ _ (Ghost.rn [] rfl rfl (FLe.same rfl (FLe.same rfl (FLe.same rfl FLe.nil))) HLe.nil rfl) (J1 true hr)
    · replace hr := iteF hr h16
      refine AB.rw ?_
      refine wS (v := (.row none 4 (l.map E_api_Op))) (sv (d_move rfl)) ?_
      refine wC (v := (eB x16)) (h' := []) rfl (Vm.Fn.pure (keep_Ops_ok N l 40 x16 h_15) rfl rfl) ?_
      refine wS (v := (eB (!x16))) (sv (d_un rfl (un_not _ _))) ?_
      refine wS (v := (eB (!x16))) (sv (d_move rfl)) ?_
      refine wS (v := (.row none 1 (b.map (eI .u8)))) (svG rfl rfl h16 (d_move rfl)) ?_
      refine wS (v := (eI .i64 (b.length : Int))) (svG rfl rfl h16 (d_len rfl (lenR ti22))) ?_
      refine wS (v := (eB (decide (700 < (b.length : Int))))) (svG rfl rfl h16 (d_bin rfl rfl (bin_gtr ..))) ?_
      refine wS (v := (eB (decide (700 < (b.length : Int))))) (sv (d_pickF rfl h16 rfl)) ?_
      refine OpsW.nil ?_
      refine Ex.then_mk ?_
      exact hG1 _ _ _ _ (Ghost.rn [] rfl rfl (FLe.same rfl (FLe.same rfl (FLe.same rfl FLe.nil))) HLe.nil rfl) (J1 (decide (700 < (b.length : Int))) hr)
end Go.Proofs.YtheekineakjhdaaDoor
