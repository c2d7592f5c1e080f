/- Walks printed by a program of ours (gen.py): each Go function of the list does what its shallow function says. -/
import Derived.Test.YtheekineakjhdaaDoorWk2
set_option linter.unusedVariables false
set_option linter.unusedSimpArgs false
namespace Go.Proofs.YtheekineakjhdaaDoor
open Go Go.Vm
set_option maxRecDepth 20000 in
set_option maxHeartbeats 1000000 in
theorem ref08_SameOps_ok (N : Nat) (va : List S_api_Op) (b : List S_api_Op) (r : Bool) (hr : ref08_SameOps N va b = some r) :
    Vm.Fn Tryd.prog 17 [] [(.row none 4 (va.map E_api_Op)), (.row none 4 (b.map E_api_Op))] (eB r) [] := by
  refine fn_ab Tryd.func17 rfl (by kernel_rfl) Tryd.ntmps17 (Nat.le_of_ble_eq_true rfl) rfl (fr := [(0, (.row none 4 (va.map E_api_Op))), (1, (.row none 4 (b.map E_api_Op)))]) rfl ?_
  unfold ref08_SameOps at hr
  refine AB.seq ?_
  refine AB.rw ?_
  refine wS (v := (eB false)) (sv (d_assign rfl)) ?_
  refine OpsW.nil ?_
  refine Ex.then_mk ?_
  refine AB.seq ?_
  refine AB.seq ?_
  refine AB.rw ?_
  refine wS (v := (.row none 4 (va.map E_api_Op))) (sv (d_move rfl)) ?_
  refine wS (v := (eI .i64 (va.length : Int))) (sv (d_len rfl (lenR ti31))) ?_
  refine wS (v := (.row none 4 (b.map E_api_Op))) (sv (d_move rfl)) ?_
  refine wS (v := (eI .i64 (b.length : Int))) (sv (d_len rfl (lenR ti31))) ?_
  refine wS (v := (eB ((va.length : Int) != (b.length : Int)))) (sv (d_bin rfl rfl (bin_neq ..))) ?_
  refine OpsW.nil ?_
  refine Ex.then_mk ?_
  refine AB.cnd rfl (fun h1 => ?_) (fun h1 => ?_)
  · replace hr := iteT hr h1
    refine AB.seq ?_
    refine AB.rw ?_
    refine wS (v := (eB false)) (sv (d_assign rfl)) ?_
    refine OpsW.nil ?_
    refine Ex.then_mk ?_
    refine AB.ret ?_
    refine Ex.then_ret_mk ?_
    obtain rfl := Option.some.inj hr
    exact done_ret (r1 := (eB false)) (res1 Tryd.results17 (rvT rfl)) (Ghost.rn [] rfl rfl (FLe.same rfl FLe.nil) HLe.nil rfl)
  · replace hr := iteF hr h1
    refine AB.skip ?_
    refine Ex.then_mk ?_
    refine AB.seq_g fun K1 hK1 hG1 => ?_
    have J1 : ref08_SameOps_J1 N = some r → K1 (mkF 68 []) [] := by
      intro hr
      unfold ref08_SameOps_J1 at hr
      refine hK1 _ _ ?_
      refine AB.seq ?_
      refine AB.rw ?_
      refine wS (v := (eB true)) (sv (d_assign rfl)) ?_
      refine OpsW.nil ?_
      refine Ex.then_mk ?_
      refine AB.ret ?_
      obtain rfl := Option.some.inj hr
      exact done_ret (r1 := (eB true)) (res1 Tryd.results17 (rvT rfl)) (Ghost.rn [] rfl rfl (FLe.same rfl FLe.nil) HLe.nil rfl)
    refine AB.seq ?_
    refine AB.rw ?_
    refine wS (v := (.row none 4 (va.map E_api_Op))) (sv (d_move rfl)) ?_
    refine wS (v := (eI .i64 (va.length : Int))) (sv (d_len rfl (lenR ti31))) ?_
    refine wS (v := (eI .i64 0)) (sv (d_move rfl)) ?_
    refine OpsW.nil ?_
    refine Ex.then_mk ?_
    replace hr := bnd hr; obtain ⟨res2, hL2, hr⟩ := hr
    refine AB.block ?_
    refine AB.loopN (fun m s h => ∃ (x13 : Int), ref08_SameOps_L2 N va b m x13 = some res2 ∧ Ghost 0 s h (mkF 68 [(0, (.row none 4 (va.map E_api_Op))), (1, (.row none 4 (b.map E_api_Op))), (12, (eI .i64 (va.length : Int))), (13, (eI .i64 x13))]) []) (n := N) ⟨0, hL2, (Ghost.rn [] rfl rfl (FLe.same rfl (FLe.same rfl (FLe.same rfl (FLe.same rfl FLe.nil)))) HLe.nil rfl)⟩ (by rintro s h ⟨_, h0, _⟩; simp [ref08_SameOps_L2] at h0) ?_
    rintro m2 s h ⟨x13, hr2, hg⟩
    refine AB.ghost hg ?_
    clear hg hL2
    rw [ref08_SameOps_L2] at hr2
    refine AB.seq ?_
    refine AB.rw ?_
    refine wS (v := (eB (decide (x13 < (va.length : Int))))) (sv (d_bin rfl rfl (bin_lss ..))) ?_
    refine OpsW.nil ?_
    refine Ex.then_mk ?_
    refine AB.seq ?_
    refine AB.cnd rfl (fun h2 => ?_) (fun h2 => ?_)
    · replace hr2 := iteT hr2 h2
      refine AB.skip ?_
      refine Ex.then_mk ?_
      refine AB.seq ?_
      refine AB.block ?_
      refine AB.seq ?_
      refine AB.rw ?_
      refine wS (v := (eI .i64 x13)) (sv (d_move rfl)) ?_
      refine wS (v := (eI .i64 x13)) (sv (d_assign rfl)) ?_
      refine OpsW.nil ?_
      refine Ex.then_mk ?_
      refine AB.seq_g fun K3 hK3 hG3 => ?_
      have J3 : ∀ (x66 : Bool), ref08_SameOps_J3 N va b x13 (ref08_SameOps_L2 N va b m2) x66 = some res2 → K3 (mkF 68 [(0, (.row none 4 (va.map E_api_Op))), (1, (.row none 4 (b.map E_api_Op))), (12, (eI .i64 (va.length : Int))), (13, (eI .i64 x13)), (66, (eB x66))]) [] := by
        intro x66 hr2
        unfold ref08_SameOps_J3 at hr2
        refine hK3 _ _ ?_
        refine AB.cnd rfl (fun h3 => ?_) (fun h3 => ?_)
        · replace hr2 := iteT hr2 h3
          refine AB.seq ?_
          refine AB.rw ?_
          refine wS (v := (eB false)) (sv (d_assign rfl)) ?_
          refine OpsW.nil ?_
          refine Ex.then_mk ?_
          refine AB.ret ?_
          refine Ex.inBlock_ret_mk ?_
          refine Ex.then_ret_mk ?_
          refine Ex.then_ret_mk ?_
          refine Ex.inBlock_ret_mk ?_
          refine Ex.then_ret_mk ?_
          obtain rfl := Option.some.inj hr2
          obtain rfl := Option.some.inj hr
          exact done_ret (r1 := (eB false)) (res1 Tryd.results17 (rvT rfl)) (Ghost.rn [] rfl rfl (FLe.same rfl FLe.nil) HLe.nil rfl)
        · replace hr2 := iteF hr2 h3
          refine AB.skip ?_
          refine Ex.inBlock_mk ?_
          refine Ex.then_mk ?_
          refine AB.rw ?_
          refine wS (v := (eI .i64 (IntKind.i64.wrap (x13 + 1)))) (sv (d_bin rfl rfl (bin_add ..))) ?_
          refine wS (v := (eI .i64 (IntKind.i64.wrap (x13 + 1)))) (sv (d_move rfl)) ?_
          refine OpsW.nil ?_
          refine Ex.then_mk ?_
          exact ⟨IntKind.i64.wrap (x13 + 1), hr2, (Ghost.rn [] rfl rfl (FLe.same rfl (FLe.same rfl (FLe.same rfl (FLe.same rfl FLe.nil)))) HLe.nil rfl)⟩
      replace hr2 := bnd hr2; obtain ⟨x18, h_4, hr2⟩ := hr2
      replace hr2 := bnd hr2; obtain ⟨x23, h_5, hr2⟩ := hr2
      rcases Bool.eq_false_or_eq_true (x18.Code != x23.Code) with h6 | h6
      · replace hr2 := iteT hr2 h6
        refine AB.rg E0 (fun _ => by show drawOk (fun _ => false) _ = true; decide +kernel) ?_
        refine tS (v := (.row none 4 (va.map E_api_Op))) (sv (d_move rfl)) ?_
        refine tS (v := (eI .i64 x13)) (sv (d_move rfl)) ?_
        refine tS (sv (d_ia rfl rfl (iaR ti31 ti59 h_4))) ?_
        refine tS (sv (d_fa rfl (fae59_0 ..))) ?_
        refine tS (v := (eI .i64 x18.Code)) (sv (d_load rfl (ldR h_4 (part1 ti3 rfl rfl)))) ?_
        refine tS (v := (.row none 4 (b.map E_api_Op))) (sv (d_move rfl)) ?_
        refine tS (v := (eI .i64 x13)) (sv (d_move rfl)) ?_
        refine tS (sv (d_ia rfl rfl (iaR ti31 ti59 h_5))) ?_
        refine tS (sv (d_fa rfl (fae59_0 ..))) ?_
        refine tS (v := (eI .i64 x23.Code)) (sv (d_load rfl (ldR h_5 (part1 ti3 rfl rfl)))) ?_
        refine tS (v := (eB (x18.Code != x23.Code))) (sv (d_bin rfl rfl (bin_neq ..))) ?_
        refine tS (v := (eB (x18.Code != x23.Code))) (sv (d_move rfl)) ?_
        refine tS (svX rfl rfl h6) ?_
        refine tS (svX rfl rfl h6) ?_
        refine tS (svX rfl rfl h6) ?_
        refine tS (svX rfl rfl h6) ?_
        refine tS (svX rfl rfl h6) ?_
        refine tS (svX rfl rfl h6) ?_
        refine tS (svX rfl rfl h6) ?_
        refine tS (svX rfl rfl h6) ?_
        refine tS (svX rfl rfl h6) ?_
        refine tS (svX rfl rfl h6) ?_
        refine tS (svX rfl rfl h6) ?_
        refine tS (v := (eB true)) (sv (d_pickT rfl h6 rfl)) ?_
        refine tS (v := (eB true)) (sv (d_move rfl)) ?_
        refine tS (svX rfl rfl rfl) ?_
        refine tS (svX rfl rfl rfl) ?_
        refine tS (svX rfl rfl rfl) ?_
        refine tS (svX rfl rfl rfl) ?_
        refine tS (svX rfl rfl rfl) ?_
        refine tS (svX rfl rfl rfl) ?_
        refine tS (svX rfl rfl rfl) ?_
        refine tS (svX rfl rfl rfl) ?_
        refine tS (svX rfl rfl rfl) ?_
        refine tS (svX rfl rfl rfl) ?_
        refine tS (svX rfl rfl rfl) ?_
        refine tS (v := (eB true)) (sv (d_pickT rfl rfl rfl)) ?_
        refine tS (v := (eB true)) (sv (d_move rfl)) ?_
        refine tS (svX rfl rfl rfl) ?_
        refine tS (svX rfl rfl rfl) ?_
        refine tS (svX rfl rfl rfl) ?_
        refine tS (svX rfl rfl rfl) ?_
        refine tS (svX rfl rfl rfl) ?_
        refine tS (svX rfl rfl rfl) ?_
        refine tS (svX rfl rfl rfl) ?_
        refine tS (svX rfl rfl rfl) ?_
        refine tS (svX rfl rfl rfl) ?_
        refine tS (svX rfl rfl rfl) ?_
        refine tS (svX rfl rfl rfl) ?_
        refine tS (svX rfl rfl rfl) ?_
        refine tS (v := (eB true)) (sv (d_pickT rfl rfl rfl)) ?_
        refine OpsTo.nil ?_
        refine Ex.then_mk ?_
        exact hG3 _ _ _ _ (Ghost.rn [] rfl rfl (FLe.same rfl (FLe.same rfl (FLe.same rfl (FLe.same rfl (FLe.same rfl FLe.nil))))) HLe.nil rfl) (J3 true hr2)
      · replace hr2 := iteF hr2 h6
        rcases Bool.eq_false_or_eq_true (x18.M != x23.M) with h7 | h7
        · replace hr2 := iteT hr2 h7
          refine AB.rg E0 (fun _ => by show drawOk (fun _ => false) _ = true; decide +kernel) ?_
          refine tS (v := (.row none 4 (va.map E_api_Op))) (sv (d_move rfl)) ?_
          refine tS (v := (eI .i64 x13)) (sv (d_move rfl)) ?_
          refine tS (sv (d_ia rfl rfl (iaR ti31 ti59 h_4))) ?_
          refine tS (sv (d_fa rfl (fae59_0 ..))) ?_
          refine tS (v := (eI .i64 x18.Code)) (sv (d_load rfl (ldR h_4 (part1 ti3 rfl rfl)))) ?_
          refine tS (v := (.row none 4 (b.map E_api_Op))) (sv (d_move rfl)) ?_
          refine tS (v := (eI .i64 x13)) (sv (d_move rfl)) ?_
          refine tS (sv (d_ia rfl rfl (iaR ti31 ti59 h_5))) ?_
          refine tS (sv (d_fa rfl (fae59_0 ..))) ?_
          refine tS (v := (eI .i64 x23.Code)) (sv (d_load rfl (ldR h_5 (part1 ti3 rfl rfl)))) ?_
          refine tS (v := (eB (x18.Code != x23.Code))) (sv (d_bin rfl rfl (bin_neq ..))) ?_
          refine tS (v := (eB (x18.Code != x23.Code))) (sv (d_move rfl)) ?_
          refine tS (v := (.row none 4 (va.map E_api_Op))) (svG rfl rfl h6 (d_move rfl)) ?_
          refine tS (v := (eI .i64 x13)) (svG rfl rfl h6 (d_move rfl)) ?_
          refine tS (svG rfl rfl h6 (d_ia rfl rfl (iaR ti31 ti59 h_4))) ?_
          refine tS (svG rfl rfl h6 (d_fa rfl (fae59_2 ..))) ?_
          refine tS (v := (eI .i64 x18.M)) (svG rfl rfl h6 (d_load rfl (ldR h_4 (part1 ti3 rfl rfl)))) ?_
          refine tS (v := (.row none 4 (b.map E_api_Op))) (svG rfl rfl h6 (d_move rfl)) ?_
          refine tS (v := (eI .i64 x13)) (svG rfl rfl h6 (d_move rfl)) ?_
          refine tS (svG rfl rfl h6 (d_ia rfl rfl (iaR ti31 ti59 h_5))) ?_
          refine tS (svG rfl rfl h6 (d_fa rfl (fae59_2 ..))) ?_
          refine tS (v := (eI .i64 x23.M)) (svG rfl rfl h6 (d_load rfl (ldR h_5 (part1 ti3 rfl rfl)))) ?_
          refine tS (v := (eB (x18.M != x23.M))) (svG rfl rfl h6 (d_bin rfl rfl (bin_neq ..))) ?_
          refine tS (v := (eB (x18.M != x23.M))) (sv (d_pickF rfl h6 rfl)) ?_
          refine tS (v := (eB (x18.M != x23.M))) (sv (d_move rfl)) ?_
          refine tS (svX rfl rfl h7) ?_
          refine tS (svX rfl rfl h7) ?_
          refine tS (svX rfl rfl h7) ?_
          refine tS (svX rfl rfl h7) ?_
          refine tS (svX rfl rfl h7) ?_
          refine tS (svX rfl rfl h7) ?_
          refine tS (svX rfl rfl h7) ?_
          refine tS (svX rfl rfl h7) ?_
          refine tS (svX rfl rfl h7) ?_
          refine tS (svX rfl rfl h7) ?_
          refine tS (svX rfl rfl h7) ?_
          refine tS (v := (eB true)) (sv (d_pickT rfl h7 rfl)) ?_
          refine tS (v := (eB true)) (sv (d_move rfl)) ?_
          refine tS (svX rfl rfl rfl) ?_
          refine tS (svX rfl rfl rfl) ?_
          refine tS (svX rfl rfl rfl) ?_
          refine tS (svX rfl rfl rfl) ?_
          refine tS (svX rfl rfl rfl) ?_
          refine tS (svX rfl rfl rfl) ?_
          refine tS (svX rfl rfl rfl) ?_
          refine tS (svX rfl rfl rfl) ?_
          refine tS (svX rfl rfl rfl) ?_
          refine tS (svX rfl rfl rfl) ?_
          refine tS (svX rfl rfl rfl) ?_
          refine tS (svX rfl rfl rfl) ?_
          refine tS (v := (eB true)) (sv (d_pickT rfl rfl rfl)) ?_
          refine OpsTo.nil ?_
          refine Ex.then_mk ?_
          exact hG3 _ _ _ _ (Ghost.rn [] rfl rfl (FLe.same rfl (FLe.same rfl (FLe.same rfl (FLe.same rfl (FLe.same rfl FLe.nil))))) HLe.nil rfl) (J3 true hr2)
        · replace hr2 := iteF hr2 h7
          rcases Bool.eq_false_or_eq_true (x18.N != x23.N) with h8 | h8
          · replace hr2 := iteT hr2 h8
            refine AB.rg E0 (fun _ => by show drawOk (fun _ => false) _ = true; decide +kernel) ?_
            refine tS (v := (.row none 4 (va.map E_api_Op))) (sv (d_move rfl)) ?_
            refine tS (v := (eI .i64 x13)) (sv (d_move rfl)) ?_
            refine tS (sv (d_ia rfl rfl (iaR ti31 ti59 h_4))) ?_
            refine tS (sv (d_fa rfl (fae59_0 ..))) ?_
            refine tS (v := (eI .i64 x18.Code)) (sv (d_load rfl (ldR h_4 (part1 ti3 rfl rfl)))) ?_
            refine tS (v := (.row none 4 (b.map E_api_Op))) (sv (d_move rfl)) ?_
            refine tS (v := (eI .i64 x13)) (sv (d_move rfl)) ?_
            refine tS (sv (d_ia rfl rfl (iaR ti31 ti59 h_5))) ?_
            refine tS (sv (d_fa rfl (fae59_0 ..))) ?_
            refine tS (v := (eI .i64 x23.Code)) (sv (d_load rfl (ldR h_5 (part1 ti3 rfl rfl)))) ?_
            refine tS (v := (eB (x18.Code != x23.Code))) (sv (d_bin rfl rfl (bin_neq ..))) ?_
            refine tS (v := (eB (x18.Code != x23.Code))) (sv (d_move rfl)) ?_
            refine tS (v := (.row none 4 (va.map E_api_Op))) (svG rfl rfl h6 (d_move rfl)) ?_
            refine tS (v := (eI .i64 x13)) (svG rfl rfl h6 (d_move rfl)) ?_
            refine tS (svG rfl rfl h6 (d_ia rfl rfl (iaR ti31 ti59 h_4))) ?_
            refine tS (svG rfl rfl h6 (d_fa rfl (fae59_2 ..))) ?_
            refine tS (v := (eI .i64 x18.M)) (svG rfl rfl h6 (d_load rfl (ldR h_4 (part1 ti3 rfl rfl)))) ?_
            refine tS (v := (.row none 4 (b.map E_api_Op))) (svG rfl rfl h6 (d_move rfl)) ?_
            refine tS (v := (eI .i64 x13)) (svG rfl rfl h6 (d_move rfl)) ?_
            refine tS (svG rfl rfl h6 (d_ia rfl rfl (iaR ti31 ti59 h_5))) ?_
            refine tS (svG rfl rfl h6 (d_fa rfl (fae59_2 ..))) ?_
            refine tS (v := (eI .i64 x23.M)) (svG rfl rfl h6 (d_load rfl (ldR h_5 (part1 ti3 rfl rfl)))) ?_
            refine tS (v := (eB (x18.M != x23.M))) (svG rfl rfl h6 (d_bin rfl rfl (bin_neq ..))) ?_
            refine tS (v := (eB (x18.M != x23.M))) (sv (d_pickF rfl h6 rfl)) ?_
            refine tS (v := (eB (x18.M != x23.M))) (sv (d_move rfl)) ?_
            refine tS (v := (.row none 4 (va.map E_api_Op))) (svG rfl rfl h7 (d_move rfl)) ?_
            refine tS (v := (eI .i64 x13)) (svG rfl rfl h7 (d_move rfl)) ?_
            refine tS (svG rfl rfl h7 (d_ia rfl rfl (iaR ti31 ti59 h_4))) ?_
            refine tS (svG rfl rfl h7 (d_fa rfl (fae59_3 ..))) ?_
            refine tS (v := (eI .i64 x18.N)) (svG rfl rfl h7 (d_load rfl (ldR h_4 (part1 ti3 rfl rfl)))) ?_
            refine tS (v := (.row none 4 (b.map E_api_Op))) (svG rfl rfl h7 (d_move rfl)) ?_
            refine tS (v := (eI .i64 x13)) (svG rfl rfl h7 (d_move rfl)) ?_
            refine tS (svG rfl rfl h7 (d_ia rfl rfl (iaR ti31 ti59 h_5))) ?_
            refine tS (svG rfl rfl h7 (d_fa rfl (fae59_3 ..))) ?_
            refine tS (v := (eI .i64 x23.N)) (svG rfl rfl h7 (d_load rfl (ldR h_5 (part1 ti3 rfl rfl)))) ?_
            refine tS (v := (eB (x18.N != x23.N))) (svG rfl rfl h7 (d_bin rfl rfl (bin_neq ..))) ?_
            refine tS (v := (eB (x18.N != x23.N))) (sv (d_pickF rfl h7 rfl)) ?_
            refine tS (v := (eB (x18.N != x23.N))) (sv (d_move rfl)) ?_
            refine tS (svX rfl rfl h8) ?_
            refine tS (svX rfl rfl h8) ?_
            refine tS (svX rfl rfl h8) ?_
            refine tS (svX rfl rfl h8) ?_
            refine tS (svX rfl rfl h8) ?_
            refine tS (svX rfl rfl h8) ?_
            refine tS (svX rfl rfl h8) ?_
            refine tS (svX rfl rfl h8) ?_
            refine tS (svX rfl rfl h8) ?_
            refine tS (svX rfl rfl h8) ?_
            refine tS (svX rfl rfl h8) ?_
            refine tS (svX rfl rfl h8) ?_
            refine tS (v := (eB true)) (sv (d_pickT rfl h8 rfl)) ?_
            refine OpsTo.nil ?_
            refine Ex.then_mk ?_
            exact hG3 _ _ _ _ (Ghost.rn [] rfl rfl (FLe.same rfl (FLe.same rfl (FLe.same rfl (FLe.same rfl (FLe.same rfl FLe.nil))))) HLe.nil rfl) (J3 true hr2)
          · replace hr2 := iteF hr2 h8
            replace hr2 := bnd hr2; obtain ⟨x64, h_9, hr2⟩ := hr2
            have hc10 : Vm.Fn Tryd.prog 11 [] [(.row none 1 (x18.Data.map (eI .u8))), (.row none 1 (x23.Data.map (eI .u8)))] (eB x64) [] := (Vm.Fn.pure (ref01_Same_ok N x18.Data x23.Data x64 h_9) rfl rfl)
            refine AB.rg (Env.one mixed hc10 allF (fun _ _ => rfl)) (fun _ => by show drawOk allF _ = true; decide +kernel) ?_
            refine tS (v := (.row none 4 (va.map E_api_Op))) (sv (d_move rfl)) ?_
            refine tS (v := (eI .i64 x13)) (sv (d_move rfl)) ?_
            refine tS (sv (d_ia rfl rfl (iaR ti31 ti59 h_4))) ?_
            refine tS (sv (d_fa rfl (fae59_0 ..))) ?_
            refine tS (v := (eI .i64 x18.Code)) (sv (d_load rfl (ldR h_4 (part1 ti3 rfl rfl)))) ?_
            refine tS (v := (.row none 4 (b.map E_api_Op))) (sv (d_move rfl)) ?_
            refine tS (v := (eI .i64 x13)) (sv (d_move rfl)) ?_
            refine tS (sv (d_ia rfl rfl (iaR ti31 ti59 h_5))) ?_
            refine tS (sv (d_fa rfl (fae59_0 ..))) ?_
            refine tS (v := (eI .i64 x23.Code)) (sv (d_load rfl (ldR h_5 (part1 ti3 rfl rfl)))) ?_
            refine tS (v := (eB (x18.Code != x23.Code))) (sv (d_bin rfl rfl (bin_neq ..))) ?_
            refine tS (v := (eB (x18.Code != x23.Code))) (sv (d_move rfl)) ?_
            refine tS (v := (.row none 4 (va.map E_api_Op))) (svG rfl rfl h6 (d_move rfl)) ?_
            refine tS (v := (eI .i64 x13)) (svG rfl rfl h6 (d_move rfl)) ?_
            refine tS (svG rfl rfl h6 (d_ia rfl rfl (iaR ti31 ti59 h_4))) ?_
            refine tS (svG rfl rfl h6 (d_fa rfl (fae59_2 ..))) ?_
            refine tS (v := (eI .i64 x18.M)) (svG rfl rfl h6 (d_load rfl (ldR h_4 (part1 ti3 rfl rfl)))) ?_
            refine tS (v := (.row none 4 (b.map E_api_Op))) (svG rfl rfl h6 (d_move rfl)) ?_
            refine tS (v := (eI .i64 x13)) (svG rfl rfl h6 (d_move rfl)) ?_
            refine tS (svG rfl rfl h6 (d_ia rfl rfl (iaR ti31 ti59 h_5))) ?_
            refine tS (svG rfl rfl h6 (d_fa rfl (fae59_2 ..))) ?_
            refine tS (v := (eI .i64 x23.M)) (svG rfl rfl h6 (d_load rfl (ldR h_5 (part1 ti3 rfl rfl)))) ?_
            refine tS (v := (eB (x18.M != x23.M))) (svG rfl rfl h6 (d_bin rfl rfl (bin_neq ..))) ?_
            refine tS (v := (eB (x18.M != x23.M))) (sv (d_pickF rfl h6 rfl)) ?_
            refine tS (v := (eB (x18.M != x23.M))) (sv (d_move rfl)) ?_
            refine tS (v := (.row none 4 (va.map E_api_Op))) (svG rfl rfl h7 (d_move rfl)) ?_
            refine tS (v := (eI .i64 x13)) (svG rfl rfl h7 (d_move rfl)) ?_
            refine tS (svG rfl rfl h7 (d_ia rfl rfl (iaR ti31 ti59 h_4))) ?_
            refine tS (svG rfl rfl h7 (d_fa rfl (fae59_3 ..))) ?_
            refine tS (v := (eI .i64 x18.N)) (svG rfl rfl h7 (d_load rfl (ldR h_4 (part1 ti3 rfl rfl)))) ?_
            refine tS (v := (.row none 4 (b.map E_api_Op))) (svG rfl rfl h7 (d_move rfl)) ?_
            refine tS (v := (eI .i64 x13)) (svG rfl rfl h7 (d_move rfl)) ?_
            refine tS (svG rfl rfl h7 (d_ia rfl rfl (iaR ti31 ti59 h_5))) ?_
            refine tS (svG rfl rfl h7 (d_fa rfl (fae59_3 ..))) ?_
            refine tS (v := (eI .i64 x23.N)) (svG rfl rfl h7 (d_load rfl (ldR h_5 (part1 ti3 rfl rfl)))) ?_
            refine tS (v := (eB (x18.N != x23.N))) (svG rfl rfl h7 (d_bin rfl rfl (bin_neq ..))) ?_
            refine tS (v := (eB (x18.N != x23.N))) (sv (d_pickF rfl h7 rfl)) ?_
            refine tS (v := (eB (x18.N != x23.N))) (sv (d_move rfl)) ?_
            refine tS (v := (.row none 4 (va.map E_api_Op))) (svG rfl rfl h8 (d_move rfl)) ?_
            refine tS (v := (eI .i64 x13)) (svG rfl rfl h8 (d_move rfl)) ?_
            refine tS (svG rfl rfl h8 (d_ia rfl rfl (iaR ti31 ti59 h_4))) ?_
            refine tS (svG rfl rfl h8 (d_fa rfl (fae59_1 ..))) ?_
            refine tS (v := (.row none 1 (x18.Data.map (eI .u8)))) (svG rfl rfl h8 (d_load rfl (ldR h_4 (part1 ti22 rfl rfl)))) ?_
            refine tS (v := (.row none 4 (b.map E_api_Op))) (svG rfl rfl h8 (d_move rfl)) ?_
            refine tS (v := (eI .i64 x13)) (svG rfl rfl h8 (d_move rfl)) ?_
            refine tS (svG rfl rfl h8 (d_ia rfl rfl (iaR ti31 ti59 h_5))) ?_
            refine tS (svG rfl rfl h8 (d_fa rfl (fae59_1 ..))) ?_
            refine tS (v := (.row none 1 (x23.Data.map (eI .u8)))) (svG rfl rfl h8 (d_load rfl (ldR h_5 (part1 ti22 rfl rfl)))) ?_
            refine tS (v := (eB x64)) (h' := []) (svG rfl rfl h8 (d_call rfl Env.one_O)) ?_
            refine tS (v := (eB (!x64))) (svG rfl rfl h8 (d_un rfl (un_not _ _))) ?_
            refine tS (v := (eB (!x64))) (sv (d_pickF rfl h8 rfl)) ?_
            refine OpsTo.nil ?_
            refine Ex.then_mk ?_
            exact hG3 _ _ _ _ (Ghost.rn [] rfl rfl (FLe.same rfl (FLe.same rfl (FLe.same rfl (FLe.same rfl (FLe.same rfl FLe.nil))))) HLe.nil rfl) (J3 (!x64) hr2)
    · replace hr2 := iteF hr2 h2
      refine AB.exit ?_
      refine Ex.then_exit_mk ?_
      refine Ex.then_exit_mk ?_
      refine Ex.inBlock_same_mk ?_
      obtain rfl := Option.some.inj hr2
      refine Ex.then_mk ?_
      exact hG1 _ _ _ _ (Ghost.rn [] rfl rfl FLe.nil HLe.nil rfl) (J1 hr)
set_option maxRecDepth 20000 in
set_option maxHeartbeats 1000000 in
theorem law08_ScriptBack_ok (N : Nat) (l : List S_api_Op) (b : List Int) (r : Bool) (hr : law08_ScriptBack N l b = some r) :
    Vm.Fn Tryd.prog 5 [] [(.row none 4 (l.map E_api_Op)), (.row none 1 (b.map (eI .u8)))] (eB r) [] := by
  refine fn_ab Tryd.func5 rfl (by kernel_rfl) Tryd.ntmps5 (Nat.le_of_ble_eq_true rfl) rfl (fr := [(0, (.row none 4 (l.map E_api_Op))), (1, (.row none 1 (b.map (eI .u8))))]) rfl ?_
  unfold law08_ScriptBack at hr
  refine AB.seq ?_
  refine AB.rw ?_
  refine wS (v := (eB false)) (sv (d_assign rfl)) ?_
  refine OpsW.nil ?_
  refine Ex.then_mk ?_
  refine AB.seq ?_
  refine AB.seq ?_
  replace hr := bnd hr; obtain ⟨x13, h_1, hr⟩ := hr
  refine AB.rw ?_
  refine wC (v := (eB x13)) (h' := []) rfl (Vm.Fn.pure (law08_sane_ok N x13 h_1) rfl rfl) ?_
  refine wS (v := (eB (!x13))) (sv (d_un rfl (un_not _ _))) ?_
  refine OpsW.nil ?_
  refine Ex.then_mk ?_
  refine AB.cnd rfl (fun h2 => ?_) (fun h2 => ?_)
  · replace hr := iteT hr h2
    refine AB.seq ?_
    refine AB.rw ?_
    refine wS (v := (eB false)) (sv (d_assign rfl)) ?_
    refine OpsW.nil ?_
    refine Ex.then_mk ?_
    refine AB.ret ?_
    refine Ex.then_ret_mk ?_
    obtain rfl := Option.some.inj hr
    exact done_ret (r1 := (eB false)) (res1 Tryd.results5 (rvT rfl)) (Ghost.rn [] rfl rfl (FLe.same rfl FLe.nil) HLe.nil rfl)
  · replace hr := iteF hr h2
    refine AB.skip ?_
    refine Ex.then_mk ?_
    refine AB.seq ?_
    refine AB.seq_g fun K1 hK1 hG1 => ?_
    have J1 : ∀ (x22 : Bool), law08_ScriptBack_J1 N l b x22 = some r → K1 (mkF 65 [(0, (.row none 4 (l.map E_api_Op))), (1, (.row none 1 (b.map (eI .u8)))), (22, (eB x22))]) [] := by
      intro x22 hr
      unfold law08_ScriptBack_J1 at hr
      refine hK1 _ _ ?_
      refine AB.cnd rfl (fun h3 => ?_) (fun h3 => ?_)
      · replace hr := iteT hr h3
        refine AB.seq ?_
        refine AB.rw ?_
        refine wS (v := (eB true)) (sv (d_assign rfl)) ?_
        refine OpsW.nil ?_
        refine Ex.then_mk ?_
        refine AB.ret ?_
        refine Ex.then_ret_mk ?_
        obtain rfl := Option.some.inj hr
        exact done_ret (r1 := (eB true)) (res1 Tryd.results5 (rvT rfl)) (Ghost.rn [] rfl rfl (FLe.same rfl FLe.nil) HLe.nil rfl)
      · replace hr := iteF hr h3
        refine AB.skip ?_
        refine Ex.then_mk ?_
        refine AB.seq_g fun K2 hK2 hG2 => ?_
        have J2 : law08_ScriptBack_J2 N b = some r → K2 (mkF 65 [(1, (.row none 1 (b.map (eI .u8))))]) [] := by
          intro hr
          unfold law08_ScriptBack_J2 at hr
          refine hK2 _ _ ?_
          refine AB.seq ?_
          replace hr := bnd hr; obtain ⟨x45, h_4, hr⟩ := hr
          refine AB.rw ?_
          refine wS (v := (.row none 1 (b.map (eI .u8)))) (sv (d_move rfl)) ?_
          refine wC (v := (.tup [(.sl 0 0 x45.1.length 4 true), (eI .i64 x45.2)])) (h' := [some ⟨59, x45.1.flatMap C_api_Op⟩]) rfl (Vm.Fn.lendB (script_Parse_ok N b x45 h_4) [] (by decide) rfl Lend.nil rfl rfl (by simp only [lent, lendSet, lendSet_nil, rnH, Blk.rn, V.rns, V.rn, sg, List.map_cons, List.map_nil, Option.map_some, Option.map_none, List.drop_succ_cons, List.drop_zero, List.drop_nil, List.set_cons_zero, List.set_cons_succ, List.cons_append, List.nil_append, List.append_nil, rns_eI, rns_eB, rns_eS, rns_eL, rns_C_api_Op, List.getElem?_cons_zero, List.getElem?_cons_succ, List.getElem?_nil, List.length_cons, List.length_nil, Nat.reduceAdd, Nat.reduceSub, Nat.add_zero, Nat.zero_add, Nat.sub_self, Nat.sub_zero])) ?_
          refine wS (v := (.tup [(.sl 0 0 x45.1.length 4 true), (eI .i64 x45.2)])) (sv (d_move rfl)) ?_
          refine wS (v := (.sl 0 0 x45.1.length 4 true)) (sv (d_ext rfl rfl)) ?_
          refine wS (v := (eI .i64 x45.2)) (sv (d_ext rfl rfl)) ?_
          refine wS (v := (.sl 0 0 x45.1.length 4 true)) (sv (d_assign rfl)) ?_
          refine wS (v := (eI .i64 x45.2)) (sv (d_assign rfl)) ?_
          refine OpsW.nil ?_
          refine Ex.then_mk ?_
          refine AB.seq ?_
          refine AB.seq ?_
          refine AB.rw ?_
          refine wS (v := (eI .i64 x45.2)) (sv (d_move rfl)) ?_
          refine wS (v := (eB (x45.2 != 0))) (sv (d_bin rfl rfl (bin_neq ..))) ?_
          refine OpsW.nil ?_
          refine Ex.then_mk ?_
          refine AB.cnd rfl (fun h5 => ?_) (fun h5 => ?_)
          · replace hr := iteT hr h5
            refine AB.seq ?_
            refine AB.rw ?_
            refine wS (v := (.sl 0 0 x45.1.length 4 true)) (sv (d_move rfl)) ?_
            refine wS (v := (eI .i64 (x45.1.length : Int))) (sv (d_len rfl (lenS ti31))) ?_
            refine wS (v := (eB ((x45.1.length : Int) == 0))) (sv (d_bin rfl rfl (bin_eql ..))) ?_
            refine wS (v := (eB ((x45.1.length : Int) == 0))) (sv (d_assign rfl)) ?_
            refine OpsW.nil ?_
            refine Ex.then_mk ?_
            refine AB.ret ?_
            refine Ex.then_ret_mk ?_
            obtain rfl := Option.some.inj hr
            exact done_ret (r1 := (eB ((x45.1.length : Int) == 0))) (res1 Tryd.results5 (rvT rfl)) (Ghost.rn [] rfl rfl (FLe.same rfl FLe.nil) HLe.nil rfl)
          · replace hr := iteF hr h5
            refine AB.skip ?_
            refine Ex.then_mk ?_
            refine AB.seq ?_
            replace hr := bnd hr; obtain ⟨x55, h_6, hr⟩ := hr
            refine AB.rw ?_
            refine wS (v := (.sl 0 0 x45.1.length 4 true)) (sv (d_move rfl)) ?_
            refine wC (v := (.tup [(.sl 1 0 x55.1.length 1 false), (eI .i64 x55.2)])) (h' := [some ⟨59, x45.1.flatMap C_api_Op⟩, some ⟨5, x55.1.map (eI .u8)⟩]) rfl (Vm.Fn.lendR (script_Assemble_ok N x45.1 x55 h_6) [] [0] (by decide) rfl (by decide) Lend.nil (Brw.row (exp_slKT (C := C_api_Op) (fun _ => rfl) (Nat.le_of_ble_eq_true rfl) rfl rfl (fun _ => rfl)) Brw.nil) rfl (rfB.live (rfs_map (fun _ => rfl) _) rfB.nil) rfl (by simp only [lent, lendSet, lendSet_nil, rnH, Blk.rn, V.rns, V.rn, sg, List.map_cons, List.map_nil, Option.map_some, Option.map_none, List.drop_succ_cons, List.drop_zero, List.drop_nil, List.set_cons_zero, List.set_cons_succ, List.cons_append, List.nil_append, List.append_nil, rns_eI, rns_eB, rns_eS, rns_eL, rns_C_api_Op, List.getElem?_cons_zero, List.getElem?_cons_succ, List.getElem?_nil, List.length_cons, List.length_nil, Nat.reduceAdd, Nat.reduceSub, Nat.add_zero, Nat.zero_add, Nat.sub_self, Nat.sub_zero])) ?_
            refine wS (v := (.tup [(.sl 1 0 x55.1.length 1 false), (eI .i64 x55.2)])) (sv (d_move rfl)) ?_
            refine wS (v := (.sl 1 0 x55.1.length 1 false)) (sv (d_ext rfl rfl)) ?_
            refine wS (v := (eI .i64 x55.2)) (sv (d_ext rfl rfl)) ?_
            refine wS (v := (.sl 1 0 x55.1.length 1 false)) (sv (d_assign rfl)) ?_
            refine wS (v := (eI .i64 x55.2)) (sv (d_assign rfl)) ?_
            refine OpsW.nil ?_
            refine Ex.then_mk ?_
            refine AB.seq_g fun K3 hK3 hG3 => ?_
            have J3 : ∀ (x4 : Bool), law08_ScriptBack_J3 N x4 = some r → K3 (mkF 65 [(4, (eB x4))]) [] := by
              intro x4 hr
              unfold law08_ScriptBack_J3 at hr
              refine hK3 _ _ ?_
              refine AB.ret ?_
              obtain rfl := Option.some.inj hr
              exact done_ret (r1 := (eB x4)) (res1 Tryd.results5 (rvT rfl)) (Ghost.rn [] rfl rfl (FLe.same rfl FLe.nil) HLe.nil rfl)
            rcases Bool.eq_false_or_eq_true (x55.2 == 0) with h7 | h7
            · replace hr := iteT hr h7
              replace hr := bnd hr; obtain ⟨x63, h_8, hr⟩ := hr
              refine AB.rw ?_
              refine wS (v := (eI .i64 x55.2)) (sv (d_move rfl)) ?_
              refine wS (v := (eB (x55.2 == 0))) (sv (d_bin rfl rfl (bin_eql ..))) ?_
              refine wS (v := (eB (x55.2 == 0))) (sv (d_move rfl)) ?_
              refine wS (v := (.sl 1 0 x55.1.length 1 false)) (svG rfl rfl h7 (d_move rfl)) ?_
              refine wS (v := (.row none 1 (b.map (eI .u8)))) (svG rfl rfl h7 (d_move rfl)) ?_
              refine wCG (v := (eB x63)) (h' := [some ⟨59, x45.1.flatMap C_api_Op⟩, some ⟨5, x55.1.map (eI .u8)⟩]) rfl rfl h7 rfl (Vm.Fn.lendR (ref01_Same_ok N x55.1 b x63 h_8) [] [1] (by decide) rfl (by decide) Lend.nil (Brw.row (exp_slT rfl rfl (fun _ => rfl)) (Brw.same rfl Brw.nil)) rfl rfB.nil rfl (by simp only [lent, lendSet, lendSet_nil, rnH, Blk.rn, V.rns, V.rn, sg, List.map_cons, List.map_nil, Option.map_some, Option.map_none, List.drop_succ_cons, List.drop_zero, List.drop_nil, List.set_cons_zero, List.set_cons_succ, List.cons_append, List.nil_append, List.append_nil, rns_eI, rns_eB, rns_eS, rns_eL, rns_C_api_Op, List.getElem?_cons_zero, List.getElem?_cons_succ, List.getElem?_nil, List.length_cons, List.length_nil, Nat.reduceAdd, Nat.reduceSub, Nat.add_zero, Nat.zero_add, Nat.sub_self, Nat.sub_zero])) ?_
              refine wS (v := (eB x63)) (sv (d_pickT rfl h7 rfl)) ?_
              refine wS (v := (eB x63)) (sv (d_assign rfl)) ?_
              refine OpsW.nil ?_
              refine Ex.then_mk ?_
              exact hG3 _ _ _ _ (Ghost.rn [] rfl rfl (FLe.same rfl FLe.nil) HLe.nil rfl) (J3 x63 hr)
            · replace hr := iteF hr h7
              refine AB.rw ?_
              refine wS (v := (eI .i64 x55.2)) (sv (d_move rfl)) ?_
              refine wS (v := (eB (x55.2 == 0))) (sv (d_bin rfl rfl (bin_eql ..))) ?_
              refine wS (v := (eB (x55.2 == 0))) (sv (d_move rfl)) ?_
              refine wS (svX rfl rfl h7) ?_
              refine wS (svX rfl rfl h7) ?_
              refine wS (svX rfl rfl h7) ?_
              refine wS (v := (eB false)) (sv (d_pickF rfl h7 rfl)) ?_
              refine wS (v := (eB false)) (sv (d_assign rfl)) ?_
              refine OpsW.nil ?_
              refine Ex.then_mk ?_
              exact hG3 _ _ _ _ (Ghost.rn [] rfl rfl (FLe.same rfl FLe.nil) HLe.nil rfl) (J3 false hr)
        refine AB.seq ?_
        replace hr := bnd hr; obtain ⟨x25, h_9, hr⟩ := hr
        refine AB.rw ?_
        refine wS (v := (.row none 4 (l.map E_api_Op))) (sv (d_move rfl)) ?_
        refine wC (v := (.tup [(.sl 0 0 x25.1.length 1 false), (eI .i64 x25.2)])) (h' := [some ⟨5, x25.1.map (eI .u8)⟩]) rfl (Vm.Fn.lendB (script_Assemble_ok N l x25 h_9) [] (by decide) rfl Lend.nil rfl rfl (by simp only [lent, lendSet, lendSet_nil, rnH, Blk.rn, V.rns, V.rn, sg, List.map_cons, List.map_nil, Option.map_some, Option.map_none, List.drop_succ_cons, List.drop_zero, List.drop_nil, List.set_cons_zero, List.set_cons_succ, List.cons_append, List.nil_append, List.append_nil, rns_eI, rns_eB, rns_eS, rns_eL, rns_C_api_Op, List.getElem?_cons_zero, List.getElem?_cons_succ, List.getElem?_nil, List.length_cons, List.length_nil, Nat.reduceAdd, Nat.reduceSub, Nat.add_zero, Nat.zero_add, Nat.sub_self, Nat.sub_zero])) ?_
        refine wS (v := (.tup [(.sl 0 0 x25.1.length 1 false), (eI .i64 x25.2)])) (sv (d_move rfl)) ?_
        refine wS (v := (.sl 0 0 x25.1.length 1 false)) (sv (d_ext rfl rfl)) ?_
        refine wS (v := (eI .i64 x25.2)) (sv (d_ext rfl rfl)) ?_
        refine wS (v := (.sl 0 0 x25.1.length 1 false)) (sv (d_assign rfl)) ?_
        refine wS (v := (eI .i64 x25.2)) (sv (d_assign rfl)) ?_
        refine OpsW.nil ?_
        refine Ex.then_mk ?_
        refine AB.seq ?_
        refine AB.rw ?_
        refine wS (v := (eI .i64 x25.2)) (sv (d_move rfl)) ?_
        refine wS (v := (eB (x25.2 == 0))) (sv (d_bin rfl rfl (bin_eql ..))) ?_
        refine OpsW.nil ?_
        refine Ex.then_mk ?_
        refine AB.cnd rfl (fun h10 => ?_) (fun h10 => ?_)
        · replace hr := iteT hr h10
          refine AB.seq ?_
          replace hr := bnd hr; obtain ⟨x32, h_11, hr⟩ := hr
          refine AB.rw ?_
          refine wS (v := (.sl 0 0 x25.1.length 1 false)) (sv (d_move rfl)) ?_
          refine OpsW.ghost (Ghost.conv (fr' := [(0, (.row none 4 (l.map E_api_Op))), (1, (.row none 1 (b.map (eI .u8)))), (5, (.row none 1 (x25.1.map (eI .u8)))), (6, (eI .i64 x25.2)), (22, (eB x22)), (23, (.tup [(.row none 1 (x25.1.map (eI .u8))), (eI .i64 x25.2)])), (24, (.row none 4 (l.map E_api_Op))), (25, (.tup [(.row none 1 (x25.1.map (eI .u8))), (eI .i64 x25.2)])), (26, (.row none 1 (x25.1.map (eI .u8)))), (27, (eI .i64 x25.2)), (28, (eI .i64 x25.2)), (29, (eB (x25.2 == 0))), (31, (.row none 1 (x25.1.map (eI .u8))))]) (h' := [none]) (FCv.cons rfl (Conv.same (subB_sub rfl)) (FCv.cons rfl (Conv.same (subB_sub rfl)) (FCv.cons rfl (Conv.row (subB_sub rfl) rfl rfl (all_mapE (fun _ => rfl)) (by first | rfl | (simp only [List.length_map, len_set, len_cpy]; done))) (FCv.cons rfl (Conv.same (subB_sub rfl)) (FCv.cons rfl (Conv.same (subB_sub rfl)) (FCv.cons rfl (Conv.tup (Convs.cons (Conv.row (subB_sub rfl) rfl rfl (all_mapE (fun _ => rfl)) (by first | rfl | (simp only [List.length_map, len_set, len_cpy]; done))) (Convs.cons (Conv.same (subB_sub rfl)) Convs.nil))) (FCv.cons rfl (Conv.same (subB_sub rfl)) (FCv.cons rfl (Conv.tup (Convs.cons (Conv.row (subB_sub rfl) rfl rfl (all_mapE (fun _ => rfl)) (by first | rfl | (simp only [List.length_map, len_set, len_cpy]; done))) (Convs.cons (Conv.same (subB_sub rfl)) Convs.nil))) (FCv.cons rfl (Conv.row (subB_sub rfl) rfl rfl (all_mapE (fun _ => rfl)) (by first | rfl | (simp only [List.length_map, len_set, len_cpy]; done))) (FCv.cons rfl (Conv.same (subB_sub rfl)) (FCv.cons rfl (Conv.same (subB_sub rfl)) (FCv.cons rfl (Conv.same (subB_sub rfl)) (FCv.cons rfl (Conv.row (subB_sub rfl) rfl rfl (all_mapE (fun _ => rfl)) (by first | rfl | (simp only [List.length_map, len_set, len_cpy]; done))) FCv.nil))))))))))))) (HCv.dead HCv.nil)) ?_
          refine wC (v := (.tup [(.sl 1 0 x32.1.length 4 true), (eI .i64 x32.2)])) (h' := [none, some ⟨59, x32.1.flatMap C_api_Op⟩]) rfl (Vm.Fn.lendB (script_Parse_ok N x25.1 x32 h_11) [] (by decide) rfl Lend.nil rfl rfl (by simp only [lent, lendSet, lendSet_nil, rnH, Blk.rn, V.rns, V.rn, sg, List.map_cons, List.map_nil, Option.map_some, Option.map_none, List.drop_succ_cons, List.drop_zero, List.drop_nil, List.set_cons_zero, List.set_cons_succ, List.cons_append, List.nil_append, List.append_nil, rns_eI, rns_eB, rns_eS, rns_eL, rns_C_api_Op, List.getElem?_cons_zero, List.getElem?_cons_succ, List.getElem?_nil, List.length_cons, List.length_nil, Nat.reduceAdd, Nat.reduceSub, Nat.add_zero, Nat.zero_add, Nat.sub_self, Nat.sub_zero])) ?_
          refine wS (v := (.tup [(.sl 1 0 x32.1.length 4 true), (eI .i64 x32.2)])) (sv (d_move rfl)) ?_
          refine wS (v := (.sl 1 0 x32.1.length 4 true)) (sv (d_ext rfl rfl)) ?_
          refine wS (v := (eI .i64 x32.2)) (sv (d_ext rfl rfl)) ?_
          refine wS (v := (.sl 1 0 x32.1.length 4 true)) (sv (d_assign rfl)) ?_
          refine wS (v := (eI .i64 x32.2)) (sv (d_assign rfl)) ?_
          refine OpsW.nil ?_
          refine Ex.then_mk ?_
          refine AB.seq_g fun K4 hK4 hG4 => ?_
          have J4 : ∀ (x42 : Bool), law08_ScriptBack_J4 N b x42 = some r → K4 (mkF 65 [(1, (.row none 1 (b.map (eI .u8)))), (42, (eB x42))]) [] := by
            intro x42 hr
            unfold law08_ScriptBack_J4 at hr
            refine hK4 _ _ ?_
            refine AB.cnd rfl (fun h12 => ?_) (fun h12 => ?_)
            · replace hr := iteT hr h12
              refine AB.seq ?_
              refine AB.rw ?_
              refine wS (v := (eB false)) (sv (d_assign rfl)) ?_
              refine OpsW.nil ?_
              refine Ex.then_mk ?_
              refine AB.ret ?_
              refine Ex.then_ret_mk ?_
              obtain rfl := Option.some.inj hr
              exact done_ret (r1 := (eB false)) (res1 Tryd.results5 (rvT rfl)) (Ghost.rn [] rfl rfl (FLe.same rfl FLe.nil) HLe.nil rfl)
            · replace hr := iteF hr h12
              refine AB.skip ?_
              refine Ex.then_mk ?_
              exact hG2 _ _ _ _ (Ghost.rn [] rfl rfl (FLe.same rfl FLe.nil) HLe.nil rfl) (J2 hr)
          rcases Bool.eq_false_or_eq_true (x32.2 != 0) with h13 | h13
          · replace hr := iteT hr h13
            refine AB.rw ?_
            refine wS (v := (eI .i64 x32.2)) (sv (d_move rfl)) ?_
            refine wS (v := (eB (x32.2 != 0))) (sv (d_bin rfl rfl (bin_neq ..))) ?_
            refine wS (v := (eB (x32.2 != 0))) (sv (d_move rfl)) ?_
            refine wS (svX rfl rfl h13) ?_
            refine wS (svX rfl rfl h13) ?_
            refine wS (svX rfl rfl h13) ?_
            refine wS (svX rfl rfl h13) ?_
            refine wS (v := (eB true)) (sv (d_pickT rfl h13 rfl)) ?_
            refine OpsW.nil ?_
            refine Ex.then_mk ?_
            exact hG4 _ _ _ _ (Ghost.rn [] rfl rfl (FLe.same rfl (FLe.same rfl FLe.nil)) HLe.nil rfl) (J4 true hr)
          · replace hr := iteF hr h13
            replace hr := bnd hr; obtain ⟨x40, h_14, hr⟩ := hr
            refine AB.rw ?_
            refine wS (v := (eI .i64 x32.2)) (sv (d_move rfl)) ?_
            refine wS (v := (eB (x32.2 != 0))) (sv (d_bin rfl rfl (bin_neq ..))) ?_
            refine wS (v := (eB (x32.2 != 0))) (sv (d_move rfl)) ?_
            refine wS (v := (.row none 4 (l.map E_api_Op))) (svG rfl rfl h13 (d_move rfl)) ?_
            refine wS (v := (.sl 1 0 x32.1.length 4 true)) (svG rfl rfl h13 (d_move rfl)) ?_
            refine wCG (v := (eB x40)) (h' := [none, some ⟨59, x32.1.flatMap C_api_Op⟩]) rfl rfl h13 rfl (Vm.Fn.lendR (ref08_SameOps_ok N l x32.1 x40 h_14) [] [1] (by decide) rfl (by decide) Lend.nil (Brw.same rfl (Brw.row (exp_slKT (C := C_api_Op) (fun _ => rfl) (Nat.le_of_ble_eq_true rfl) rfl rfl (fun _ => rfl)) Brw.nil)) rfl rfB.nil rfl (by simp only [lent, lendSet, lendSet_nil, rnH, Blk.rn, V.rns, V.rn, sg, List.map_cons, List.map_nil, Option.map_some, Option.map_none, List.drop_succ_cons, List.drop_zero, List.drop_nil, List.set_cons_zero, List.set_cons_succ, List.cons_append, List.nil_append, List.append_nil, rns_eI, rns_eB, rns_eS, rns_eL, rns_C_api_Op, List.getElem?_cons_zero, List.getElem?_cons_succ, List.getElem?_nil, List.length_cons, List.length_nil, Nat.reduceAdd, Nat.reduceSub, Nat.add_zero, Nat.zero_add, Nat.sub_self, Nat.sub_zero])) ?_
            refine wS (v := (eB (!x40))) (svG rfl rfl h13 (d_un rfl (un_not _ _))) ?_
            refine wS (v := (eB (!x40))) (sv (d_pickF rfl h13 rfl)) ?_
            refine OpsW.nil ?_
            refine Ex.then_mk ?_
            exact hG4 _ _ _ _ (Ghost.rn [] rfl rfl (FLe.same rfl (FLe.same rfl FLe.nil)) HLe.nil rfl) (J4 (!x40) hr)
        · replace hr := iteF hr h10
          refine AB.skip ?_
          refine Ex.then_mk ?_
          exact hG2 _ _ _ _ (Ghost.rn [] rfl rfl (FLe.same rfl FLe.nil) HLe.nil rfl) (J2 hr)
    replace hr := bnd hr; obtain ⟨x16, h_15, hr⟩ := hr
    rcases Bool.eq_false_or_eq_true (!x16) with h16 | h16
    · replace hr := iteT hr h16
      refine AB.rw ?_
      refine wS (v := (.row none 4 (l.map E_api_Op))) (sv (d_move rfl)) ?_
      refine wC (v := (eB x16)) (h' := []) rfl (Vm.Fn.pure (keep_Ops_ok N l 40 x16 h_15) rfl rfl) ?_
      refine wS (v := (eB (!x16))) (sv (d_un rfl (un_not _ _))) ?_
      refine wS (v := (eB (!x16))) (sv (d_move rfl)) ?_
      refine wS (svX rfl rfl h16) ?_
      refine wS (svX rfl rfl h16) ?_
      refine wS (svX rfl rfl h16) ?_
      refine wS (v := (eB true)) (sv (d_pickT rfl h16 rfl)) ?_
      refine OpsW.nil ?_
      refine Ex.then_mk ?_
      exact hG1 _ _ _ _ (Ghost.rn [] rfl rfl (FLe.same rfl (FLe.same rfl (FLe.same rfl FLe.nil))) HLe.nil rfl) (J1 true hr)
    · replace hr := iteF hr h16
      refine AB.rw ?_
      refine wS (v := (.row none 4 (l.map E_api_Op))) (sv (d_move rfl)) ?_
      refine wC (v := (eB x16)) (h' := []) rfl (Vm.Fn.pure (keep_Ops_ok N l 40 x16 h_15) rfl rfl) ?_
      refine wS (v := (eB (!x16))) (sv (d_un rfl (un_not _ _))) ?_
      refine wS (v := (eB (!x16))) (sv (d_move rfl)) ?_
      refine wS (v := (.row none 1 (b.map (eI .u8)))) (svG rfl rfl h16 (d_move rfl)) ?_
      refine wS (v := (eI .i64 (b.length : Int))) (svG rfl rfl h16 (d_len rfl (lenR ti22))) ?_
      refine wS (v := (eB (decide (700 < (b.length : Int))))) (svG rfl rfl h16 (d_bin rfl rfl (bin_gtr ..))) ?_
      refine wS (v := (eB (decide (700 < (b.length : Int))))) (sv (d_pickF rfl h16 rfl)) ?_
      refine OpsW.nil ?_
      refine Ex.then_mk ?_
      exact hG1 _ _ _ _ (Ghost.rn [] rfl rfl (FLe.same rfl (FLe.same rfl (FLe.same rfl FLe.nil))) HLe.nil rfl) (J1 (decide (700 < (b.length : Int))) hr)
set_option maxRecDepth 20000 in
set_option maxHeartbeats 1000000 in
theorem wide_Bytes_ok (N : Nat) (va : List Int) (r : (List Int)) (hr : wide_Bytes N va = some r) :
    Vm.Fn Tryd.prog 36 [] [(.agg (va.map (eI .u64)))] (.agg (r.map (eI .u8))) [] := by
  refine fn_ab Tryd.func36 rfl (by kernel_rfl) Tryd.ntmps36 (Nat.le_of_ble_eq_true rfl) rfl (fr := [(0, (.agg (va.map (eI .u64))))]) rfl ?_
  unfold wide_Bytes at hr
  refine AB.seq ?_
  refine AB.rw ?_
  refine wS (v := (.ptr 0 0)) (h' := [some ⟨46, va.map (eI .u64)⟩]) (sv (d_box rfl (flatA (fun _ => rfl)) rfl rfl)) ?_
  refine wS (v := (.ptr 1 0)) (h' := [some ⟨46, va.map (eI .u64)⟩, some ⟨42, (List.replicate 32 0).map (eI .u8)⟩]) (sv (d_alloc ti42 rfl rfl rfl)) ?_
  refine OpsW.nil ?_
  refine Ex.then_mk ?_
  refine AB.seq ?_
  refine AB.rw ?_
  refine wS (v := (.ptr 2 0)) (h' := [some ⟨46, va.map (eI .u64)⟩, some ⟨42, (List.replicate 32 0).map (eI .u8)⟩, some ⟨42, (List.replicate 32 0).map (eI .u8)⟩]) (sv (d_alloc ti42 rfl rfl rfl)) ?_
  refine OpsW.nil ?_
  refine Ex.then_mk ?_
  refine AB.seq_g fun K1 hK1 hG1 => ?_
  have J1 : ∀ (l1 : List Int), wide_Bytes_J1 N l1 = some r → K1 (mkF 23 [(2, (.ptr 0 0)), (3, (.ptr 1 0))]) [some ⟨42, (List.replicate 32 0).map (eI .u8)⟩, some ⟨42, l1.map (eI .u8)⟩] := by
    intro l1 hr
    unfold wide_Bytes_J1 at hr
    refine hK1 _ _ ?_
    refine AB.seq ?_
    replace hr := bnd hr; obtain ⟨q, h_1, hr⟩ := hr
    refine AB.rw ?_
    refine wS (v := (.agg (l1.map (eI .u8)))) (sv (d_load rfl (ldA (E := (eI .u8)) (l := l1) ti42 rfl rfl (arr_len h_1)))) ?_
    refine wN (h' := [some ⟨42, l1.map (eI .u8)⟩, some ⟨42, l1.map (eI .u8)⟩]) (sv (d_store rfl rfl (stA (E := (eI .u8)) (l := List.replicate 32 0) ti42 rfl rfl (fun _ => rfl) rfl (arr_len h_1) rfl))) ?_
    refine OpsW.nil ?_
    refine Ex.then_mk ?_
    refine AB.ret ?_
    obtain rfl := Option.some.inj hr
    exact done_ret (r1 := (.agg (l1.map (eI .u8)))) (res1 Tryd.results36 (rvC rfl (ldA (E := (eI .u8)) (l := l1) ti42 rfl rfl (arr_len h_1)))) (Ghost.rn [] rfl rfl (FLe.le rfl (V.le_arr (fun _ => rfl)) FLe.nil) HLe.nil rfl)
  refine AB.seq ?_
  refine AB.rw ?_
  refine wS (v := (eI .i64 0)) (sv (d_move rfl)) ?_
  refine OpsW.nil ?_
  refine Ex.then_mk ?_
  replace hr := bnd hr; obtain ⟨res2, hL2, hr⟩ := hr
  refine AB.block ?_
  refine AB.loopN (fun m s h => ∃ (x5 : Int) (l2 : List Int), wide_Bytes_L2 N va m x5 l2 = some res2 ∧ Ghost 0 s h (mkF 23 [(1, (.ptr 0 0)), (2, (.ptr 1 0)), (3, (.ptr 2 0)), (5, (eI .i64 x5))]) [some ⟨46, va.map (eI .u64)⟩, some ⟨42, (List.replicate 32 0).map (eI .u8)⟩, some ⟨42, l2.map (eI .u8)⟩]) (n := N) ⟨0, List.replicate 32 0, hL2, (Ghost.rn [0, 1, 2] rfl rfl (FLe.same rfl (FLe.same rfl (FLe.same rfl (FLe.same rfl FLe.nil)))) (HLe.live rfl (les_map (fun _ => rfl) _) (all_map (fun _ => rfl) _) (HLe.live rfl (les_map (fun _ => rfl) _) (all_map (fun _ => rfl) _) (HLe.live rfl (les_map (fun _ => rfl) _) (all_map (fun _ => rfl) _) HLe.nil))) rfl)⟩ (by rintro s h ⟨_, _, h0, _⟩; simp [wide_Bytes_L2] at h0) ?_
  rintro m2 s h ⟨x5, l2, hr2, hg⟩
  refine AB.ghost hg ?_
  clear hg hL2
  rw [wide_Bytes_L2] at hr2
  refine AB.seq ?_
  refine AB.rw ?_
  refine wS (v := (eB (decide (x5 < 32)))) (sv (d_bin rfl rfl (bin_lss ..))) ?_
  refine OpsW.nil ?_
  refine Ex.then_mk ?_
  refine AB.seq ?_
  refine AB.cnd rfl (fun h2 => ?_) (fun h2 => ?_)
  · replace hr2 := iteT hr2 h2
    refine AB.skip ?_
    refine Ex.then_mk ?_
    refine AB.seq ?_
    refine AB.block ?_
    refine AB.seq ?_
    refine AB.rw ?_
    refine wS (v := (eI .i64 x5)) (sv (d_move rfl)) ?_
    refine wS (v := (eI .i64 x5)) (sv (d_assign rfl)) ?_
    refine OpsW.nil ?_
    refine Ex.then_mk ?_
    replace hr2 := bnd hr2; obtain ⟨x12, h_3, hr2⟩ := hr2
    replace hr2 := bnd hr2; obtain ⟨x18, h_4, hr2⟩ := hr2
    replace hr2 := bnd hr2; obtain ⟨x20, h_5, hr2⟩ := hr2
    refine AB.rw ?_
    refine wS (v := (eI .i64 x5)) (sv (d_move rfl)) ?_
    refine wS (v := (eI .i64 x5)) (sv (d_move rfl)) ?_
    refine wS (v := (eI .i64 (IntKind.i64.wrap (Int.tdiv x5 8)))) (sv (d_bin rfl rfl (bin_quo' _ _ _ _ rfl))) ?_
    refine wS (v := (eI .i64 (IntKind.i64.wrap (3 - (IntKind.i64.wrap (Int.tdiv x5 8)))))) (sv (d_bin rfl rfl (bin_sub ..))) ?_
    refine wS (v := (.ptr 0 (Int.toNat (IntKind.i64.wrap (3 - (IntKind.i64.wrap (Int.tdiv x5 8))))))) (sv (d_ia rfl rfl (iaB ti46 ti44 rfl h_3))) ?_
    refine wS (v := (eI .u64 x12)) (sv (d_load rfl (ldX (E := (eI .u64)) (y := x12) ti44 rfl rfl (aix_idx h_3)))) ?_
    refine wS (v := (eI .i64 x5)) (sv (d_move rfl)) ?_
    refine wS (v := (eI .i64 (Int.tmod x5 8))) (sv (d_bin rfl rfl (bin_rem' _ _ _ _ rfl))) ?_
    refine wS (v := (eI .i64 (IntKind.i64.wrap ((Int.tmod x5 8) * 8)))) (sv (d_bin rfl rfl (bin_mul ..))) ?_
    refine wS (v := (eI .i64 (IntKind.i64.wrap (56 - (IntKind.i64.wrap ((Int.tmod x5 8) * 8)))))) (sv (d_bin rfl rfl (bin_sub ..))) ?_
    refine wS (v := (eI .u64 x18)) (sv (d_bin rfl rfl (bin_shr' _ _ _ _ h_4))) ?_
    refine wS (v := (eI .u8 (IntKind.u8.wrap x18))) (sv (d_conv rfl (conv_int _ ⟨_, ti44⟩ ti5 rfl))) ?_
    refine wS (v := (.ptr 2 (Int.toNat x5))) (sv (d_ia rfl rfl (iaB ti42 ti5 rfl h_5))) ?_
    refine wN (h' := [some ⟨46, va.map (eI .u64)⟩, some ⟨42, (List.replicate 32 0).map (eI .u8)⟩, some ⟨42, (l2.set (Int.toNat x5) (IntKind.u8.wrap x18)).map (eI .u8)⟩]) (sv (d_store rfl rfl (stXe (E := (eI .u8)) (y := IntKind.u8.wrap x18) ti5 rfl rfl (aix_idx h_5) rfl rfl rfl))) ?_
    refine OpsW.nil ?_
    refine Ex.inBlock_mk ?_
    refine Ex.then_mk ?_
    refine AB.rw ?_
    refine wS (v := (eI .i64 (IntKind.i64.wrap (x5 + 1)))) (sv (d_bin rfl rfl (bin_add ..))) ?_
    refine wS (v := (eI .i64 (IntKind.i64.wrap (x5 + 1)))) (sv (d_move rfl)) ?_
    refine OpsW.nil ?_
    refine Ex.then_mk ?_
    exact ⟨IntKind.i64.wrap (x5 + 1), l2.set (Int.toNat x5) (IntKind.u8.wrap x18), hr2, (Ghost.rn [0, 1, 2] rfl rfl (FLe.same rfl (FLe.same rfl (FLe.same rfl (FLe.same rfl FLe.nil)))) (HLe.live rfl (les_map (fun _ => rfl) _) (all_map (fun _ => rfl) _) (HLe.live rfl (les_map (fun _ => rfl) _) (all_map (fun _ => rfl) _) (HLe.live rfl (les_map (fun _ => rfl) _) (all_map (fun _ => rfl) _) HLe.nil))) rfl)⟩
  · replace hr2 := iteF hr2 h2
    refine AB.exit ?_
    refine Ex.then_exit_mk ?_
    refine Ex.then_exit_mk ?_
    refine Ex.inBlock_same_mk ?_
    obtain rfl := Option.some.inj hr2
    refine Ex.then_mk ?_
    exact hG1 _ _ _ _ (Ghost.rn [1, 2] rfl rfl (FLe.same rfl (FLe.same rfl FLe.nil)) (HLe.live rfl (les_map (fun _ => rfl) _) (all_map (fun _ => rfl) _) (HLe.live rfl (les_map (fun _ => rfl) _) (all_map (fun _ => rfl) _) HLe.nil)) rfl) (J1 l2 hr)
set_option maxRecDepth 20000 in
set_option maxHeartbeats 1000000 in
theorem script_Multi_ok (N : Nat) (vm : Int) (keys : List (List Int)) (r : (List Int) × Int) (hr : script_Multi N vm keys = some r) :
    Vm.Fn Tryd.prog 18 [] [(eI .i64 vm), (.row none 4 (keys.map (eA (eI .u64))))] (.tup [(.sl 0 0 r.1.length 1 false), (eI .i64 r.2)]) [some ⟨5, r.1.map (eI .u8)⟩] := by
  refine fn_ab Tryd.func18 rfl (by kernel_rfl) Tryd.ntmps18 (Nat.le_of_ble_eq_true rfl) rfl (fr := [(0, (eI .i64 vm)), (1, (.row none 4 (keys.map (eA (eI .u64)))))]) rfl ?_
  unfold script_Multi at hr
  refine AB.seq ?_
  refine AB.rw ?_
  refine wS (v := (.row (some true) 1 [])) (sv (d_assign rfl)) ?_
  refine wS (v := (eI .i64 0)) (sv (d_assign rfl)) ?_
  refine OpsW.nil ?_
  refine Ex.then_mk ?_
  refine AB.seq ?_
  refine AB.rw ?_
  refine wS (v := (.row (some true) 1 [])) (sv (d_assign rfl)) ?_
  refine OpsW.nil ?_
  refine Ex.then_mk ?_
  refine AB.seq_g fun K1 hK1 hG1 => ?_
  have J1 : ∀ (l0 : List S_api_Op), script_Multi_J1 N vm keys l0 = some r → K1 (mkF 34 [(0, (eI .i64 vm)), (1, (.row none 4 (keys.map (eA (eI .u64))))), (6, (.sl 0 0 l0.length 4 true))]) [some ⟨59, l0.flatMap C_api_Op⟩] := by
    intro l0 hr
    unfold script_Multi_J1 at hr
    refine hK1 _ _ ?_
    refine AB.seq ?_
    replace hr := bnd hr; obtain ⟨x30, h_1, hr⟩ := hr
    replace hr := bnd hr; obtain ⟨x31, h_2, hr⟩ := hr
    refine AB.rw ?_
    refine wS (v := (.sl 0 0 l0.length 4 true)) (sv (d_move rfl)) ?_
    refine wS (v := (eI .i64 vm)) (sv (d_move rfl)) ?_
    refine wS (v := (.row none 4 (keys.map (eA (eI .u64))))) (sv (d_move rfl)) ?_
    refine wS (v := (eI .i64 (keys.length : Int))) (sv (d_len rfl (lenR ti40))) ?_
    refine wS (v := (.agg [(eI .i64 11), (.row (some true) 1 []), (eI .i64 vm), (eI .i64 (keys.length : Int))])) (sv (d_build rfl (bldS ti59 pl59 rfl))) ?_
    refine OpsW.ghost (Ghost.weak (fr' := [(0, (eI .i64 vm)), (1, (.row none 4 (keys.map (eA (eI .u64))))), (6, (.sl 0 0 l0.length 4 true)), (24, (.sl 0 0 l0.length 4 true)), (25, (eI .i64 vm)), (26, (.row none 4 (keys.map (eA (eI .u64))))), (27, (eI .i64 (keys.length : Int))), (28, (.agg [(eI .i64 11), (.row none 1 ([].map (eI .u8))), (eI .i64 vm), (eI .i64 (keys.length : Int))]))]) (FLe.same rfl (FLe.same rfl (FLe.same rfl (FLe.same rfl (FLe.same rfl (FLe.same rfl (FLe.same rfl (FLe.le rfl (V.le_agg (V.les_cons (V.le_refl _ _) (V.les_cons V.le_nil (V.les_cons (V.le_refl _ _) (V.les_cons (V.le_refl _ _) V.les_nil))))) FLe.nil))))))))) ?_
    refine wS (v := (.sl 1 0 1 4 true)) (h' := [some ⟨59, l0.flatMap C_api_Op⟩, some ⟨59, [(S_api_Op.mk 11 [] vm (keys.length : Int))].flatMap C_api_Op⟩]) (sv (d_buildS rfl (bldLK (C := C_api_Op) (xs := [(S_api_Op.mk 11 [] vm (keys.length : Int))]) (K := 4) (fun _ => rfl) (fun _ => rfl) ti31 ti59 ⟨Nat.le_of_ble_eq_true rfl, Nat.le_of_ble_eq_true rfl, Nat.le_of_ble_eq_true rfl⟩ rfl rfl rfl rfl rfl rfl))) ?_
    refine wS (v := (.sl 2 0 x30.length 4 true)) (h' := [none, some ⟨59, [(S_api_Op.mk 11 [] vm (keys.length : Int))].flatMap C_api_Op⟩, some ⟨59, x30.flatMap C_api_Op⟩]) (sv (d_append rfl rfl (appSK (C := C_api_Op) (K := 4) (fun _ => rfl) rfl ti31 ti59 ⟨rfl, rfl, Nat.le_of_ble_eq_true rfl, Nat.le_of_ble_eq_true rfl⟩ rfl (srcSK (C := C_api_Op) (fun _ => rfl) rfl rfl) h_1 rfl rfl))) ?_
    refine wC (v := (.tup [(.sl 3 0 x31.1.length 1 false), (eI .i64 x31.2)])) (h' := [none, some ⟨59, [(S_api_Op.mk 11 [] vm (keys.length : Int))].flatMap C_api_Op⟩, some ⟨59, x30.flatMap C_api_Op⟩, some ⟨5, x31.1.map (eI .u8)⟩]) rfl (Vm.Fn.lendR (script_Assemble_ok N x30 x31 h_2) [] [2] (by decide) rfl (by decide) Lend.nil (Brw.row (exp_slKT (C := C_api_Op) (fun _ => rfl) (Nat.le_of_ble_eq_true rfl) rfl rfl (fun _ => rfl)) Brw.nil) rfl (rfB.live (rfs_map (fun _ => rfl) _) rfB.nil) rfl (by simp only [lent, lendSet, lendSet_nil, rnH, Blk.rn, V.rns, V.rn, sg, List.map_cons, List.map_nil, Option.map_some, Option.map_none, List.drop_succ_cons, List.drop_zero, List.drop_nil, List.set_cons_zero, List.set_cons_succ, List.cons_append, List.nil_append, List.append_nil, rns_eI, rns_eB, rns_eS, rns_eL, rns_C_api_Op, List.getElem?_cons_zero, List.getElem?_cons_succ, List.getElem?_nil, List.length_cons, List.length_nil, Nat.reduceAdd, Nat.reduceSub, Nat.add_zero, Nat.zero_add, Nat.sub_self, Nat.sub_zero])) ?_
    refine wS (v := (.sl 3 0 x31.1.length 1 false)) (sv (d_ext rfl rfl)) ?_
    refine wS (v := (eI .i64 x31.2)) (sv (d_ext rfl rfl)) ?_
    refine wS (v := (.sl 3 0 x31.1.length 1 false)) (sv (d_assign rfl)) ?_
    refine wS (v := (eI .i64 x31.2)) (sv (d_assign rfl)) ?_
    refine OpsW.nil ?_
    refine Ex.then_mk ?_
    refine AB.ret ?_
    obtain rfl := Option.some.inj hr
    exact done_ret (r1 := (.tup [(.sl 3 0 x31.1.length 1 false), (eI .i64 x31.2)])) (res2 Tryd.results18 (rvT rfl) (rvT rfl)) (Ghost.rn [3] rfl rfl (FLe.same rfl FLe.nil) (HLe.live rfl (les_map (fun _ => rfl) _) (all_map (fun _ => rfl) _) HLe.nil) rfl)
  refine AB.seq ?_
  refine AB.rw ?_
  refine wS (v := (.row none 4 (keys.map (eA (eI .u64))))) (sv (d_move rfl)) ?_
  refine wS (v := (eI .i64 (keys.length : Int))) (sv (d_len rfl (lenR ti40))) ?_
  refine wS (v := (eI .i64 0)) (sv (d_move rfl)) ?_
  refine OpsW.nil ?_
  refine Ex.then_mk ?_
  replace hr := bnd hr; obtain ⟨res2, hL2, hr⟩ := hr
  refine AB.block ?_
  refine AB.loopN (fun m s h => ∃ (x12 : Int) (l0_1 : List S_api_Op), script_Multi_L2 N vm keys m x12 l0_1 = some res2 ∧ Ghost 0 s h (mkF 34 [(0, (eI .i64 vm)), (1, (.row none 4 (keys.map (eA (eI .u64))))), (6, (.sl 0 0 l0_1.length 4 true)), (10, (.row none 4 (keys.map (eA (eI .u64))))), (11, (eI .i64 (keys.length : Int))), (12, (eI .i64 x12))]) [some ⟨59, l0_1.flatMap C_api_Op⟩]) (n := N) ⟨0, [], hL2, (Ghost.trans (Ghost.virt (fr' := [(0, (eI .i64 vm)), (1, (.row none 4 (keys.map (eA (eI .u64))))), (6, (.sl 0 0 0 4 true)), (10, (.row none 4 (keys.map (eA (eI .u64))))), (11, (eI .i64 (keys.length : Int))), (12, (eI .i64 0))]) (h1 := []) 59 (FLe.same rfl (FLe.same rfl (FLe.le rfl (V.le_virt rfl) (FLe.same rfl (FLe.same rfl (FLe.same rfl FLe.nil)))))) HLv.nil) (Ghost.rn [0] rfl rfl (FLe.same rfl (FLe.same rfl (FLe.le rfl (by first | exact V.le_refl _ _ | (simp only [len_set, len_cpy]; exact V.le_refl _ _)) (FLe.same rfl (FLe.same rfl (FLe.same rfl FLe.nil)))))) (HLe.live rfl V.les_nil rfl HLe.nil) rfl))⟩ (by rintro s h ⟨_, _, h0, _⟩; simp [script_Multi_L2] at h0) ?_
  rintro m2 s h ⟨x12, l0_1, hr2, hg⟩
  refine AB.ghost hg ?_
  clear hg hL2
  rw [script_Multi_L2] at hr2
  refine AB.seq ?_
  refine AB.rw ?_
  refine wS (v := (eB (decide (x12 < (keys.length : Int))))) (sv (d_bin rfl rfl (bin_lss ..))) ?_
  refine OpsW.nil ?_
  refine Ex.then_mk ?_
  refine AB.seq ?_
  refine AB.cnd rfl (fun h3 => ?_) (fun h3 => ?_)
  · replace hr2 := iteT hr2 h3
    refine AB.skip ?_
    refine Ex.then_mk ?_
    refine AB.seq ?_
    refine AB.block ?_
    refine AB.seq ?_
    replace hr2 := bnd hr2; obtain ⟨x14, h_4, hr2⟩ := hr2
    replace hr2 := bnd hr2; obtain ⟨q, h_5, hr2⟩ := hr2
    refine AB.rw ?_
    refine wS (sv (d_ia rfl rfl (iaR ti40 ti46 h_4))) ?_
    refine wS (v := (.agg (x14.map (eI .u64)))) (sv (d_load rfl (ldRA (E := (eI .u64)) ti46 rfl h_4 (arr_len h_5)))) ?_
    refine wS (v := (.ptr 1 0)) (h' := [some ⟨59, l0_1.flatMap C_api_Op⟩, some ⟨46, (List.replicate 4 0).map (eI .u64)⟩]) (sv (d_alloc ti46 rfl rfl rfl)) ?_
    refine wN (h' := [some ⟨59, l0_1.flatMap C_api_Op⟩, some ⟨46, x14.map (eI .u64)⟩]) (sv (d_store rfl rfl (stA (E := (eI .u64)) (l := List.replicate 4 0) ti46 rfl rfl (fun _ => rfl) rfl (arr_len h_5) rfl))) ?_
    refine OpsW.nil ?_
    refine Ex.then_mk ?_
    refine AB.seq ?_
    replace hr2 := bnd hr2; obtain ⟨x17, h_6, hr2⟩ := hr2
    replace hr2 := bnd hr2; obtain ⟨q_1, h_7, hr2⟩ := hr2
    refine AB.rw ?_
    refine wS (v := (.agg (x14.map (eI .u64)))) (sv (d_load rfl (ldA (E := (eI .u64)) (l := x14) ti46 rfl rfl (arr_len h_5)))) ?_
    refine wC (v := (.agg (x17.map (eI .u8)))) (h' := [some ⟨59, l0_1.flatMap C_api_Op⟩, some ⟨46, x14.map (eI .u64)⟩]) rfl (Vm.Fn.pure (wide_Bytes_ok N x14 x17 h_6) (by simp only [V.rn, V.rns, rns_eI, rns_eB]) (by simp only [V.rn, V.rns, rns_eI, rns_eB])) ?_
    refine wS (v := (.ptr 2 0)) (h' := [some ⟨59, l0_1.flatMap C_api_Op⟩, some ⟨46, x14.map (eI .u64)⟩, some ⟨42, (List.replicate 32 0).map (eI .u8)⟩]) (sv (d_alloc ti42 rfl rfl rfl)) ?_
    refine wN (h' := [some ⟨59, l0_1.flatMap C_api_Op⟩, some ⟨46, x14.map (eI .u64)⟩, some ⟨42, x17.map (eI .u8)⟩]) (sv (d_store rfl rfl (stA (E := (eI .u8)) (l := List.replicate 32 0) ti42 rfl rfl (fun _ => rfl) rfl (arr_len h_7) rfl))) ?_
    refine OpsW.nil ?_
    refine Ex.then_mk ?_
    replace hr2 := bnd hr2; obtain ⟨x22, h_8, hr2⟩ := hr2
    refine AB.rw ?_
    refine wS (v := (.sl 0 0 l0_1.length 4 true)) (sv (d_move rfl)) ?_
    refine wS (v := (.sl 2 0 32 1 false)) (sv (d_slice rfl rfl rfl (slA (E := (eI .u8)) (l := x17) ti42 ti5 rfl rfl rfl (arr_len h_7) ⟨Nat.le_of_ble_eq_true rfl, Nat.le_of_ble_eq_true rfl⟩))) ?_
    refine wS (v := (.agg [(eI .i64 1), (.sl 2 0 32 1 false), (eI .i64 0), (eI .i64 0)])) (sv (d_build rfl (bldS ti59 pl59 rfl))) ?_
    refine OpsW.ghost (Ghost.conv (fr' := [(0, (eI .i64 vm)), (1, (.row none 4 (keys.map (eA (eI .u64))))), (6, (.sl 0 0 l0_1.length 4 true)), (8, (.ptr 1 0)), (9, (.ptr 2 0)), (10, (.row none 4 (keys.map (eA (eI .u64))))), (11, (eI .i64 (keys.length : Int))), (12, (eI .i64 x12)), (13, (eB (decide (x12 < (keys.length : Int))))), (15, (.agg (x14.map (eI .u64)))), (16, (.agg (x14.map (eI .u64)))), (17, (.agg (x17.map (eI .u8)))), (18, (.sl 0 0 l0_1.length 4 true)), (19, (.row none 1 (x17.map (eI .u8)))), (20, (.agg [(eI .i64 1), (.row none 1 (x17.map (eI .u8))), (eI .i64 0), (eI .i64 0)]))]) (h' := [some ⟨59, l0_1.flatMap C_api_Op⟩, some ⟨46, x14.map (eI .u64)⟩, none]) (FCv.cons rfl (Conv.same (subB_sub rfl)) (FCv.cons rfl (Conv.same (subB_sub rfl)) (FCv.cons rfl (Conv.same (subB_sub rfl)) (FCv.cons rfl (Conv.same (subB_sub rfl)) (FCv.cons rfl (Conv.same (subB_sub rfl)) (FCv.cons rfl (Conv.same (subB_sub rfl)) (FCv.cons rfl (Conv.same (subB_sub rfl)) (FCv.cons rfl (Conv.same (subB_sub rfl)) (FCv.cons rfl (Conv.same (subB_sub rfl)) (FCv.cons rfl (Conv.same (subB_sub rfl)) (FCv.cons rfl (Conv.same (subB_sub rfl)) (FCv.cons rfl (Conv.same (subB_sub rfl)) (FCv.cons rfl (Conv.same (subB_sub rfl)) (FCv.cons rfl (Conv.row (subB_sub rfl) rfl rfl (all_mapE (fun _ => rfl)) (by first | rfl | (simp only [List.length_map, len_set, len_cpy]; done) | (rw [List.length_map]; exact Eq.symm (arr_len h_7)))) (FCv.cons rfl (Conv.agg (Convs.cons (Conv.same (subB_sub rfl)) (Convs.cons (Conv.row (subB_sub rfl) rfl rfl (all_mapE (fun _ => rfl)) (by first | rfl | (simp only [List.length_map, len_set, len_cpy]; done) | (rw [List.length_map]; exact Eq.symm (arr_len h_7)))) (Convs.cons (Conv.same (subB_sub rfl)) (Convs.cons (Conv.same (subB_sub rfl)) Convs.nil))))) FCv.nil))))))))))))))) (HCv.live (Convs.same (subB_sub rfl)) (all_flat (fun _ => rfl) _) (HCv.live (Convs.same (subB_sub rfl)) (all_map (fun _ => rfl) _) (HCv.dead HCv.nil)))) ?_
    refine wS (v := (.sl 3 0 1 4 true)) (h' := [some ⟨59, l0_1.flatMap C_api_Op⟩, some ⟨46, x14.map (eI .u64)⟩, none, some ⟨59, [(S_api_Op.mk 1 x17 0 0)].flatMap C_api_Op⟩]) (sv (d_buildS rfl (bldLK (C := C_api_Op) (xs := [(S_api_Op.mk 1 x17 0 0)]) (K := 4) (fun _ => rfl) (fun _ => rfl) ti31 ti59 ⟨Nat.le_of_ble_eq_true rfl, Nat.le_of_ble_eq_true rfl, Nat.le_of_ble_eq_true rfl⟩ rfl rfl rfl rfl rfl rfl))) ?_
    refine wS (v := (.sl 4 0 x22.length 4 true)) (h' := [none, some ⟨46, x14.map (eI .u64)⟩, none, some ⟨59, [(S_api_Op.mk 1 x17 0 0)].flatMap C_api_Op⟩, some ⟨59, x22.flatMap C_api_Op⟩]) (sv (d_append rfl rfl (appSK (C := C_api_Op) (K := 4) (fun _ => rfl) rfl ti31 ti59 ⟨rfl, rfl, Nat.le_of_ble_eq_true rfl, Nat.le_of_ble_eq_true rfl⟩ rfl (srcSK (C := C_api_Op) (fun _ => rfl) rfl rfl) h_8 rfl rfl))) ?_
    refine wS (v := (.sl 4 0 x22.length 4 true)) (sv (d_assign rfl)) ?_
    refine OpsW.nil ?_
    refine Ex.inBlock_mk ?_
    refine Ex.then_mk ?_
    refine AB.rw ?_
    refine wS (v := (eI .i64 (IntKind.i64.wrap (x12 + 1)))) (sv (d_bin rfl rfl (bin_add ..))) ?_
    refine wS (v := (eI .i64 (IntKind.i64.wrap (x12 + 1)))) (sv (d_move rfl)) ?_
    refine OpsW.nil ?_
    refine Ex.then_mk ?_
    exact ⟨IntKind.i64.wrap (x12 + 1), x22, hr2, (Ghost.rn [4] rfl rfl (FLe.same rfl (FLe.same rfl (FLe.same rfl (FLe.same rfl (FLe.same rfl (FLe.same rfl FLe.nil)))))) (HLe.live rfl (les_flat (fun _ => rfl) _) (all_flat (fun _ => rfl) _) HLe.nil) rfl)⟩
  · replace hr2 := iteF hr2 h3
    refine AB.exit ?_
    refine Ex.then_exit_mk ?_
    refine Ex.then_exit_mk ?_
    refine Ex.inBlock_same_mk ?_
    obtain rfl := Option.some.inj hr2
    refine Ex.then_mk ?_
    exact hG1 _ _ _ _ (Ghost.rn [0] rfl rfl (FLe.same rfl (FLe.same rfl (FLe.same rfl FLe.nil))) (HLe.live rfl (les_flat (fun _ => rfl) _) (all_flat (fun _ => rfl) _) HLe.nil) rfl) (J1 l0_1 hr)
set_option maxRecDepth 20000 in
set_option maxHeartbeats 1000000 in
theorem ref02_Bytes_ok (N : Nat) (va : List Int) (r : (List Int)) (hr : ref02_Bytes N va = some r) :
    Vm.Fn Tryd.prog 48 [] [(.agg (va.map (eI .u64)))] (.agg (r.map (eI .u8))) [] := by
  refine fn_ab Tryd.func48 rfl (by kernel_rfl) Tryd.ntmps48 (Nat.le_of_ble_eq_true rfl) rfl (fr := [(0, (.agg (va.map (eI .u64))))]) rfl ?_
  unfold ref02_Bytes at hr
  refine AB.seq ?_
  refine AB.rw ?_
  refine wS (v := (.ptr 0 0)) (h' := [some ⟨46, va.map (eI .u64)⟩]) (sv (d_box rfl (flatA (fun _ => rfl)) rfl rfl)) ?_
  refine wS (v := (.ptr 1 0)) (h' := [some ⟨46, va.map (eI .u64)⟩, some ⟨42, (List.replicate 32 0).map (eI .u8)⟩]) (sv (d_alloc ti42 rfl rfl rfl)) ?_
  refine OpsW.nil ?_
  refine Ex.then_mk ?_
  refine AB.seq ?_
  refine AB.rw ?_
  refine wS (v := (.ptr 2 0)) (h' := [some ⟨46, va.map (eI .u64)⟩, some ⟨42, (List.replicate 32 0).map (eI .u8)⟩, some ⟨42, (List.replicate 32 0).map (eI .u8)⟩]) (sv (d_alloc ti42 rfl rfl rfl)) ?_
  refine OpsW.nil ?_
  refine Ex.then_mk ?_
  refine AB.seq_g fun K1 hK1 hG1 => ?_
  have J1 : ∀ (l1 : List Int), ref02_Bytes_J1 N l1 = some r → K1 (mkF 24 [(2, (.ptr 0 0)), (3, (.ptr 1 0))]) [some ⟨42, (List.replicate 32 0).map (eI .u8)⟩, some ⟨42, l1.map (eI .u8)⟩] := by
    intro l1 hr
    unfold ref02_Bytes_J1 at hr
    refine hK1 _ _ ?_
    refine AB.seq ?_
    replace hr := bnd hr; obtain ⟨q, h_1, hr⟩ := hr
    refine AB.rw ?_
    refine wS (v := (.agg (l1.map (eI .u8)))) (sv (d_load rfl (ldA (E := (eI .u8)) (l := l1) ti42 rfl rfl (arr_len h_1)))) ?_
    refine wN (h' := [some ⟨42, l1.map (eI .u8)⟩, some ⟨42, l1.map (eI .u8)⟩]) (sv (d_store rfl rfl (stA (E := (eI .u8)) (l := List.replicate 32 0) ti42 rfl rfl (fun _ => rfl) rfl (arr_len h_1) rfl))) ?_
    refine OpsW.nil ?_
    refine Ex.then_mk ?_
    refine AB.ret ?_
    obtain rfl := Option.some.inj hr
    exact done_ret (r1 := (.agg (l1.map (eI .u8)))) (res1 Tryd.results48 (rvC rfl (ldA (E := (eI .u8)) (l := l1) ti42 rfl rfl (arr_len h_1)))) (Ghost.rn [] rfl rfl (FLe.le rfl (V.le_arr (fun _ => rfl)) FLe.nil) HLe.nil rfl)
  refine AB.seq ?_
  refine AB.rw ?_
  refine wS (v := (eI .i64 0)) (sv (d_move rfl)) ?_
  refine OpsW.nil ?_
  refine Ex.then_mk ?_
  replace hr := bnd hr; obtain ⟨res2, hL2, hr⟩ := hr
  refine AB.block ?_
  refine AB.loopN (fun m s h => ∃ (x6 : Int) (l2 : List Int), ref02_Bytes_L2 N va m x6 l2 = some res2 ∧ Ghost 0 s h (mkF 24 [(1, (.ptr 0 0)), (2, (.ptr 1 0)), (3, (.ptr 2 0)), (6, (eI .i64 x6))]) [some ⟨46, va.map (eI .u64)⟩, some ⟨42, (List.replicate 32 0).map (eI .u8)⟩, some ⟨42, l2.map (eI .u8)⟩]) (n := N) ⟨0, List.replicate 32 0, hL2, (Ghost.rn [0, 1, 2] rfl rfl (FLe.same rfl (FLe.same rfl (FLe.same rfl (FLe.same rfl FLe.nil)))) (HLe.live rfl (les_map (fun _ => rfl) _) (all_map (fun _ => rfl) _) (HLe.live rfl (les_map (fun _ => rfl) _) (all_map (fun _ => rfl) _) (HLe.live rfl (les_map (fun _ => rfl) _) (all_map (fun _ => rfl) _) HLe.nil))) rfl)⟩ (by rintro s h ⟨_, _, h0, _⟩; simp [ref02_Bytes_L2] at h0) ?_
  rintro m2 s h ⟨x6, l2, hr2, hg⟩
  refine AB.ghost hg ?_
  clear hg hL2
  rw [ref02_Bytes_L2] at hr2
  refine AB.seq ?_
  refine AB.rw ?_
  refine wS (v := (eB (decide (x6 < 32)))) (sv (d_bin rfl rfl (bin_lss ..))) ?_
  refine OpsW.nil ?_
  refine Ex.then_mk ?_
  refine AB.seq ?_
  refine AB.cnd rfl (fun h2 => ?_) (fun h2 => ?_)
  · replace hr2 := iteT hr2 h2
    refine AB.skip ?_
    refine Ex.then_mk ?_
    refine AB.seq ?_
    refine AB.block ?_
    refine AB.seq ?_
    refine AB.rw ?_
    refine wS (v := (eI .i64 x6)) (sv (d_move rfl)) ?_
    refine wS (v := (eI .i64 x6)) (sv (d_assign rfl)) ?_
    refine OpsW.nil ?_
    refine Ex.then_mk ?_
    refine AB.seq ?_
    refine AB.rw ?_
    refine wS (v := (eI .i64 x6)) (sv (d_move rfl)) ?_
    refine wS (v := (eI .i64 (IntKind.i64.wrap (31 - x6)))) (sv (d_bin rfl rfl (bin_sub ..))) ?_
    refine wS (v := (eI .i64 (IntKind.i64.wrap (31 - x6)))) (sv (d_assign rfl)) ?_
    refine OpsW.nil ?_
    refine Ex.then_mk ?_
    replace hr2 := bnd hr2; obtain ⟨x14, h_3, hr2⟩ := hr2
    replace hr2 := bnd hr2; obtain ⟨x19, h_4, hr2⟩ := hr2
    replace hr2 := bnd hr2; obtain ⟨x21, h_5, hr2⟩ := hr2
    refine AB.rw ?_
    refine wS (v := (eI .i64 x6)) (sv (d_move rfl)) ?_
    refine wS (v := (eI .i64 (IntKind.i64.wrap (31 - x6)))) (sv (d_move rfl)) ?_
    refine wS (v := (eI .i64 (IntKind.i64.wrap (Int.tdiv (IntKind.i64.wrap (31 - x6)) 8)))) (sv (d_bin rfl rfl (bin_quo' _ _ _ _ rfl))) ?_
    refine wS (v := (.ptr 0 (Int.toNat (IntKind.i64.wrap (Int.tdiv (IntKind.i64.wrap (31 - x6)) 8))))) (sv (d_ia rfl rfl (iaB ti46 ti44 rfl h_3))) ?_
    refine wS (v := (eI .u64 x14)) (sv (d_load rfl (ldX (E := (eI .u64)) (y := x14) ti44 rfl rfl (aix_idx h_3)))) ?_
    refine wS (v := (eI .i64 (IntKind.i64.wrap (31 - x6)))) (sv (d_move rfl)) ?_
    refine wS (v := (eI .i64 (Int.tmod (IntKind.i64.wrap (31 - x6)) 8))) (sv (d_bin rfl rfl (bin_rem' _ _ _ _ rfl))) ?_
    refine wS (v := (eI .i64 (IntKind.i64.wrap (8 * (Int.tmod (IntKind.i64.wrap (31 - x6)) 8))))) (sv (d_bin rfl rfl (bin_mul ..))) ?_
    refine wS (v := (eI .u64 x19)) (sv (d_bin rfl rfl (bin_shr' _ _ _ _ h_4))) ?_
    refine wS (v := (eI .u8 (IntKind.u8.wrap x19))) (sv (d_conv rfl (conv_int _ ⟨_, ti44⟩ ti5 rfl))) ?_
    refine wS (v := (.ptr 2 (Int.toNat x6))) (sv (d_ia rfl rfl (iaB ti42 ti5 rfl h_5))) ?_
    refine wN (h' := [some ⟨46, va.map (eI .u64)⟩, some ⟨42, (List.replicate 32 0).map (eI .u8)⟩, some ⟨42, (l2.set (Int.toNat x6) (IntKind.u8.wrap x19)).map (eI .u8)⟩]) (sv (d_store rfl rfl (stXe (E := (eI .u8)) (y := IntKind.u8.wrap x19) ti5 rfl rfl (aix_idx h_5) rfl rfl rfl))) ?_
    refine OpsW.nil ?_
    refine Ex.inBlock_mk ?_
    refine Ex.then_mk ?_
    refine AB.rw ?_
    refine wS (v := (eI .i64 (IntKind.i64.wrap (x6 + 1)))) (sv (d_bin rfl rfl (bin_add ..))) ?_
    refine wS (v := (eI .i64 (IntKind.i64.wrap (x6 + 1)))) (sv (d_move rfl)) ?_
    refine OpsW.nil ?_
    refine Ex.then_mk ?_
    exact ⟨IntKind.i64.wrap (x6 + 1), l2.set (Int.toNat x6) (IntKind.u8.wrap x19), hr2, (Ghost.rn [0, 1, 2] rfl rfl (FLe.same rfl (FLe.same rfl (FLe.same rfl (FLe.same rfl FLe.nil)))) (HLe.live rfl (les_map (fun _ => rfl) _) (all_map (fun _ => rfl) _) (HLe.live rfl (les_map (fun _ => rfl) _) (all_map (fun _ => rfl) _) (HLe.live rfl (les_map (fun _ => rfl) _) (all_map (fun _ => rfl) _) HLe.nil))) rfl)⟩
  · replace hr2 := iteF hr2 h2
    refine AB.exit ?_
    refine Ex.then_exit_mk ?_
    refine Ex.then_exit_mk ?_
    refine Ex.inBlock_same_mk ?_
    obtain rfl := Option.some.inj hr2
    refine Ex.then_mk ?_
    exact hG1 _ _ _ _ (Ghost.rn [1, 2] rfl rfl (FLe.same rfl (FLe.same rfl FLe.nil)) (HLe.live rfl (les_map (fun _ => rfl) _) (all_map (fun _ => rfl) _) (HLe.live rfl (les_map (fun _ => rfl) _) (all_map (fun _ => rfl) _) HLe.nil)) rfl) (J1 l2 hr)
set_option maxRecDepth 20000 in
set_option maxHeartbeats 1000000 in
theorem ref08_key_ok (N : Nat) (p : List Int) (r : (List Int)) (hr : ref08_key N p = some r) :
    Vm.Fn Tryd.prog 37 [] [(.agg (p.map (eI .u64)))] (.row none 1 (r.map (eI .u8))) [] := by
  refine fn_ab Tryd.func37 rfl (by kernel_rfl) Tryd.ntmps37 (Nat.le_of_ble_eq_true rfl) rfl (fr := [(0, (.agg (p.map (eI .u64))))]) rfl ?_
  unfold ref08_key at hr
  refine AB.seq ?_
  refine AB.rw ?_
  refine wS (v := (.ptr 0 0)) (h' := [some ⟨46, p.map (eI .u64)⟩]) (sv (d_box rfl (flatA (fun _ => rfl)) rfl rfl)) ?_
  refine wS (v := (.row (some true) 1 [])) (sv (d_assign rfl)) ?_
  refine OpsW.nil ?_
  refine Ex.then_mk ?_
  refine AB.seq ?_
  replace hr := bnd hr; obtain ⟨q, h_1, hr⟩ := hr
  replace hr := bnd hr; obtain ⟨x5, h_2, hr⟩ := hr
  replace hr := bnd hr; obtain ⟨q_1, h_3, hr⟩ := hr
  refine AB.rw ?_
  refine wS (v := (.agg (p.map (eI .u64)))) (sv (d_load rfl (ldA (E := (eI .u64)) (l := p) ti46 rfl rfl (arr_len h_1)))) ?_
  refine wC (v := (.agg (x5.map (eI .u8)))) (h' := [some ⟨46, p.map (eI .u64)⟩]) rfl (Vm.Fn.pure (ref02_Bytes_ok N p x5 h_2) (by simp only [V.rn, V.rns, rns_eI, rns_eB]) (by simp only [V.rn, V.rns, rns_eI, rns_eB])) ?_
  refine wS (v := (.ptr 1 0)) (h' := [some ⟨46, p.map (eI .u64)⟩, some ⟨42, (List.replicate 32 0).map (eI .u8)⟩]) (sv (d_alloc ti42 rfl rfl rfl)) ?_
  refine wN (h' := [some ⟨46, p.map (eI .u64)⟩, some ⟨42, x5.map (eI .u8)⟩]) (sv (d_store rfl rfl (stA (E := (eI .u8)) (l := List.replicate 32 0) ti42 rfl rfl (fun _ => rfl) rfl (arr_len h_3) rfl))) ?_
  refine OpsW.nil ?_
  refine Ex.then_mk ?_
  refine AB.seq ?_
  refine AB.rw ?_
  refine wS (v := (.sl 1 0 32 1 false)) (sv (d_slice rfl rfl rfl (slA (E := (eI .u8)) (l := x5) ti42 ti5 rfl rfl rfl (arr_len h_3) ⟨Nat.le_of_ble_eq_true rfl, Nat.le_of_ble_eq_true rfl⟩))) ?_
  refine wS (v := (.sl 1 0 32 1 false)) (sv (d_assign rfl)) ?_
  refine OpsW.nil ?_
  refine Ex.then_mk ?_
  refine AB.ret ?_
  obtain rfl := Option.some.inj hr
  exact done_ret (r1 := (.sl 1 0 32 1 false)) (res1 Tryd.results37 (rvT rfl)) (Ghost.trans (Ghost.conv (fr' := [(0, (.row none 1 (x5.map (eI .u8))))]) (h' := [some ⟨46, p.map (eI .u64)⟩, none]) (FCv.cons rfl (Conv.row (subB_sub rfl) rfl rfl (all_mapE (fun _ => rfl)) (by first | rfl | (simp only [List.length_map, len_set, len_cpy]; done) | (rw [List.length_map]; exact Eq.symm (arr_len h_3)))) FCv.nil) (HCv.live (Convs.same (subB_sub rfl)) (all_map (fun _ => rfl) _) (HCv.dead HCv.nil))) (Ghost.rn [] rfl rfl (FLe.same rfl FLe.nil) HLe.nil rfl))
set_option maxRecDepth 20000 in
set_option maxHeartbeats 1000000 in
theorem ref08_Multi_ok (N : Nat) (vm : Int) (keys : List (List Int)) (r : (List Int) × Int) (hr : ref08_Multi N vm keys = some r) :
    Vm.Fn Tryd.prog 19 [] [(eI .i64 vm), (.row none 4 (keys.map (eA (eI .u64))))] (.tup [(.sl 0 0 r.1.length 1 false), (eI .i64 r.2)]) [some ⟨5, r.1.map (eI .u8)⟩] := by
  refine fn_ab Tryd.func19 rfl (by kernel_rfl) Tryd.ntmps19 (Nat.le_of_ble_eq_true rfl) rfl (fr := [(0, (eI .i64 vm)), (1, (.row none 4 (keys.map (eA (eI .u64)))))]) rfl ?_
  unfold ref08_Multi at hr
  refine AB.seq ?_
  refine AB.rw ?_
  refine wS (v := (.row (some true) 1 [])) (sv (d_assign rfl)) ?_
  refine wS (v := (eI .i64 0)) (sv (d_assign rfl)) ?_
  refine OpsW.nil ?_
  refine Ex.then_mk ?_
  refine AB.seq ?_
  refine AB.rw ?_
  refine wS (v := (.row (some true) 1 [])) (sv (d_assign rfl)) ?_
  refine OpsW.nil ?_
  refine Ex.then_mk ?_
  refine AB.seq_g fun K1 hK1 hG1 => ?_
  have J1 : ∀ (l0 : List S_api_Op), ref08_Multi_J1 N vm keys l0 = some r → K1 (mkF 32 [(0, (eI .i64 vm)), (1, (.row none 4 (keys.map (eA (eI .u64))))), (6, (.sl 0 0 l0.length 4 true))]) [some ⟨59, l0.flatMap C_api_Op⟩] := by
    intro l0 hr
    unfold ref08_Multi_J1 at hr
    refine hK1 _ _ ?_
    refine AB.seq ?_
    replace hr := bnd hr; obtain ⟨x28, h_1, hr⟩ := hr
    replace hr := bnd hr; obtain ⟨x29, h_2, hr⟩ := hr
    refine AB.rw ?_
    refine wS (v := (.sl 0 0 l0.length 4 true)) (sv (d_move rfl)) ?_
    refine wS (v := (eI .i64 vm)) (sv (d_move rfl)) ?_
    refine wS (v := (.row none 4 (keys.map (eA (eI .u64))))) (sv (d_move rfl)) ?_
    refine wS (v := (eI .i64 (keys.length : Int))) (sv (d_len rfl (lenR ti40))) ?_
    refine wS (v := (.agg [(eI .i64 11), (.row (some true) 1 []), (eI .i64 vm), (eI .i64 (keys.length : Int))])) (sv (d_build rfl (bldS ti59 pl59 rfl))) ?_
    refine OpsW.ghost (Ghost.weak (fr' := [(0, (eI .i64 vm)), (1, (.row none 4 (keys.map (eA (eI .u64))))), (6, (.sl 0 0 l0.length 4 true)), (22, (.sl 0 0 l0.length 4 true)), (23, (eI .i64 vm)), (24, (.row none 4 (keys.map (eA (eI .u64))))), (25, (eI .i64 (keys.length : Int))), (26, (.agg [(eI .i64 11), (.row none 1 ([].map (eI .u8))), (eI .i64 vm), (eI .i64 (keys.length : Int))]))]) (FLe.same rfl (FLe.same rfl (FLe.same rfl (FLe.same rfl (FLe.same rfl (FLe.same rfl (FLe.same rfl (FLe.le rfl (V.le_agg (V.les_cons (V.le_refl _ _) (V.les_cons V.le_nil (V.les_cons (V.le_refl _ _) (V.les_cons (V.le_refl _ _) V.les_nil))))) FLe.nil))))))))) ?_
    refine wS (v := (.sl 1 0 1 4 true)) (h' := [some ⟨59, l0.flatMap C_api_Op⟩, some ⟨59, [(S_api_Op.mk 11 [] vm (keys.length : Int))].flatMap C_api_Op⟩]) (sv (d_buildS rfl (bldLK (C := C_api_Op) (xs := [(S_api_Op.mk 11 [] vm (keys.length : Int))]) (K := 4) (fun _ => rfl) (fun _ => rfl) ti31 ti59 ⟨Nat.le_of_ble_eq_true rfl, Nat.le_of_ble_eq_true rfl, Nat.le_of_ble_eq_true rfl⟩ rfl rfl rfl rfl rfl rfl))) ?_
    refine wS (v := (.sl 2 0 x28.length 4 true)) (h' := [none, some ⟨59, [(S_api_Op.mk 11 [] vm (keys.length : Int))].flatMap C_api_Op⟩, some ⟨59, x28.flatMap C_api_Op⟩]) (sv (d_append rfl rfl (appSK (C := C_api_Op) (K := 4) (fun _ => rfl) rfl ti31 ti59 ⟨rfl, rfl, Nat.le_of_ble_eq_true rfl, Nat.le_of_ble_eq_true rfl⟩ rfl (srcSK (C := C_api_Op) (fun _ => rfl) rfl rfl) h_1 rfl rfl))) ?_
    refine wC (v := (.tup [(.sl 3 0 x29.1.length 1 false), (eI .i64 x29.2)])) (h' := [none, some ⟨59, [(S_api_Op.mk 11 [] vm (keys.length : Int))].flatMap C_api_Op⟩, some ⟨59, x28.flatMap C_api_Op⟩, some ⟨5, x29.1.map (eI .u8)⟩]) rfl (Vm.Fn.lendR (ref08_Assemble_ok N x28 x29 h_2) [] [2] (by decide) rfl (by decide) Lend.nil (Brw.row (exp_slKT (C := C_api_Op) (fun _ => rfl) (Nat.le_of_ble_eq_true rfl) rfl rfl (fun _ => rfl)) Brw.nil) rfl (rfB.live (rfs_map (fun _ => rfl) _) rfB.nil) rfl (by simp only [lent, lendSet, lendSet_nil, rnH, Blk.rn, V.rns, V.rn, sg, List.map_cons, List.map_nil, Option.map_some, Option.map_none, List.drop_succ_cons, List.drop_zero, List.drop_nil, List.set_cons_zero, List.set_cons_succ, List.cons_append, List.nil_append, List.append_nil, rns_eI, rns_eB, rns_eS, rns_eL, rns_C_api_Op, List.getElem?_cons_zero, List.getElem?_cons_succ, List.getElem?_nil, List.length_cons, List.length_nil, Nat.reduceAdd, Nat.reduceSub, Nat.add_zero, Nat.zero_add, Nat.sub_self, Nat.sub_zero])) ?_
    refine wS (v := (.sl 3 0 x29.1.length 1 false)) (sv (d_ext rfl rfl)) ?_
    refine wS (v := (eI .i64 x29.2)) (sv (d_ext rfl rfl)) ?_
    refine wS (v := (.sl 3 0 x29.1.length 1 false)) (sv (d_assign rfl)) ?_
    refine wS (v := (eI .i64 x29.2)) (sv (d_assign rfl)) ?_
    refine OpsW.nil ?_
    refine Ex.then_mk ?_
    refine AB.ret ?_
    obtain rfl := Option.some.inj hr
    exact done_ret (r1 := (.tup [(.sl 3 0 x29.1.length 1 false), (eI .i64 x29.2)])) (res2 Tryd.results19 (rvT rfl) (rvT rfl)) (Ghost.rn [3] rfl rfl (FLe.same rfl FLe.nil) (HLe.live rfl (les_map (fun _ => rfl) _) (all_map (fun _ => rfl) _) HLe.nil) rfl)
  refine AB.seq ?_
  refine AB.rw ?_
  refine wS (v := (.row none 4 (keys.map (eA (eI .u64))))) (sv (d_move rfl)) ?_
  refine wS (v := (eI .i64 (keys.length : Int))) (sv (d_len rfl (lenR ti40))) ?_
  refine wS (v := (eI .i64 0)) (sv (d_move rfl)) ?_
  refine OpsW.nil ?_
  refine Ex.then_mk ?_
  replace hr := bnd hr; obtain ⟨res2, hL2, hr⟩ := hr
  refine AB.block ?_
  refine AB.loopN (fun m s h => ∃ (x11 : Int) (l0_1 : List S_api_Op), ref08_Multi_L2 N vm keys m x11 l0_1 = some res2 ∧ Ghost 0 s h (mkF 32 [(0, (eI .i64 vm)), (1, (.row none 4 (keys.map (eA (eI .u64))))), (6, (.sl 0 0 l0_1.length 4 true)), (9, (.row none 4 (keys.map (eA (eI .u64))))), (10, (eI .i64 (keys.length : Int))), (11, (eI .i64 x11))]) [some ⟨59, l0_1.flatMap C_api_Op⟩]) (n := N) ⟨0, [], hL2, (Ghost.trans (Ghost.virt (fr' := [(0, (eI .i64 vm)), (1, (.row none 4 (keys.map (eA (eI .u64))))), (6, (.sl 0 0 0 4 true)), (9, (.row none 4 (keys.map (eA (eI .u64))))), (10, (eI .i64 (keys.length : Int))), (11, (eI .i64 0))]) (h1 := []) 59 (FLe.same rfl (FLe.same rfl (FLe.le rfl (V.le_virt rfl) (FLe.same rfl (FLe.same rfl (FLe.same rfl FLe.nil)))))) HLv.nil) (Ghost.rn [0] rfl rfl (FLe.same rfl (FLe.same rfl (FLe.le rfl (by first | exact V.le_refl _ _ | (simp only [len_set, len_cpy]; exact V.le_refl _ _)) (FLe.same rfl (FLe.same rfl (FLe.same rfl FLe.nil)))))) (HLe.live rfl V.les_nil rfl HLe.nil) rfl))⟩ (by rintro s h ⟨_, _, h0, _⟩; simp [ref08_Multi_L2] at h0) ?_
  rintro m2 s h ⟨x11, l0_1, hr2, hg⟩
  refine AB.ghost hg ?_
  clear hg hL2
  rw [ref08_Multi_L2] at hr2
  refine AB.seq ?_
  refine AB.rw ?_
  refine wS (v := (eB (decide (x11 < (keys.length : Int))))) (sv (d_bin rfl rfl (bin_lss ..))) ?_
  refine OpsW.nil ?_
  refine Ex.then_mk ?_
  refine AB.seq ?_
  refine AB.cnd rfl (fun h3 => ?_) (fun h3 => ?_)
  · replace hr2 := iteT hr2 h3
    refine AB.skip ?_
    refine Ex.then_mk ?_
    refine AB.seq ?_
    refine AB.block ?_
    refine AB.seq ?_
    replace hr2 := bnd hr2; obtain ⟨x13, h_4, hr2⟩ := hr2
    replace hr2 := bnd hr2; obtain ⟨q, h_5, hr2⟩ := hr2
    refine AB.rw ?_
    refine wS (sv (d_ia rfl rfl (iaR ti40 ti46 h_4))) ?_
    refine wS (v := (.agg (x13.map (eI .u64)))) (sv (d_load rfl (ldRA (E := (eI .u64)) ti46 rfl h_4 (arr_len h_5)))) ?_
    refine wS (v := (.ptr 1 0)) (h' := [some ⟨59, l0_1.flatMap C_api_Op⟩, some ⟨46, (List.replicate 4 0).map (eI .u64)⟩]) (sv (d_alloc ti46 rfl rfl rfl)) ?_
    refine wN (h' := [some ⟨59, l0_1.flatMap C_api_Op⟩, some ⟨46, x13.map (eI .u64)⟩]) (sv (d_store rfl rfl (stA (E := (eI .u64)) (l := List.replicate 4 0) ti46 rfl rfl (fun _ => rfl) rfl (arr_len h_5) rfl))) ?_
    refine OpsW.nil ?_
    refine Ex.then_mk ?_
    replace hr2 := bnd hr2; obtain ⟨x17, h_6, hr2⟩ := hr2
    replace hr2 := bnd hr2; obtain ⟨x20, h_7, hr2⟩ := hr2
    refine AB.rw ?_
    refine wS (v := (.sl 0 0 l0_1.length 4 true)) (sv (d_move rfl)) ?_
    refine wS (v := (.agg (x13.map (eI .u64)))) (sv (d_load rfl (ldA (E := (eI .u64)) (l := x13) ti46 rfl rfl (arr_len h_5)))) ?_
    refine wC (v := (.row none 1 (x17.map (eI .u8)))) (h' := [some ⟨59, l0_1.flatMap C_api_Op⟩, some ⟨46, x13.map (eI .u64)⟩]) rfl (Vm.Fn.pure (ref08_key_ok N x13 x17 h_6) (by simp only [V.rn, V.rns, rns_eI, rns_eB]) rfl) ?_
    refine wS (v := (.agg [(eI .i64 1), (.row none 1 (x17.map (eI .u8))), (eI .i64 0), (eI .i64 0)])) (sv (d_build rfl (bldS ti59 pl59 rfl))) ?_
    refine wS (v := (.sl 2 0 1 4 true)) (h' := [some ⟨59, l0_1.flatMap C_api_Op⟩, some ⟨46, x13.map (eI .u64)⟩, some ⟨59, [(S_api_Op.mk 1 x17 0 0)].flatMap C_api_Op⟩]) (sv (d_buildS rfl (bldLK (C := C_api_Op) (xs := [(S_api_Op.mk 1 x17 0 0)]) (K := 4) (fun _ => rfl) (fun _ => rfl) ti31 ti59 ⟨Nat.le_of_ble_eq_true rfl, Nat.le_of_ble_eq_true rfl, Nat.le_of_ble_eq_true rfl⟩ rfl rfl rfl rfl rfl rfl))) ?_
    refine wS (v := (.sl 3 0 x20.length 4 true)) (h' := [none, some ⟨46, x13.map (eI .u64)⟩, some ⟨59, [(S_api_Op.mk 1 x17 0 0)].flatMap C_api_Op⟩, some ⟨59, x20.flatMap C_api_Op⟩]) (sv (d_append rfl rfl (appSK (C := C_api_Op) (K := 4) (fun _ => rfl) rfl ti31 ti59 ⟨rfl, rfl, Nat.le_of_ble_eq_true rfl, Nat.le_of_ble_eq_true rfl⟩ rfl (srcSK (C := C_api_Op) (fun _ => rfl) rfl rfl) h_7 rfl rfl))) ?_
    refine wS (v := (.sl 3 0 x20.length 4 true)) (sv (d_assign rfl)) ?_
    refine OpsW.nil ?_
    refine Ex.inBlock_mk ?_
    refine Ex.then_mk ?_
    refine AB.rw ?_
    refine wS (v := (eI .i64 (IntKind.i64.wrap (x11 + 1)))) (sv (d_bin rfl rfl (bin_add ..))) ?_
    refine wS (v := (eI .i64 (IntKind.i64.wrap (x11 + 1)))) (sv (d_move rfl)) ?_
    refine OpsW.nil ?_
    refine Ex.then_mk ?_
    exact ⟨IntKind.i64.wrap (x11 + 1), x20, hr2, (Ghost.rn [3] rfl rfl (FLe.same rfl (FLe.same rfl (FLe.same rfl (FLe.same rfl (FLe.same rfl (FLe.same rfl FLe.nil)))))) (HLe.live rfl (les_flat (fun _ => rfl) _) (all_flat (fun _ => rfl) _) HLe.nil) rfl)⟩
  · replace hr2 := iteF hr2 h3
    refine AB.exit ?_
    refine Ex.then_exit_mk ?_
    refine Ex.then_exit_mk ?_
    refine Ex.inBlock_same_mk ?_
    obtain rfl := Option.some.inj hr2
    refine Ex.then_mk ?_
    exact hG1 _ _ _ _ (Ghost.rn [0] rfl rfl (FLe.same rfl (FLe.same rfl (FLe.same rfl FLe.nil))) (HLe.live rfl (les_flat (fun _ => rfl) _) (all_flat (fun _ => rfl) _) HLe.nil) rfl) (J1 l0_1 hr)
set_option maxRecDepth 20000 in
set_option maxHeartbeats 1000000 in
theorem script_Single_ok (N : Nat) (p : List Int) (r : (List Int)) (hr : script_Single N p = some r) :
    Vm.Fn Tryd.prog 20 [] [(.agg (p.map (eI .u64)))] (.row none 1 (r.map (eI .u8))) [] := by
  refine fn_ab Tryd.func20 rfl (by kernel_rfl) Tryd.ntmps20 (Nat.le_of_ble_eq_true rfl) rfl (fr := [(0, (.agg (p.map (eI .u64))))]) rfl ?_
  unfold script_Single at hr
  refine AB.seq ?_
  refine AB.rw ?_
  refine wS (v := (.ptr 0 0)) (h' := [some ⟨46, p.map (eI .u64)⟩]) (sv (d_box rfl (flatA (fun _ => rfl)) rfl rfl)) ?_
  refine wS (v := (.row (some true) 1 [])) (sv (d_assign rfl)) ?_
  refine OpsW.nil ?_
  refine Ex.then_mk ?_
  refine AB.seq ?_
  replace hr := bnd hr; obtain ⟨q, h_1, hr⟩ := hr
  replace hr := bnd hr; obtain ⟨x5, h_2, hr⟩ := hr
  replace hr := bnd hr; obtain ⟨q_1, h_3, hr⟩ := hr
  refine AB.rw ?_
  refine wS (v := (.agg (p.map (eI .u64)))) (sv (d_load rfl (ldA (E := (eI .u64)) (l := p) ti46 rfl rfl (arr_len h_1)))) ?_
  refine wC (v := (.agg (x5.map (eI .u8)))) (h' := [some ⟨46, p.map (eI .u64)⟩]) rfl (Vm.Fn.pure (wide_Bytes_ok N p x5 h_2) (by simp only [V.rn, V.rns, rns_eI, rns_eB]) (by simp only [V.rn, V.rns, rns_eI, rns_eB])) ?_
  refine wS (v := (.ptr 1 0)) (h' := [some ⟨46, p.map (eI .u64)⟩, some ⟨42, (List.replicate 32 0).map (eI .u8)⟩]) (sv (d_alloc ti42 rfl rfl rfl)) ?_
  refine wN (h' := [some ⟨46, p.map (eI .u64)⟩, some ⟨42, x5.map (eI .u8)⟩]) (sv (d_store rfl rfl (stA (E := (eI .u8)) (l := List.replicate 32 0) ti42 rfl rfl (fun _ => rfl) rfl (arr_len h_3) rfl))) ?_
  refine OpsW.nil ?_
  refine Ex.then_mk ?_
  refine AB.seq ?_
  replace hr := bnd hr; obtain ⟨x7, h_4, hr⟩ := hr
  replace hr := bnd hr; obtain ⟨x10, h_5, hr⟩ := hr
  refine AB.rw ?_
  refine wS (v := (.sl 1 0 32 1 false)) (sv (d_slice rfl rfl rfl (slA (E := (eI .u8)) (l := x5) ti42 ti5 rfl rfl rfl (arr_len h_3) ⟨Nat.le_of_ble_eq_true rfl, Nat.le_of_ble_eq_true rfl⟩))) ?_
  refine wC (v := (.sl 2 0 x7.length 1 false)) (h' := [some ⟨46, p.map (eI .u64)⟩, some ⟨42, x5.map (eI .u8)⟩, some ⟨5, x7.map (eI .u8)⟩]) rfl (Vm.Fn.lendR (script_push_ok N x5 x7 h_4) [] [1] (by decide) rfl (by decide) Lend.nil (Brw.row (exp_slT (arr_len h_3) rfl (fun _ => rfl)) Brw.nil) rfl (rfB.live (rfs_map (fun _ => rfl) _) rfB.nil) rfl (by simp only [lent, lendSet, lendSet_nil, rnH, Blk.rn, V.rns, V.rn, sg, List.map_cons, List.map_nil, Option.map_some, Option.map_none, List.drop_succ_cons, List.drop_zero, List.drop_nil, List.set_cons_zero, List.set_cons_succ, List.cons_append, List.nil_append, List.append_nil, rns_eI, rns_eB, rns_eS, rns_eL, rns_C_api_Op, List.getElem?_cons_zero, List.getElem?_cons_succ, List.getElem?_nil, List.length_cons, List.length_nil, Nat.reduceAdd, Nat.reduceSub, Nat.add_zero, Nat.zero_add, Nat.sub_self, Nat.sub_zero])) ?_
  refine wS (v := (.sl 3 0 1 1 false)) (h' := [some ⟨46, p.map (eI .u64)⟩, some ⟨42, x5.map (eI .u8)⟩, some ⟨5, x7.map (eI .u8)⟩, some ⟨5, [10].map (eI .u8)⟩]) (sv (d_buildS rfl (bldL1 (xs := [10].map (eI .u8)) ti22 ti5 (Nat.le_of_ble_eq_true rfl) (Nat.le_of_ble_eq_true rfl) rfl rfl rfl rfl rfl rfl rfl))) ?_
  refine OpsW.ghost (Ghost.conv (fr' := [(0, (.agg (p.map (eI .u64)))), (1, (.ptr 0 0)), (2, (.row (some true) 1 [])), (3, (.ptr 1 0)), (4, (.agg (p.map (eI .u64)))), (5, (.agg (x5.map (eI .u8)))), (6, (.sl 1 0 32 1 false)), (7, (.row none 1 (x7.map (eI .u8)))), (8, (.sl 3 0 1 1 false))]) (h' := [some ⟨46, p.map (eI .u64)⟩, some ⟨42, x5.map (eI .u8)⟩, none, some ⟨5, [10].map (eI .u8)⟩]) (FCv.cons rfl (Conv.same (subB_sub rfl)) (FCv.cons rfl (Conv.same (subB_sub rfl)) (FCv.cons rfl (Conv.same (subB_sub rfl)) (FCv.cons rfl (Conv.same (subB_sub rfl)) (FCv.cons rfl (Conv.same (subB_sub rfl)) (FCv.cons rfl (Conv.same (subB_sub rfl)) (FCv.cons rfl (Conv.same (subB_sub rfl)) (FCv.cons rfl (Conv.row (subB_sub rfl) rfl rfl (all_mapE (fun _ => rfl)) (by first | rfl | (simp only [List.length_map, len_set, len_cpy]; done))) (FCv.cons rfl (Conv.same (subB_sub rfl)) FCv.nil))))))))) (HCv.live (Convs.same (subB_sub rfl)) (all_map (fun _ => rfl) _) (HCv.live (Convs.same (subB_sub rfl)) (all_map (fun _ => rfl) _) (HCv.dead (HCv.live (Convs.same (subB_sub rfl)) (all_map (fun _ => rfl) _) HCv.nil))))) ?_
  refine OpsW.ghost (Ghost.conv (fr' := [(0, (.agg (p.map (eI .u64)))), (1, (.ptr 0 0)), (2, (.row (some true) 1 [])), (3, (.ptr 1 0)), (4, (.agg (p.map (eI .u64)))), (5, (.agg (x5.map (eI .u8)))), (6, (.sl 1 0 32 1 false)), (7, (.row none 1 (x7.map (eI .u8)))), (8, (.row none 1 ([10].map (eI .u8))))]) (h' := [some ⟨46, p.map (eI .u64)⟩, some ⟨42, x5.map (eI .u8)⟩, none, none]) (FCv.cons rfl (Conv.same (subB_sub rfl)) (FCv.cons rfl (Conv.same (subB_sub rfl)) (FCv.cons rfl (Conv.same (subB_sub rfl)) (FCv.cons rfl (Conv.same (subB_sub rfl)) (FCv.cons rfl (Conv.same (subB_sub rfl)) (FCv.cons rfl (Conv.same (subB_sub rfl)) (FCv.cons rfl (Conv.same (subB_sub rfl)) (FCv.cons rfl (Conv.same (subB_sub rfl)) (FCv.cons rfl (Conv.row (subB_sub rfl) rfl rfl (all_mapE (fun _ => rfl)) (by first | rfl | (simp only [List.length_map, len_set, len_cpy]; done) | (rw [List.length_map]; exact Eq.symm rfl))) FCv.nil))))))))) (HCv.live (Convs.same (subB_sub rfl)) (all_map (fun _ => rfl) _) (HCv.live (Convs.same (subB_sub rfl)) (all_map (fun _ => rfl) _) (HCv.dead (HCv.dead HCv.nil))))) ?_
  refine wS (v := (.sl 4 0 2 1 false)) (h' := [some ⟨46, p.map (eI .u64)⟩, some ⟨42, x5.map (eI .u8)⟩, none, none, some ⟨22, [x7, [10]].map (eL 1 (eI .u8))⟩]) (sv (d_buildS rfl (bldL1 (xs := [x7, [10]].map (eL 1 (eI .u8))) ti52 ti22 (Nat.le_of_ble_eq_true rfl) (Nat.le_of_ble_eq_true rfl) rfl rfl rfl rfl rfl rfl rfl))) ?_
  refine wC (v := (.sl 5 0 x10.length 1 false)) (h' := [some ⟨46, p.map (eI .u64)⟩, some ⟨42, x5.map (eI .u8)⟩, none, none, some ⟨22, [x7, [10]].map (eL 1 (eI .u8))⟩, some ⟨5, x10.map (eI .u8)⟩]) rfl (Vm.Fn.lendR (script_row_ok N [x7, [10]] x10 h_5) [] [4] (by decide) rfl (by decide) Lend.nil (Brw.row (exp_slT rfl rfl (fun _ => rfl)) Brw.nil) rfl (rfB.live (rfs_map (fun _ => rfl) _) rfB.nil) rfl (by simp only [lent, lendSet, lendSet_nil, rnH, Blk.rn, V.rns, V.rn, sg, List.map_cons, List.map_nil, Option.map_some, Option.map_none, List.drop_succ_cons, List.drop_zero, List.drop_nil, List.set_cons_zero, List.set_cons_succ, List.cons_append, List.nil_append, List.append_nil, rns_eI, rns_eB, rns_eS, rns_eL, rns_C_api_Op, List.getElem?_cons_zero, List.getElem?_cons_succ, List.getElem?_nil, List.length_cons, List.length_nil, Nat.reduceAdd, Nat.reduceSub, Nat.add_zero, Nat.zero_add, Nat.sub_self, Nat.sub_zero])) ?_
  refine wS (v := (.sl 5 0 x10.length 1 false)) (sv (d_assign rfl)) ?_
  refine OpsW.nil ?_
  refine Ex.then_mk ?_
  refine AB.ret ?_
  obtain rfl := Option.some.inj hr
  exact done_ret (r1 := (.sl 5 0 x10.length 1 false)) (res1 Tryd.results20 (rvT rfl)) (Ghost.trans (Ghost.conv (fr' := [(0, (.row none 1 (x10.map (eI .u8))))]) (h' := [some ⟨46, p.map (eI .u64)⟩, some ⟨42, x5.map (eI .u8)⟩, none, none, some ⟨22, [x7, [10]].map (eL 1 (eI .u8))⟩, none]) (FCv.cons rfl (Conv.row (subB_sub rfl) rfl rfl (all_mapE (fun _ => rfl)) (by first | rfl | (simp only [List.length_map, len_set, len_cpy]; done))) FCv.nil) (HCv.live (Convs.same (subB_sub rfl)) (all_map (fun _ => rfl) _) (HCv.live (Convs.same (subB_sub rfl)) (all_map (fun _ => rfl) _) (HCv.dead (HCv.dead (HCv.live (Convs.same (subB_sub rfl)) (all_map (fun _ => rfl) _) (HCv.dead HCv.nil))))))) (Ghost.rn [] rfl rfl (FLe.same rfl FLe.nil) HLe.nil rfl))
set_option maxRecDepth 20000 in
set_option maxHeartbeats 1000000 in
theorem ref08_push_ok (N : Nat) (b : List Int) (r : (List Int)) (hr : ref08_push N b = some r) :
    Vm.Fn Tryd.prog 41 [] [(.row none 1 (b.map (eI .u8)))] (.sl 0 0 r.length 1 false) [some ⟨5, r.map (eI .u8)⟩] := by
  refine fn_ab Tryd.func41 rfl (by kernel_rfl) Tryd.ntmps41 (Nat.le_of_ble_eq_true rfl) rfl (fr := [(0, (.row none 1 (b.map (eI .u8))))]) rfl ?_
  unfold ref08_push at hr
  refine AB.seq ?_
  refine AB.rw ?_
  refine wS (v := (.row (some true) 1 [])) (sv (d_assign rfl)) ?_
  refine OpsW.nil ?_
  refine Ex.then_mk ?_
  refine AB.seq ?_
  replace hr := bnd hr; obtain ⟨x5, h_1, hr⟩ := hr
  refine AB.rw ?_
  refine wS (v := (.row none 1 (b.map (eI .u8)))) (sv (d_move rfl)) ?_
  refine wS (v := (.agg [(eI .i64 1), (.row none 1 (b.map (eI .u8))), (eI .i64 0), (eI .i64 0)])) (sv (d_build rfl (bldS ti59 pl59 rfl))) ?_
  refine wC (v := (.sl 0 0 x5.length 1 false)) (h' := [some ⟨5, x5.map (eI .u8)⟩]) rfl (Vm.Fn.lendB (ref08_encode_ok N 1 b 0 0 x5 h_1) [] (by decide) rfl Lend.nil rfl rfl (by simp only [lent, lendSet, lendSet_nil, rnH, Blk.rn, V.rns, V.rn, sg, List.map_cons, List.map_nil, Option.map_some, Option.map_none, List.drop_succ_cons, List.drop_zero, List.drop_nil, List.set_cons_zero, List.set_cons_succ, List.cons_append, List.nil_append, List.append_nil, rns_eI, rns_eB, rns_eS, rns_eL, rns_C_api_Op, List.getElem?_cons_zero, List.getElem?_cons_succ, List.getElem?_nil, List.length_cons, List.length_nil, Nat.reduceAdd, Nat.reduceSub, Nat.add_zero, Nat.zero_add, Nat.sub_self, Nat.sub_zero])) ?_
  refine wS (v := (.sl 0 0 x5.length 1 false)) (sv (d_assign rfl)) ?_
  refine OpsW.nil ?_
  refine Ex.then_mk ?_
  refine AB.ret ?_
  obtain rfl := Option.some.inj hr
  exact done_ret (r1 := (.sl 0 0 x5.length 1 false)) (res1 Tryd.results41 (rvT rfl)) (Ghost.rn [0] rfl rfl (FLe.same rfl FLe.nil) (HLe.live rfl (les_map (fun _ => rfl) _) (all_map (fun _ => rfl) _) HLe.nil) rfl)
set_option maxRecDepth 20000 in
set_option maxHeartbeats 1000000 in
theorem ref08_Single_ok (N : Nat) (p : List Int) (r : (List Int)) (hr : ref08_Single N p = some r) :
    Vm.Fn Tryd.prog 21 [] [(.agg (p.map (eI .u64)))] (.row none 1 (r.map (eI .u8))) [] := by
  refine fn_ab Tryd.func21 rfl (by kernel_rfl) Tryd.ntmps21 (Nat.le_of_ble_eq_true rfl) rfl (fr := [(0, (.agg (p.map (eI .u64))))]) rfl ?_
  unfold ref08_Single at hr
  refine AB.seq ?_
  refine AB.rw ?_
  refine wS (v := (.ptr 0 0)) (h' := [some ⟨46, p.map (eI .u64)⟩]) (sv (d_box rfl (flatA (fun _ => rfl)) rfl rfl)) ?_
  refine wS (v := (.row (some true) 1 [])) (sv (d_assign rfl)) ?_
  refine OpsW.nil ?_
  refine Ex.then_mk ?_
  refine AB.seq ?_
  replace hr := bnd hr; obtain ⟨q, h_1, hr⟩ := hr
  replace hr := bnd hr; obtain ⟨x4, h_2, hr⟩ := hr
  replace hr := bnd hr; obtain ⟨x5, h_3, hr⟩ := hr
  replace hr := bnd hr; obtain ⟨x8, h_4, hr⟩ := hr
  refine AB.rw ?_
  refine wS (v := (.agg (p.map (eI .u64)))) (sv (d_load rfl (ldA (E := (eI .u64)) (l := p) ti46 rfl rfl (arr_len h_1)))) ?_
  refine wC (v := (.row none 1 (x4.map (eI .u8)))) (h' := [some ⟨46, p.map (eI .u64)⟩]) rfl (Vm.Fn.pure (ref08_key_ok N p x4 h_2) (by simp only [V.rn, V.rns, rns_eI, rns_eB]) rfl) ?_
  refine wC (v := (.sl 1 0 x5.length 1 false)) (h' := [some ⟨46, p.map (eI .u64)⟩, some ⟨5, x5.map (eI .u8)⟩]) rfl (Vm.Fn.lendB (ref08_push_ok N x4 x5 h_3) [] (by decide) rfl Lend.nil rfl rfl (by simp only [lent, lendSet, lendSet_nil, rnH, Blk.rn, V.rns, V.rn, sg, List.map_cons, List.map_nil, Option.map_some, Option.map_none, List.drop_succ_cons, List.drop_zero, List.drop_nil, List.set_cons_zero, List.set_cons_succ, List.cons_append, List.nil_append, List.append_nil, rns_eI, rns_eB, rns_eS, rns_eL, rns_C_api_Op, List.getElem?_cons_zero, List.getElem?_cons_succ, List.getElem?_nil, List.length_cons, List.length_nil, Nat.reduceAdd, Nat.reduceSub, Nat.add_zero, Nat.zero_add, Nat.sub_self, Nat.sub_zero])) ?_
  refine wS (v := (.sl 2 0 1 1 false)) (h' := [some ⟨46, p.map (eI .u64)⟩, some ⟨5, x5.map (eI .u8)⟩, some ⟨5, [10].map (eI .u8)⟩]) (sv (d_buildS rfl (bldL1 (xs := [10].map (eI .u8)) ti22 ti5 (Nat.le_of_ble_eq_true rfl) (Nat.le_of_ble_eq_true rfl) rfl rfl rfl rfl rfl rfl rfl))) ?_
  refine OpsW.ghost (Ghost.conv (fr' := [(0, (.agg (p.map (eI .u64)))), (1, (.ptr 0 0)), (2, (.row (some true) 1 [])), (3, (.agg (p.map (eI .u64)))), (4, (.row none 1 (x4.map (eI .u8)))), (5, (.row none 1 (x5.map (eI .u8)))), (6, (.sl 2 0 1 1 false))]) (h' := [some ⟨46, p.map (eI .u64)⟩, none, some ⟨5, [10].map (eI .u8)⟩]) (FCv.cons rfl (Conv.same (subB_sub rfl)) (FCv.cons rfl (Conv.same (subB_sub rfl)) (FCv.cons rfl (Conv.same (subB_sub rfl)) (FCv.cons rfl (Conv.same (subB_sub rfl)) (FCv.cons rfl (Conv.same (subB_sub rfl)) (FCv.cons rfl (Conv.row (subB_sub rfl) rfl rfl (all_mapE (fun _ => rfl)) (by first | rfl | (simp only [List.length_map, len_set, len_cpy]; done))) (FCv.cons rfl (Conv.same (subB_sub rfl)) FCv.nil))))))) (HCv.live (Convs.same (subB_sub rfl)) (all_map (fun _ => rfl) _) (HCv.dead (HCv.live (Convs.same (subB_sub rfl)) (all_map (fun _ => rfl) _) HCv.nil)))) ?_
  refine OpsW.ghost (Ghost.conv (fr' := [(0, (.agg (p.map (eI .u64)))), (1, (.ptr 0 0)), (2, (.row (some true) 1 [])), (3, (.agg (p.map (eI .u64)))), (4, (.row none 1 (x4.map (eI .u8)))), (5, (.row none 1 (x5.map (eI .u8)))), (6, (.row none 1 ([10].map (eI .u8))))]) (h' := [some ⟨46, p.map (eI .u64)⟩, none, none]) (FCv.cons rfl (Conv.same (subB_sub rfl)) (FCv.cons rfl (Conv.same (subB_sub rfl)) (FCv.cons rfl (Conv.same (subB_sub rfl)) (FCv.cons rfl (Conv.same (subB_sub rfl)) (FCv.cons rfl (Conv.same (subB_sub rfl)) (FCv.cons rfl (Conv.same (subB_sub rfl)) (FCv.cons rfl (Conv.row (subB_sub rfl) rfl rfl (all_mapE (fun _ => rfl)) (by first | rfl | (simp only [List.length_map, len_set, len_cpy]; done) | (rw [List.length_map]; exact Eq.symm rfl))) FCv.nil))))))) (HCv.live (Convs.same (subB_sub rfl)) (all_map (fun _ => rfl) _) (HCv.dead (HCv.dead HCv.nil)))) ?_
  refine wS (v := (.sl 3 0 2 1 false)) (h' := [some ⟨46, p.map (eI .u64)⟩, none, none, some ⟨22, [x5, [10]].map (eL 1 (eI .u8))⟩]) (sv (d_buildS rfl (bldL1 (xs := [x5, [10]].map (eL 1 (eI .u8))) ti52 ti22 (Nat.le_of_ble_eq_true rfl) (Nat.le_of_ble_eq_true rfl) rfl rfl rfl rfl rfl rfl rfl))) ?_
  refine wC (v := (.sl 4 0 x8.length 1 false)) (h' := [some ⟨46, p.map (eI .u64)⟩, none, none, some ⟨22, [x5, [10]].map (eL 1 (eI .u8))⟩, some ⟨5, x8.map (eI .u8)⟩]) rfl (Vm.Fn.lendR (ref01_Join_ok N [x5, [10]] x8 h_4) [] [3] (by decide) rfl (by decide) Lend.nil (Brw.row (exp_slT rfl rfl (fun _ => rfl)) Brw.nil) rfl (rfB.live (rfs_map (fun _ => rfl) _) rfB.nil) rfl (by simp only [lent, lendSet, lendSet_nil, rnH, Blk.rn, V.rns, V.rn, sg, List.map_cons, List.map_nil, Option.map_some, Option.map_none, List.drop_succ_cons, List.drop_zero, List.drop_nil, List.set_cons_zero, List.set_cons_succ, List.cons_append, List.nil_append, List.append_nil, rns_eI, rns_eB, rns_eS, rns_eL, rns_C_api_Op, List.getElem?_cons_zero, List.getElem?_cons_succ, List.getElem?_nil, List.length_cons, List.length_nil, Nat.reduceAdd, Nat.reduceSub, Nat.add_zero, Nat.zero_add, Nat.sub_self, Nat.sub_zero])) ?_
  refine wS (v := (.sl 4 0 x8.length 1 false)) (sv (d_assign rfl)) ?_
  refine OpsW.nil ?_
  refine Ex.then_mk ?_
  refine AB.ret ?_
  obtain rfl := Option.some.inj hr
  exact done_ret (r1 := (.sl 4 0 x8.length 1 false)) (res1 Tryd.results21 (rvT rfl)) (Ghost.trans (Ghost.conv (fr' := [(0, (.row none 1 (x8.map (eI .u8))))]) (h' := [some ⟨46, p.map (eI .u64)⟩, none, none, some ⟨22, [x5, [10]].map (eL 1 (eI .u8))⟩, none]) (FCv.cons rfl (Conv.row (subB_sub rfl) rfl rfl (all_mapE (fun _ => rfl)) (by first | rfl | (simp only [List.length_map, len_set, len_cpy]; done))) FCv.nil) (HCv.live (Convs.same (subB_sub rfl)) (all_map (fun _ => rfl) _) (HCv.dead (HCv.dead (HCv.live (Convs.same (subB_sub rfl)) (all_map (fun _ => rfl) _) (HCv.dead HCv.nil)))))) (Ghost.rn [] rfl rfl (FLe.same rfl FLe.nil) HLe.nil rfl))
set_option maxRecDepth 20000 in
set_option maxHeartbeats 1000000 in
theorem script_After_ok (N : Nat) (height : Int) (rest : List Int) (r : (List Int)) (hr : script_After N height rest = some r) :
    Vm.Fn Tryd.prog 22 [] [(eI .u32 height), (.row none 1 (rest.map (eI .u8)))] (.row none 1 (r.map (eI .u8))) [] := by
  refine fn_ab Tryd.func22 rfl (by kernel_rfl) Tryd.ntmps22 (Nat.le_of_ble_eq_true rfl) rfl (fr := [(0, (eI .u32 height)), (1, (.row none 1 (rest.map (eI .u8))))]) rfl ?_
  unfold script_After at hr
  refine AB.seq ?_
  refine AB.rw ?_
  refine wS (v := (.row (some true) 1 [])) (sv (d_assign rfl)) ?_
  refine OpsW.nil ?_
  refine Ex.then_mk ?_
  refine AB.seq ?_
  replace hr := bnd hr; obtain ⟨x6, h_1, hr⟩ := hr
  replace hr := bnd hr; obtain ⟨x7, h_2, hr⟩ := hr
  replace hr := bnd hr; obtain ⟨x11, h_3, hr⟩ := hr
  refine AB.rw ?_
  refine wS (v := (eI .u32 height)) (sv (d_move rfl)) ?_
  refine wC (v := (.sl 0 0 x6.length 1 false)) (h' := [some ⟨5, x6.map (eI .u8)⟩]) rfl (Vm.Fn.lendB (script_Item_ok N height x6 h_1) [] (by decide) rfl Lend.nil rfl rfl (by simp only [lent, lendSet, lendSet_nil, rnH, Blk.rn, V.rns, V.rn, sg, List.map_cons, List.map_nil, Option.map_some, Option.map_none, List.drop_succ_cons, List.drop_zero, List.drop_nil, List.set_cons_zero, List.set_cons_succ, List.cons_append, List.nil_append, List.append_nil, rns_eI, rns_eB, rns_eS, rns_eL, rns_C_api_Op, List.getElem?_cons_zero, List.getElem?_cons_succ, List.getElem?_nil, List.length_cons, List.length_nil, Nat.reduceAdd, Nat.reduceSub, Nat.add_zero, Nat.zero_add, Nat.sub_self, Nat.sub_zero])) ?_
  refine wC (v := (.sl 1 0 x7.length 1 false)) (h' := [some ⟨5, x6.map (eI .u8)⟩, some ⟨5, x7.map (eI .u8)⟩]) rfl (Vm.Fn.lendR (script_push_ok N x6 x7 h_2) [] [0] (by decide) rfl (by decide) Lend.nil (Brw.row (exp_slT rfl rfl (fun _ => rfl)) Brw.nil) rfl (rfB.live (rfs_map (fun _ => rfl) _) rfB.nil) rfl (by simp only [lent, lendSet, lendSet_nil, rnH, Blk.rn, V.rns, V.rn, sg, List.map_cons, List.map_nil, Option.map_some, Option.map_none, List.drop_succ_cons, List.drop_zero, List.drop_nil, List.set_cons_zero, List.set_cons_succ, List.cons_append, List.nil_append, List.append_nil, rns_eI, rns_eB, rns_eS, rns_eL, rns_C_api_Op, List.getElem?_cons_zero, List.getElem?_cons_succ, List.getElem?_nil, List.length_cons, List.length_nil, Nat.reduceAdd, Nat.reduceSub, Nat.add_zero, Nat.zero_add, Nat.sub_self, Nat.sub_zero])) ?_
  refine wS (v := (.sl 2 0 2 1 false)) (h' := [some ⟨5, x6.map (eI .u8)⟩, some ⟨5, x7.map (eI .u8)⟩, some ⟨5, [12, 3].map (eI .u8)⟩]) (sv (d_buildS rfl (bldL1 (xs := [12, 3].map (eI .u8)) ti22 ti5 (Nat.le_of_ble_eq_true rfl) (Nat.le_of_ble_eq_true rfl) rfl rfl rfl rfl rfl rfl rfl))) ?_
  refine wS (v := (.row none 1 (rest.map (eI .u8)))) (sv (d_move rfl)) ?_
  refine OpsW.ghost (Ghost.conv (fr' := [(0, (eI .u32 height)), (1, (.row none 1 (rest.map (eI .u8)))), (4, (.row (some true) 1 [])), (5, (eI .u32 height)), (6, (.sl 0 0 x6.length 1 false)), (7, (.row none 1 (x7.map (eI .u8)))), (8, (.sl 2 0 2 1 false)), (9, (.row none 1 (rest.map (eI .u8))))]) (h' := [some ⟨5, x6.map (eI .u8)⟩, none, some ⟨5, [12, 3].map (eI .u8)⟩]) (FCv.cons rfl (Conv.same (subB_sub rfl)) (FCv.cons rfl (Conv.same (subB_sub rfl)) (FCv.cons rfl (Conv.same (subB_sub rfl)) (FCv.cons rfl (Conv.same (subB_sub rfl)) (FCv.cons rfl (Conv.same (subB_sub rfl)) (FCv.cons rfl (Conv.row (subB_sub rfl) rfl rfl (all_mapE (fun _ => rfl)) (by first | rfl | (simp only [List.length_map, len_set, len_cpy]; done))) (FCv.cons rfl (Conv.same (subB_sub rfl)) (FCv.cons rfl (Conv.same (subB_sub rfl)) FCv.nil)))))))) (HCv.live (Convs.same (subB_sub rfl)) (all_map (fun _ => rfl) _) (HCv.dead (HCv.live (Convs.same (subB_sub rfl)) (all_map (fun _ => rfl) _) HCv.nil)))) ?_
  refine OpsW.ghost (Ghost.conv (fr' := [(0, (eI .u32 height)), (1, (.row none 1 (rest.map (eI .u8)))), (4, (.row (some true) 1 [])), (5, (eI .u32 height)), (6, (.sl 0 0 x6.length 1 false)), (7, (.row none 1 (x7.map (eI .u8)))), (8, (.row none 1 ([12, 3].map (eI .u8)))), (9, (.row none 1 (rest.map (eI .u8))))]) (h' := [some ⟨5, x6.map (eI .u8)⟩, none, none]) (FCv.cons rfl (Conv.same (subB_sub rfl)) (FCv.cons rfl (Conv.same (subB_sub rfl)) (FCv.cons rfl (Conv.same (subB_sub rfl)) (FCv.cons rfl (Conv.same (subB_sub rfl)) (FCv.cons rfl (Conv.same (subB_sub rfl)) (FCv.cons rfl (Conv.same (subB_sub rfl)) (FCv.cons rfl (Conv.row (subB_sub rfl) rfl rfl (all_mapE (fun _ => rfl)) (by first | rfl | (simp only [List.length_map, len_set, len_cpy]; done) | (rw [List.length_map]; exact Eq.symm rfl))) (FCv.cons rfl (Conv.same (subB_sub rfl)) FCv.nil)))))))) (HCv.live (Convs.same (subB_sub rfl)) (all_map (fun _ => rfl) _) (HCv.dead (HCv.dead HCv.nil)))) ?_
  refine wS (v := (.sl 3 0 3 1 false)) (h' := [some ⟨5, x6.map (eI .u8)⟩, none, none, some ⟨22, [x7, [12, 3], rest].map (eL 1 (eI .u8))⟩]) (sv (d_buildS rfl (bldL1 (xs := [x7, [12, 3], rest].map (eL 1 (eI .u8))) ti52 ti22 (Nat.le_of_ble_eq_true rfl) (Nat.le_of_ble_eq_true rfl) rfl rfl rfl rfl rfl rfl rfl))) ?_
  refine wC (v := (.sl 4 0 x11.length 1 false)) (h' := [some ⟨5, x6.map (eI .u8)⟩, none, none, some ⟨22, [x7, [12, 3], rest].map (eL 1 (eI .u8))⟩, some ⟨5, x11.map (eI .u8)⟩]) rfl (Vm.Fn.lendR (script_row_ok N [x7, [12, 3], rest] x11 h_3) [] [3] (by decide) rfl (by decide) Lend.nil (Brw.row (exp_slT rfl rfl (fun _ => rfl)) Brw.nil) rfl (rfB.live (rfs_map (fun _ => rfl) _) rfB.nil) rfl (by simp only [lent, lendSet, lendSet_nil, rnH, Blk.rn, V.rns, V.rn, sg, List.map_cons, List.map_nil, Option.map_some, Option.map_none, List.drop_succ_cons, List.drop_zero, List.drop_nil, List.set_cons_zero, List.set_cons_succ, List.cons_append, List.nil_append, List.append_nil, rns_eI, rns_eB, rns_eS, rns_eL, rns_C_api_Op, List.getElem?_cons_zero, List.getElem?_cons_succ, List.getElem?_nil, List.length_cons, List.length_nil, Nat.reduceAdd, Nat.reduceSub, Nat.add_zero, Nat.zero_add, Nat.sub_self, Nat.sub_zero])) ?_
  refine wS (v := (.sl 4 0 x11.length 1 false)) (sv (d_assign rfl)) ?_
  refine OpsW.nil ?_
  refine Ex.then_mk ?_
  refine AB.ret ?_
  obtain rfl := Option.some.inj hr
  exact done_ret (r1 := (.sl 4 0 x11.length 1 false)) (res1 Tryd.results22 (rvT rfl)) (Ghost.trans (Ghost.conv (fr' := [(0, (.row none 1 (x11.map (eI .u8))))]) (h' := [some ⟨5, x6.map (eI .u8)⟩, none, none, some ⟨22, [x7, [12, 3], rest].map (eL 1 (eI .u8))⟩, none]) (FCv.cons rfl (Conv.row (subB_sub rfl) rfl rfl (all_mapE (fun _ => rfl)) (by first | rfl | (simp only [List.length_map, len_set, len_cpy]; done))) FCv.nil) (HCv.live (Convs.same (subB_sub rfl)) (all_map (fun _ => rfl) _) (HCv.dead (HCv.dead (HCv.live (Convs.same (subB_sub rfl)) (all_map (fun _ => rfl) _) (HCv.dead HCv.nil)))))) (Ghost.rn [] rfl rfl (FLe.same rfl FLe.nil) HLe.nil rfl))
set_option maxRecDepth 20000 in
set_option maxHeartbeats 1000000 in
theorem ref08_After_ok (N : Nat) (height : Int) (rest : List Int) (r : (List Int)) (hr : ref08_After N height rest = some r) :
    Vm.Fn Tryd.prog 23 [] [(eI .u32 height), (.row none 1 (rest.map (eI .u8)))] (.row none 1 (r.map (eI .u8))) [] := by
  refine fn_ab Tryd.func23 rfl (by kernel_rfl) Tryd.ntmps23 (Nat.le_of_ble_eq_true rfl) rfl (fr := [(0, (eI .u32 height)), (1, (.row none 1 (rest.map (eI .u8))))]) rfl ?_
  unfold ref08_After at hr
  refine AB.seq ?_
  refine AB.rw ?_
  refine wS (v := (.row (some true) 1 [])) (sv (d_assign rfl)) ?_
  refine OpsW.nil ?_
  refine Ex.then_mk ?_
  refine AB.seq ?_
  replace hr := bnd hr; obtain ⟨x6, h_1, hr⟩ := hr
  replace hr := bnd hr; obtain ⟨x7, h_2, hr⟩ := hr
  replace hr := bnd hr; obtain ⟨x11, h_3, hr⟩ := hr
  refine AB.rw ?_
  refine wS (v := (eI .u32 height)) (sv (d_move rfl)) ?_
  refine wC (v := (.sl 0 0 x6.length 1 false)) (h' := [some ⟨5, x6.map (eI .u8)⟩]) rfl (Vm.Fn.lendB (ref08_Item_ok N height x6 h_1) [] (by decide) rfl Lend.nil rfl rfl (by simp only [lent, lendSet, lendSet_nil, rnH, Blk.rn, V.rns, V.rn, sg, List.map_cons, List.map_nil, Option.map_some, Option.map_none, List.drop_succ_cons, List.drop_zero, List.drop_nil, List.set_cons_zero, List.set_cons_succ, List.cons_append, List.nil_append, List.append_nil, rns_eI, rns_eB, rns_eS, rns_eL, rns_C_api_Op, List.getElem?_cons_zero, List.getElem?_cons_succ, List.getElem?_nil, List.length_cons, List.length_nil, Nat.reduceAdd, Nat.reduceSub, Nat.add_zero, Nat.zero_add, Nat.sub_self, Nat.sub_zero])) ?_
  refine wC (v := (.sl 1 0 x7.length 1 false)) (h' := [some ⟨5, x6.map (eI .u8)⟩, some ⟨5, x7.map (eI .u8)⟩]) rfl (Vm.Fn.lendR (ref08_push_ok N x6 x7 h_2) [] [0] (by decide) rfl (by decide) Lend.nil (Brw.row (exp_slT rfl rfl (fun _ => rfl)) Brw.nil) rfl (rfB.live (rfs_map (fun _ => rfl) _) rfB.nil) rfl (by simp only [lent, lendSet, lendSet_nil, rnH, Blk.rn, V.rns, V.rn, sg, List.map_cons, List.map_nil, Option.map_some, Option.map_none, List.drop_succ_cons, List.drop_zero, List.drop_nil, List.set_cons_zero, List.set_cons_succ, List.cons_append, List.nil_append, List.append_nil, rns_eI, rns_eB, rns_eS, rns_eL, rns_C_api_Op, List.getElem?_cons_zero, List.getElem?_cons_succ, List.getElem?_nil, List.length_cons, List.length_nil, Nat.reduceAdd, Nat.reduceSub, Nat.add_zero, Nat.zero_add, Nat.sub_self, Nat.sub_zero])) ?_
  refine wS (v := (.sl 2 0 2 1 false)) (h' := [some ⟨5, x6.map (eI .u8)⟩, some ⟨5, x7.map (eI .u8)⟩, some ⟨5, [12, 3].map (eI .u8)⟩]) (sv (d_buildS rfl (bldL1 (xs := [12, 3].map (eI .u8)) ti22 ti5 (Nat.le_of_ble_eq_true rfl) (Nat.le_of_ble_eq_true rfl) rfl rfl rfl rfl rfl rfl rfl))) ?_
  refine wS (v := (.row none 1 (rest.map (eI .u8)))) (sv (d_move rfl)) ?_
  refine OpsW.ghost (Ghost.conv (fr' := [(0, (eI .u32 height)), (1, (.row none 1 (rest.map (eI .u8)))), (4, (.row (some true) 1 [])), (5, (eI .u32 height)), (6, (.sl 0 0 x6.length 1 false)), (7, (.row none 1 (x7.map (eI .u8)))), (8, (.sl 2 0 2 1 false)), (9, (.row none 1 (rest.map (eI .u8))))]) (h' := [some ⟨5, x6.map (eI .u8)⟩, none, some ⟨5, [12, 3].map (eI .u8)⟩]) (FCv.cons rfl (Conv.same (subB_sub rfl)) (FCv.cons rfl (Conv.same (subB_sub rfl)) (FCv.cons rfl (Conv.same (subB_sub rfl)) (FCv.cons rfl (Conv.same (subB_sub rfl)) (FCv.cons rfl (Conv.same (subB_sub rfl)) (FCv.cons rfl (Conv.row (subB_sub rfl) rfl rfl (all_mapE (fun _ => rfl)) (by first | rfl | (simp only [List.length_map, len_set, len_cpy]; done))) (FCv.cons rfl (Conv.same (subB_sub rfl)) (FCv.cons rfl (Conv.same (subB_sub rfl)) FCv.nil)))))))) (HCv.live (Convs.same (subB_sub rfl)) (all_map (fun _ => rfl) _) (HCv.dead (HCv.live (Convs.same (subB_sub rfl)) (all_map (fun _ => rfl) _) HCv.nil)))) ?_
  refine OpsW.ghost (Ghost.conv (fr' := [(0, (eI .u32 height)), (1, (.row none 1 (rest.map (eI .u8)))), (4, (.row (some true) 1 [])), (5, (eI .u32 height)), (6, (.sl 0 0 x6.length 1 false)), (7, (.row none 1 (x7.map (eI .u8)))), (8, (.row none 1 ([12, 3].map (eI .u8)))), (9, (.row none 1 (rest.map (eI .u8))))]) (h' := [some ⟨5, x6.map (eI .u8)⟩, none, none]) (FCv.cons rfl (Conv.same (subB_sub rfl)) (FCv.cons rfl (Conv.same (subB_sub rfl)) (FCv.cons rfl (Conv.same (subB_sub rfl)) (FCv.cons rfl (Conv.same (subB_sub rfl)) (FCv.cons rfl (Conv.same (subB_sub rfl)) (FCv.cons rfl (Conv.same (subB_sub rfl)) (FCv.cons rfl (Conv.row (subB_sub rfl) rfl rfl (all_mapE (fun _ => rfl)) (by first | rfl | (simp only [List.length_map, len_set, len_cpy]; done) | (rw [List.length_map]; exact Eq.symm rfl))) (FCv.cons rfl (Conv.same (subB_sub rfl)) FCv.nil)))))))) (HCv.live (Convs.same (subB_sub rfl)) (all_map (fun _ => rfl) _) (HCv.dead (HCv.dead HCv.nil)))) ?_
  refine wS (v := (.sl 3 0 3 1 false)) (h' := [some ⟨5, x6.map (eI .u8)⟩, none, none, some ⟨22, [x7, [12, 3], rest].map (eL 1 (eI .u8))⟩]) (sv (d_buildS rfl (bldL1 (xs := [x7, [12, 3], rest].map (eL 1 (eI .u8))) ti52 ti22 (Nat.le_of_ble_eq_true rfl) (Nat.le_of_ble_eq_true rfl) rfl rfl rfl rfl rfl rfl rfl))) ?_
  refine wC (v := (.sl 4 0 x11.length 1 false)) (h' := [some ⟨5, x6.map (eI .u8)⟩, none, none, some ⟨22, [x7, [12, 3], rest].map (eL 1 (eI .u8))⟩, some ⟨5, x11.map (eI .u8)⟩]) rfl (Vm.Fn.lendR (ref01_Join_ok N [x7, [12, 3], rest] x11 h_3) [] [3] (by decide) rfl (by decide) Lend.nil (Brw.row (exp_slT rfl rfl (fun _ => rfl)) Brw.nil) rfl (rfB.live (rfs_map (fun _ => rfl) _) rfB.nil) rfl (by simp only [lent, lendSet, lendSet_nil, rnH, Blk.rn, V.rns, V.rn, sg, List.map_cons, List.map_nil, Option.map_some, Option.map_none, List.drop_succ_cons, List.drop_zero, List.drop_nil, List.set_cons_zero, List.set_cons_succ, List.cons_append, List.nil_append, List.append_nil, rns_eI, rns_eB, rns_eS, rns_eL, rns_C_api_Op, List.getElem?_cons_zero, List.getElem?_cons_succ, List.getElem?_nil, List.length_cons, List.length_nil, Nat.reduceAdd, Nat.reduceSub, Nat.add_zero, Nat.zero_add, Nat.sub_self, Nat.sub_zero])) ?_
  refine wS (v := (.sl 4 0 x11.length 1 false)) (sv (d_assign rfl)) ?_
  refine OpsW.nil ?_
  refine Ex.then_mk ?_
  refine AB.ret ?_
  obtain rfl := Option.some.inj hr
  exact done_ret (r1 := (.sl 4 0 x11.length 1 false)) (res1 Tryd.results23 (rvT rfl)) (Ghost.trans (Ghost.conv (fr' := [(0, (.row none 1 (x11.map (eI .u8))))]) (h' := [some ⟨5, x6.map (eI .u8)⟩, none, none, some ⟨22, [x7, [12, 3], rest].map (eL 1 (eI .u8))⟩, none]) (FCv.cons rfl (Conv.row (subB_sub rfl) rfl rfl (all_mapE (fun _ => rfl)) (by first | rfl | (simp only [List.length_map, len_set, len_cpy]; done))) FCv.nil) (HCv.live (Convs.same (subB_sub rfl)) (all_map (fun _ => rfl) _) (HCv.dead (HCv.dead (HCv.live (Convs.same (subB_sub rfl)) (all_map (fun _ => rfl) _) (HCv.dead HCv.nil)))))) (Ghost.rn [] rfl rfl (FLe.same rfl FLe.nil) HLe.nil rfl))
set_option maxRecDepth 20000 in
set_option maxHeartbeats 1000000 in
theorem script_Older_ok (N : Nat) (age : Int) (rest : List Int) (r : (List Int)) (hr : script_Older N age rest = some r) :
    Vm.Fn Tryd.prog 24 [] [(eI .u32 age), (.row none 1 (rest.map (eI .u8)))] (.row none 1 (r.map (eI .u8))) [] := by
  refine fn_ab Tryd.func24 rfl (by kernel_rfl) Tryd.ntmps24 (Nat.le_of_ble_eq_true rfl) rfl (fr := [(0, (eI .u32 age)), (1, (.row none 1 (rest.map (eI .u8))))]) rfl ?_
  unfold script_Older at hr
  refine AB.seq ?_
  refine AB.rw ?_
  refine wS (v := (.row (some true) 1 [])) (sv (d_assign rfl)) ?_
  refine OpsW.nil ?_
  refine Ex.then_mk ?_
  refine AB.seq ?_
  replace hr := bnd hr; obtain ⟨x6, h_1, hr⟩ := hr
  replace hr := bnd hr; obtain ⟨x7, h_2, hr⟩ := hr
  replace hr := bnd hr; obtain ⟨x11, h_3, hr⟩ := hr
  refine AB.rw ?_
  refine wS (v := (eI .u32 age)) (sv (d_move rfl)) ?_
  refine wC (v := (.sl 0 0 x6.length 1 false)) (h' := [some ⟨5, x6.map (eI .u8)⟩]) rfl (Vm.Fn.lendB (script_Item_ok N age x6 h_1) [] (by decide) rfl Lend.nil rfl rfl (by simp only [lent, lendSet, lendSet_nil, rnH, Blk.rn, V.rns, V.rn, sg, List.map_cons, List.map_nil, Option.map_some, Option.map_none, List.drop_succ_cons, List.drop_zero, List.drop_nil, List.set_cons_zero, List.set_cons_succ, List.cons_append, List.nil_append, List.append_nil, rns_eI, rns_eB, rns_eS, rns_eL, rns_C_api_Op, List.getElem?_cons_zero, List.getElem?_cons_succ, List.getElem?_nil, List.length_cons, List.length_nil, Nat.reduceAdd, Nat.reduceSub, Nat.add_zero, Nat.zero_add, Nat.sub_self, Nat.sub_zero])) ?_
  refine wC (v := (.sl 1 0 x7.length 1 false)) (h' := [some ⟨5, x6.map (eI .u8)⟩, some ⟨5, x7.map (eI .u8)⟩]) rfl (Vm.Fn.lendR (script_push_ok N x6 x7 h_2) [] [0] (by decide) rfl (by decide) Lend.nil (Brw.row (exp_slT rfl rfl (fun _ => rfl)) Brw.nil) rfl (rfB.live (rfs_map (fun _ => rfl) _) rfB.nil) rfl (by simp only [lent, lendSet, lendSet_nil, rnH, Blk.rn, V.rns, V.rn, sg, List.map_cons, List.map_nil, Option.map_some, Option.map_none, List.drop_succ_cons, List.drop_zero, List.drop_nil, List.set_cons_zero, List.set_cons_succ, List.cons_append, List.nil_append, List.append_nil, rns_eI, rns_eB, rns_eS, rns_eL, rns_C_api_Op, List.getElem?_cons_zero, List.getElem?_cons_succ, List.getElem?_nil, List.length_cons, List.length_nil, Nat.reduceAdd, Nat.reduceSub, Nat.add_zero, Nat.zero_add, Nat.sub_self, Nat.sub_zero])) ?_
  refine wS (v := (.sl 2 0 2 1 false)) (h' := [some ⟨5, x6.map (eI .u8)⟩, some ⟨5, x7.map (eI .u8)⟩, some ⟨5, [13, 3].map (eI .u8)⟩]) (sv (d_buildS rfl (bldL1 (xs := [13, 3].map (eI .u8)) ti22 ti5 (Nat.le_of_ble_eq_true rfl) (Nat.le_of_ble_eq_true rfl) rfl rfl rfl rfl rfl rfl rfl))) ?_
  refine wS (v := (.row none 1 (rest.map (eI .u8)))) (sv (d_move rfl)) ?_
  refine OpsW.ghost (Ghost.conv (fr' := [(0, (eI .u32 age)), (1, (.row none 1 (rest.map (eI .u8)))), (4, (.row (some true) 1 [])), (5, (eI .u32 age)), (6, (.sl 0 0 x6.length 1 false)), (7, (.row none 1 (x7.map (eI .u8)))), (8, (.sl 2 0 2 1 false)), (9, (.row none 1 (rest.map (eI .u8))))]) (h' := [some ⟨5, x6.map (eI .u8)⟩, none, some ⟨5, [13, 3].map (eI .u8)⟩]) (FCv.cons rfl (Conv.same (subB_sub rfl)) (FCv.cons rfl (Conv.same (subB_sub rfl)) (FCv.cons rfl (Conv.same (subB_sub rfl)) (FCv.cons rfl (Conv.same (subB_sub rfl)) (FCv.cons rfl (Conv.same (subB_sub rfl)) (FCv.cons rfl (Conv.row (subB_sub rfl) rfl rfl (all_mapE (fun _ => rfl)) (by first | rfl | (simp only [List.length_map, len_set, len_cpy]; done))) (FCv.cons rfl (Conv.same (subB_sub rfl)) (FCv.cons rfl (Conv.same (subB_sub rfl)) FCv.nil)))))))) (HCv.live (Convs.same (subB_sub rfl)) (all_map (fun _ => rfl) _) (HCv.dead (HCv.live (Convs.same (subB_sub rfl)) (all_map (fun _ => rfl) _) HCv.nil)))) ?_
  refine OpsW.ghost (Ghost.conv (fr' := [(0, (eI .u32 age)), (1, (.row none 1 (rest.map (eI .u8)))), (4, (.row (some true) 1 [])), (5, (eI .u32 age)), (6, (.sl 0 0 x6.length 1 false)), (7, (.row none 1 (x7.map (eI .u8)))), (8, (.row none 1 ([13, 3].map (eI .u8)))), (9, (.row none 1 (rest.map (eI .u8))))]) (h' := [some ⟨5, x6.map (eI .u8)⟩, none, none]) (FCv.cons rfl (Conv.same (subB_sub rfl)) (FCv.cons rfl (Conv.same (subB_sub rfl)) (FCv.cons rfl (Conv.same (subB_sub rfl)) (FCv.cons rfl (Conv.same (subB_sub rfl)) (FCv.cons rfl (Conv.same (subB_sub rfl)) (FCv.cons rfl (Conv.same (subB_sub rfl)) (FCv.cons rfl (Conv.row (subB_sub rfl) rfl rfl (all_mapE (fun _ => rfl)) (by first | rfl | (simp only [List.length_map, len_set, len_cpy]; done) | (rw [List.length_map]; exact Eq.symm rfl))) (FCv.cons rfl (Conv.same (subB_sub rfl)) FCv.nil)))))))) (HCv.live (Convs.same (subB_sub rfl)) (all_map (fun _ => rfl) _) (HCv.dead (HCv.dead HCv.nil)))) ?_
  refine wS (v := (.sl 3 0 3 1 false)) (h' := [some ⟨5, x6.map (eI .u8)⟩, none, none, some ⟨22, [x7, [13, 3], rest].map (eL 1 (eI .u8))⟩]) (sv (d_buildS rfl (bldL1 (xs := [x7, [13, 3], rest].map (eL 1 (eI .u8))) ti52 ti22 (Nat.le_of_ble_eq_true rfl) (Nat.le_of_ble_eq_true rfl) rfl rfl rfl rfl rfl rfl rfl))) ?_
  refine wC (v := (.sl 4 0 x11.length 1 false)) (h' := [some ⟨5, x6.map (eI .u8)⟩, none, none, some ⟨22, [x7, [13, 3], rest].map (eL 1 (eI .u8))⟩, some ⟨5, x11.map (eI .u8)⟩]) rfl (Vm.Fn.lendR (script_row_ok N [x7, [13, 3], rest] x11 h_3) [] [3] (by decide) rfl (by decide) Lend.nil (Brw.row (exp_slT rfl rfl (fun _ => rfl)) Brw.nil) rfl (rfB.live (rfs_map (fun _ => rfl) _) rfB.nil) rfl (by simp only [lent, lendSet, lendSet_nil, rnH, Blk.rn, V.rns, V.rn, sg, List.map_cons, List.map_nil, Option.map_some, Option.map_none, List.drop_succ_cons, List.drop_zero, List.drop_nil, List.set_cons_zero, List.set_cons_succ, List.cons_append, List.nil_append, List.append_nil, rns_eI, rns_eB, rns_eS, rns_eL, rns_C_api_Op, List.getElem?_cons_zero, List.getElem?_cons_succ, List.getElem?_nil, List.length_cons, List.length_nil, Nat.reduceAdd, Nat.reduceSub, Nat.add_zero, Nat.zero_add, Nat.sub_self, Nat.sub_zero])) ?_
  refine wS (v := (.sl 4 0 x11.length 1 false)) (sv (d_assign rfl)) ?_
  refine OpsW.nil ?_
  refine Ex.then_mk ?_
  refine AB.ret ?_
  obtain rfl := Option.some.inj hr
  exact done_ret (r1 := (.sl 4 0 x11.length 1 false)) (res1 Tryd.results24 (rvT rfl)) (Ghost.trans (Ghost.conv (fr' := [(0, (.row none 1 (x11.map (eI .u8))))]) (h' := [some ⟨5, x6.map (eI .u8)⟩, none, none, some ⟨22, [x7, [13, 3], rest].map (eL 1 (eI .u8))⟩, none]) (FCv.cons rfl (Conv.row (subB_sub rfl) rfl rfl (all_mapE (fun _ => rfl)) (by first | rfl | (simp only [List.length_map, len_set, len_cpy]; done))) FCv.nil) (HCv.live (Convs.same (subB_sub rfl)) (all_map (fun _ => rfl) _) (HCv.dead (HCv.dead (HCv.live (Convs.same (subB_sub rfl)) (all_map (fun _ => rfl) _) (HCv.dead HCv.nil)))))) (Ghost.rn [] rfl rfl (FLe.same rfl FLe.nil) HLe.nil rfl))
set_option maxRecDepth 20000 in
set_option maxHeartbeats 1000000 in
theorem ref08_Older_ok (N : Nat) (age : Int) (rest : List Int) (r : (List Int)) (hr : ref08_Older N age rest = some r) :
    Vm.Fn Tryd.prog 25 [] [(eI .u32 age), (.row none 1 (rest.map (eI .u8)))] (.row none 1 (r.map (eI .u8))) [] := by
  refine fn_ab Tryd.func25 rfl (by kernel_rfl) Tryd.ntmps25 (Nat.le_of_ble_eq_true rfl) rfl (fr := [(0, (eI .u32 age)), (1, (.row none 1 (rest.map (eI .u8))))]) rfl ?_
  unfold ref08_Older at hr
  refine AB.seq ?_
  refine AB.rw ?_
  refine wS (v := (.row (some true) 1 [])) (sv (d_assign rfl)) ?_
  refine OpsW.nil ?_
  refine Ex.then_mk ?_
  refine AB.seq ?_
  replace hr := bnd hr; obtain ⟨x6, h_1, hr⟩ := hr
  replace hr := bnd hr; obtain ⟨x7, h_2, hr⟩ := hr
  replace hr := bnd hr; obtain ⟨x11, h_3, hr⟩ := hr
  refine AB.rw ?_
  refine wS (v := (eI .u32 age)) (sv (d_move rfl)) ?_
  refine wC (v := (.sl 0 0 x6.length 1 false)) (h' := [some ⟨5, x6.map (eI .u8)⟩]) rfl (Vm.Fn.lendB (ref08_Item_ok N age x6 h_1) [] (by decide) rfl Lend.nil rfl rfl (by simp only [lent, lendSet, lendSet_nil, rnH, Blk.rn, V.rns, V.rn, sg, List.map_cons, List.map_nil, Option.map_some, Option.map_none, List.drop_succ_cons, List.drop_zero, List.drop_nil, List.set_cons_zero, List.set_cons_succ, List.cons_append, List.nil_append, List.append_nil, rns_eI, rns_eB, rns_eS, rns_eL, rns_C_api_Op, List.getElem?_cons_zero, List.getElem?_cons_succ, List.getElem?_nil, List.length_cons, List.length_nil, Nat.reduceAdd, Nat.reduceSub, Nat.add_zero, Nat.zero_add, Nat.sub_self, Nat.sub_zero])) ?_
  refine wC (v := (.sl 1 0 x7.length 1 false)) (h' := [some ⟨5, x6.map (eI .u8)⟩, some ⟨5, x7.map (eI .u8)⟩]) rfl (Vm.Fn.lendR (ref08_push_ok N x6 x7 h_2) [] [0] (by decide) rfl (by decide) Lend.nil (Brw.row (exp_slT rfl rfl (fun _ => rfl)) Brw.nil) rfl (rfB.live (rfs_map (fun _ => rfl) _) rfB.nil) rfl (by simp only [lent, lendSet, lendSet_nil, rnH, Blk.rn, V.rns, V.rn, sg, List.map_cons, List.map_nil, Option.map_some, Option.map_none, List.drop_succ_cons, List.drop_zero, List.drop_nil, List.set_cons_zero, List.set_cons_succ, List.cons_append, List.nil_append, List.append_nil, rns_eI, rns_eB, rns_eS, rns_eL, rns_C_api_Op, List.getElem?_cons_zero, List.getElem?_cons_succ, List.getElem?_nil, List.length_cons, List.length_nil, Nat.reduceAdd, Nat.reduceSub, Nat.add_zero, Nat.zero_add, Nat.sub_self, Nat.sub_zero])) ?_
  refine wS (v := (.sl 2 0 2 1 false)) (h' := [some ⟨5, x6.map (eI .u8)⟩, some ⟨5, x7.map (eI .u8)⟩, some ⟨5, [13, 3].map (eI .u8)⟩]) (sv (d_buildS rfl (bldL1 (xs := [13, 3].map (eI .u8)) ti22 ti5 (Nat.le_of_ble_eq_true rfl) (Nat.le_of_ble_eq_true rfl) rfl rfl rfl rfl rfl rfl rfl))) ?_
  refine wS (v := (.row none 1 (rest.map (eI .u8)))) (sv (d_move rfl)) ?_
  refine OpsW.ghost (Ghost.conv (fr' := [(0, (eI .u32 age)), (1, (.row none 1 (rest.map (eI .u8)))), (4, (.row (some true) 1 [])), (5, (eI .u32 age)), (6, (.sl 0 0 x6.length 1 false)), (7, (.row none 1 (x7.map (eI .u8)))), (8, (.sl 2 0 2 1 false)), (9, (.row none 1 (rest.map (eI .u8))))]) (h' := [some ⟨5, x6.map (eI .u8)⟩, none, some ⟨5, [13, 3].map (eI .u8)⟩]) (FCv.cons rfl (Conv.same (subB_sub rfl)) (FCv.cons rfl (Conv.same (subB_sub rfl)) (FCv.cons rfl (Conv.same (subB_sub rfl)) (FCv.cons rfl (Conv.same (subB_sub rfl)) (FCv.cons rfl (Conv.same (subB_sub rfl)) (FCv.cons rfl (Conv.row (subB_sub rfl) rfl rfl (all_mapE (fun _ => rfl)) (by first | rfl | (simp only [List.length_map, len_set, len_cpy]; done))) (FCv.cons rfl (Conv.same (subB_sub rfl)) (FCv.cons rfl (Conv.same (subB_sub rfl)) FCv.nil)))))))) (HCv.live (Convs.same (subB_sub rfl)) (all_map (fun _ => rfl) _) (HCv.dead (HCv.live (Convs.same (subB_sub rfl)) (all_map (fun _ => rfl) _) HCv.nil)))) ?_
  refine OpsW.ghost (Ghost.conv (fr' := [(0, (eI .u32 age)), (1, (.row none 1 (rest.map (eI .u8)))), (4, (.row (some true) 1 [])), (5, (eI .u32 age)), (6, (.sl 0 0 x6.length 1 false)), (7, (.row none 1 (x7.map (eI .u8)))), (8, (.row none 1 ([13, 3].map (eI .u8)))), (9, (.row none 1 (rest.map (eI .u8))))]) (h' := [some ⟨5, x6.map (eI .u8)⟩, none, none]) (FCv.cons rfl (Conv.same (subB_sub rfl)) (FCv.cons rfl (Conv.same (subB_sub rfl)) (FCv.cons rfl (Conv.same (subB_sub rfl)) (FCv.cons rfl (Conv.same (subB_sub rfl)) (FCv.cons rfl (Conv.same (subB_sub rfl)) (FCv.cons rfl (Conv.same (subB_sub rfl)) (FCv.cons rfl (Conv.row (subB_sub rfl) rfl rfl (all_mapE (fun _ => rfl)) (by first | rfl | (simp only [List.length_map, len_set, len_cpy]; done) | (rw [List.length_map]; exact Eq.symm rfl))) (FCv.cons rfl (Conv.same (subB_sub rfl)) FCv.nil)))))))) (HCv.live (Convs.same (subB_sub rfl)) (all_map (fun _ => rfl) _) (HCv.dead (HCv.dead HCv.nil)))) ?_
  refine wS (v := (.sl 3 0 3 1 false)) (h' := [some ⟨5, x6.map (eI .u8)⟩, none, none, some ⟨22, [x7, [13, 3], rest].map (eL 1 (eI .u8))⟩]) (sv (d_buildS rfl (bldL1 (xs := [x7, [13, 3], rest].map (eL 1 (eI .u8))) ti52 ti22 (Nat.le_of_ble_eq_true rfl) (Nat.le_of_ble_eq_true rfl) rfl rfl rfl rfl rfl rfl rfl))) ?_
  refine wC (v := (.sl 4 0 x11.length 1 false)) (h' := [some ⟨5, x6.map (eI .u8)⟩, none, none, some ⟨22, [x7, [13, 3], rest].map (eL 1 (eI .u8))⟩, some ⟨5, x11.map (eI .u8)⟩]) rfl (Vm.Fn.lendR (ref01_Join_ok N [x7, [13, 3], rest] x11 h_3) [] [3] (by decide) rfl (by decide) Lend.nil (Brw.row (exp_slT rfl rfl (fun _ => rfl)) Brw.nil) rfl (rfB.live (rfs_map (fun _ => rfl) _) rfB.nil) rfl (by simp only [lent, lendSet, lendSet_nil, rnH, Blk.rn, V.rns, V.rn, sg, List.map_cons, List.map_nil, Option.map_some, Option.map_none, List.drop_succ_cons, List.drop_zero, List.drop_nil, List.set_cons_zero, List.set_cons_succ, List.cons_append, List.nil_append, List.append_nil, rns_eI, rns_eB, rns_eS, rns_eL, rns_C_api_Op, List.getElem?_cons_zero, List.getElem?_cons_succ, List.getElem?_nil, List.length_cons, List.length_nil, Nat.reduceAdd, Nat.reduceSub, Nat.add_zero, Nat.zero_add, Nat.sub_self, Nat.sub_zero])) ?_
  refine wS (v := (.sl 4 0 x11.length 1 false)) (sv (d_assign rfl)) ?_
  refine OpsW.nil ?_
  refine Ex.then_mk ?_
  refine AB.ret ?_
  obtain rfl := Option.some.inj hr
  exact done_ret (r1 := (.sl 4 0 x11.length 1 false)) (res1 Tryd.results25 (rvT rfl)) (Ghost.trans (Ghost.conv (fr' := [(0, (.row none 1 (x11.map (eI .u8))))]) (h' := [some ⟨5, x6.map (eI .u8)⟩, none, none, some ⟨22, [x7, [13, 3], rest].map (eL 1 (eI .u8))⟩, none]) (FCv.cons rfl (Conv.row (subB_sub rfl) rfl rfl (all_mapE (fun _ => rfl)) (by first | rfl | (simp only [List.length_map, len_set, len_cpy]; done))) FCv.nil) (HCv.live (Convs.same (subB_sub rfl)) (all_map (fun _ => rfl) _) (HCv.dead (HCv.dead (HCv.live (Convs.same (subB_sub rfl)) (all_map (fun _ => rfl) _) (HCv.dead HCv.nil)))))) (Ghost.rn [] rfl rfl (FLe.same rfl FLe.nil) HLe.nil rfl))
set_option maxRecDepth 20000 in
set_option maxHeartbeats 1000000 in
theorem script_Hashed_ok (N : Nat) (vh : List Int) (rest : List Int) (r : (List Int)) (hr : script_Hashed N vh rest = some r) :
    Vm.Fn Tryd.prog 26 [] [(.agg (vh.map (eI .u8))), (.row none 1 (rest.map (eI .u8)))] (.row none 1 (r.map (eI .u8))) [] := by
  refine fn_ab Tryd.func26 rfl (by kernel_rfl) Tryd.ntmps26 (Nat.le_of_ble_eq_true rfl) rfl (fr := [(0, (.agg (vh.map (eI .u8)))), (1, (.row none 1 (rest.map (eI .u8))))]) rfl ?_
  unfold script_Hashed at hr
  refine AB.seq ?_
  refine AB.rw ?_
  refine wS (v := (.ptr 0 0)) (h' := [some ⟨42, vh.map (eI .u8)⟩]) (sv (d_box rfl (flatA (fun _ => rfl)) rfl rfl)) ?_
  refine wS (v := (.row (some true) 1 [])) (sv (d_assign rfl)) ?_
  refine OpsW.nil ?_
  refine Ex.then_mk ?_
  refine AB.seq ?_
  replace hr := bnd hr; obtain ⟨q, h_1, hr⟩ := hr
  replace hr := bnd hr; obtain ⟨x7, h_2, hr⟩ := hr
  replace hr := bnd hr; obtain ⟨x11, h_3, hr⟩ := hr
  refine AB.rw ?_
  refine wS (v := (.sl 1 0 1 1 false)) (h' := [some ⟨42, vh.map (eI .u8)⟩, some ⟨5, [8].map (eI .u8)⟩]) (sv (d_buildS rfl (bldL1 (xs := [8].map (eI .u8)) ti22 ti5 (Nat.le_of_ble_eq_true rfl) (Nat.le_of_ble_eq_true rfl) rfl rfl rfl rfl rfl rfl rfl))) ?_
  refine wS (v := (.sl 0 0 32 1 false)) (sv (d_slice rfl rfl rfl (slA (E := (eI .u8)) (l := vh) ti42 ti5 rfl rfl rfl (arr_len h_1) ⟨Nat.le_of_ble_eq_true rfl, Nat.le_of_ble_eq_true rfl⟩))) ?_
  refine wC (v := (.sl 2 0 x7.length 1 false)) (h' := [some ⟨42, vh.map (eI .u8)⟩, some ⟨5, [8].map (eI .u8)⟩, some ⟨5, x7.map (eI .u8)⟩]) rfl (Vm.Fn.lendR (script_push_ok N vh x7 h_2) [] [0] (by decide) rfl (by decide) Lend.nil (Brw.row (exp_slT (arr_len h_1) rfl (fun _ => rfl)) Brw.nil) rfl (rfB.live (rfs_map (fun _ => rfl) _) rfB.nil) rfl (by simp only [lent, lendSet, lendSet_nil, rnH, Blk.rn, V.rns, V.rn, sg, List.map_cons, List.map_nil, Option.map_some, Option.map_none, List.drop_succ_cons, List.drop_zero, List.drop_nil, List.set_cons_zero, List.set_cons_succ, List.cons_append, List.nil_append, List.append_nil, rns_eI, rns_eB, rns_eS, rns_eL, rns_C_api_Op, List.getElem?_cons_zero, List.getElem?_cons_succ, List.getElem?_nil, List.length_cons, List.length_nil, Nat.reduceAdd, Nat.reduceSub, Nat.add_zero, Nat.zero_add, Nat.sub_self, Nat.sub_zero])) ?_
  refine wS (v := (.sl 3 0 2 1 false)) (h' := [some ⟨42, vh.map (eI .u8)⟩, some ⟨5, [8].map (eI .u8)⟩, some ⟨5, x7.map (eI .u8)⟩, some ⟨5, [5, 7].map (eI .u8)⟩]) (sv (d_buildS rfl (bldL1 (xs := [5, 7].map (eI .u8)) ti22 ti5 (Nat.le_of_ble_eq_true rfl) (Nat.le_of_ble_eq_true rfl) rfl rfl rfl rfl rfl rfl rfl))) ?_
  refine wS (v := (.row none 1 (rest.map (eI .u8)))) (sv (d_move rfl)) ?_
  refine OpsW.ghost (Ghost.conv (fr' := [(0, (.agg (vh.map (eI .u8)))), (1, (.row none 1 (rest.map (eI .u8)))), (2, (.ptr 0 0)), (4, (.row (some true) 1 [])), (5, (.row none 1 ([8].map (eI .u8)))), (6, (.sl 0 0 32 1 false)), (7, (.sl 2 0 x7.length 1 false)), (8, (.sl 3 0 2 1 false)), (9, (.row none 1 (rest.map (eI .u8))))]) (h' := [some ⟨42, vh.map (eI .u8)⟩, none, some ⟨5, x7.map (eI .u8)⟩, some ⟨5, [5, 7].map (eI .u8)⟩]) (FCv.cons rfl (Conv.same (subB_sub rfl)) (FCv.cons rfl (Conv.same (subB_sub rfl)) (FCv.cons rfl (Conv.same (subB_sub rfl)) (FCv.cons rfl (Conv.same (subB_sub rfl)) (FCv.cons rfl (Conv.row (subB_sub rfl) rfl rfl (all_mapE (fun _ => rfl)) (by first | rfl | (simp only [List.length_map, len_set, len_cpy]; done) | (rw [List.length_map]; exact Eq.symm rfl))) (FCv.cons rfl (Conv.same (subB_sub rfl)) (FCv.cons rfl (Conv.same (subB_sub rfl)) (FCv.cons rfl (Conv.same (subB_sub rfl)) (FCv.cons rfl (Conv.same (subB_sub rfl)) FCv.nil))))))))) (HCv.live (Convs.same (subB_sub rfl)) (all_map (fun _ => rfl) _) (HCv.dead (HCv.live (Convs.same (subB_sub rfl)) (all_map (fun _ => rfl) _) (HCv.live (Convs.same (subB_sub rfl)) (all_map (fun _ => rfl) _) HCv.nil))))) ?_
  refine OpsW.ghost (Ghost.conv (fr' := [(0, (.agg (vh.map (eI .u8)))), (1, (.row none 1 (rest.map (eI .u8)))), (2, (.ptr 0 0)), (4, (.row (some true) 1 [])), (5, (.row none 1 ([8].map (eI .u8)))), (6, (.sl 0 0 32 1 false)), (7, (.row none 1 (x7.map (eI .u8)))), (8, (.sl 3 0 2 1 false)), (9, (.row none 1 (rest.map (eI .u8))))]) (h' := [some ⟨42, vh.map (eI .u8)⟩, none, none, some ⟨5, [5, 7].map (eI .u8)⟩]) (FCv.cons rfl (Conv.same (subB_sub rfl)) (FCv.cons rfl (Conv.same (subB_sub rfl)) (FCv.cons rfl (Conv.same (subB_sub rfl)) (FCv.cons rfl (Conv.same (subB_sub rfl)) (FCv.cons rfl (Conv.same (subB_sub rfl)) (FCv.cons rfl (Conv.same (subB_sub rfl)) (FCv.cons rfl (Conv.row (subB_sub rfl) rfl rfl (all_mapE (fun _ => rfl)) (by first | rfl | (simp only [List.length_map, len_set, len_cpy]; done))) (FCv.cons rfl (Conv.same (subB_sub rfl)) (FCv.cons rfl (Conv.same (subB_sub rfl)) FCv.nil))))))))) (HCv.live (Convs.same (subB_sub rfl)) (all_map (fun _ => rfl) _) (HCv.dead (HCv.dead (HCv.live (Convs.same (subB_sub rfl)) (all_map (fun _ => rfl) _) HCv.nil))))) ?_
  refine OpsW.ghost (Ghost.conv (fr' := [(0, (.agg (vh.map (eI .u8)))), (1, (.row none 1 (rest.map (eI .u8)))), (2, (.ptr 0 0)), (4, (.row (some true) 1 [])), (5, (.row none 1 ([8].map (eI .u8)))), (6, (.sl 0 0 32 1 false)), (7, (.row none 1 (x7.map (eI .u8)))), (8, (.row none 1 ([5, 7].map (eI .u8)))), (9, (.row none 1 (rest.map (eI .u8))))]) (h' := [some ⟨42, vh.map (eI .u8)⟩, none, none, none]) (FCv.cons rfl (Conv.same (subB_sub rfl)) (FCv.cons rfl (Conv.same (subB_sub rfl)) (FCv.cons rfl (Conv.same (subB_sub rfl)) (FCv.cons rfl (Conv.same (subB_sub rfl)) (FCv.cons rfl (Conv.same (subB_sub rfl)) (FCv.cons rfl (Conv.same (subB_sub rfl)) (FCv.cons rfl (Conv.same (subB_sub rfl)) (FCv.cons rfl (Conv.row (subB_sub rfl) rfl rfl (all_mapE (fun _ => rfl)) (by first | rfl | (simp only [List.length_map, len_set, len_cpy]; done) | (rw [List.length_map]; exact Eq.symm rfl))) (FCv.cons rfl (Conv.same (subB_sub rfl)) FCv.nil))))))))) (HCv.live (Convs.same (subB_sub rfl)) (all_map (fun _ => rfl) _) (HCv.dead (HCv.dead (HCv.dead HCv.nil))))) ?_
  refine wS (v := (.sl 4 0 4 1 false)) (h' := [some ⟨42, vh.map (eI .u8)⟩, none, none, none, some ⟨22, [[8], x7, [5, 7], rest].map (eL 1 (eI .u8))⟩]) (sv (d_buildS rfl (bldL1 (xs := [[8], x7, [5, 7], rest].map (eL 1 (eI .u8))) ti52 ti22 (Nat.le_of_ble_eq_true rfl) (Nat.le_of_ble_eq_true rfl) rfl rfl rfl rfl rfl rfl rfl))) ?_
  refine wC (v := (.sl 5 0 x11.length 1 false)) (h' := [some ⟨42, vh.map (eI .u8)⟩, none, none, none, some ⟨22, [[8], x7, [5, 7], rest].map (eL 1 (eI .u8))⟩, some ⟨5, x11.map (eI .u8)⟩]) rfl (Vm.Fn.lendR (script_row_ok N [[8], x7, [5, 7], rest] x11 h_3) [] [4] (by decide) rfl (by decide) Lend.nil (Brw.row (exp_slT rfl rfl (fun _ => rfl)) Brw.nil) rfl (rfB.live (rfs_map (fun _ => rfl) _) rfB.nil) rfl (by simp only [lent, lendSet, lendSet_nil, rnH, Blk.rn, V.rns, V.rn, sg, List.map_cons, List.map_nil, Option.map_some, Option.map_none, List.drop_succ_cons, List.drop_zero, List.drop_nil, List.set_cons_zero, List.set_cons_succ, List.cons_append, List.nil_append, List.append_nil, rns_eI, rns_eB, rns_eS, rns_eL, rns_C_api_Op, List.getElem?_cons_zero, List.getElem?_cons_succ, List.getElem?_nil, List.length_cons, List.length_nil, Nat.reduceAdd, Nat.reduceSub, Nat.add_zero, Nat.zero_add, Nat.sub_self, Nat.sub_zero])) ?_
  refine wS (v := (.sl 5 0 x11.length 1 false)) (sv (d_assign rfl)) ?_
  refine OpsW.nil ?_
  refine Ex.then_mk ?_
  refine AB.ret ?_
  obtain rfl := Option.some.inj hr
  exact done_ret (r1 := (.sl 5 0 x11.length 1 false)) (res1 Tryd.results26 (rvT rfl)) (Ghost.trans (Ghost.conv (fr' := [(0, (.row none 1 (x11.map (eI .u8))))]) (h' := [some ⟨42, vh.map (eI .u8)⟩, none, none, none, some ⟨22, [[8], x7, [5, 7], rest].map (eL 1 (eI .u8))⟩, none]) (FCv.cons rfl (Conv.row (subB_sub rfl) rfl rfl (all_mapE (fun _ => rfl)) (by first | rfl | (simp only [List.length_map, len_set, len_cpy]; done))) FCv.nil) (HCv.live (Convs.same (subB_sub rfl)) (all_map (fun _ => rfl) _) (HCv.dead (HCv.dead (HCv.dead (HCv.live (Convs.same (subB_sub rfl)) (all_map (fun _ => rfl) _) (HCv.dead HCv.nil))))))) (Ghost.rn [] rfl rfl (FLe.same rfl FLe.nil) HLe.nil rfl))
set_option maxRecDepth 20000 in
set_option maxHeartbeats 1000000 in
theorem ref08_Hashed_ok (N : Nat) (vh : List Int) (rest : List Int) (r : (List Int)) (hr : ref08_Hashed N vh rest = some r) :
    Vm.Fn Tryd.prog 27 [] [(.agg (vh.map (eI .u8))), (.row none 1 (rest.map (eI .u8)))] (.row none 1 (r.map (eI .u8))) [] := by
  refine fn_ab Tryd.func27 rfl (by kernel_rfl) Tryd.ntmps27 (Nat.le_of_ble_eq_true rfl) rfl (fr := [(0, (.agg (vh.map (eI .u8)))), (1, (.row none 1 (rest.map (eI .u8))))]) rfl ?_
  unfold ref08_Hashed at hr
  refine AB.seq ?_
  refine AB.rw ?_
  refine wS (v := (.ptr 0 0)) (h' := [some ⟨42, vh.map (eI .u8)⟩]) (sv (d_box rfl (flatA (fun _ => rfl)) rfl rfl)) ?_
  refine wS (v := (.row (some true) 1 [])) (sv (d_assign rfl)) ?_
  refine OpsW.nil ?_
  refine Ex.then_mk ?_
  refine AB.seq ?_
  replace hr := bnd hr; obtain ⟨q, h_1, hr⟩ := hr
  replace hr := bnd hr; obtain ⟨x7, h_2, hr⟩ := hr
  replace hr := bnd hr; obtain ⟨x11, h_3, hr⟩ := hr
  refine AB.rw ?_
  refine wS (v := (.sl 1 0 1 1 false)) (h' := [some ⟨42, vh.map (eI .u8)⟩, some ⟨5, [8].map (eI .u8)⟩]) (sv (d_buildS rfl (bldL1 (xs := [8].map (eI .u8)) ti22 ti5 (Nat.le_of_ble_eq_true rfl) (Nat.le_of_ble_eq_true rfl) rfl rfl rfl rfl rfl rfl rfl))) ?_
  refine wS (v := (.sl 0 0 32 1 false)) (sv (d_slice rfl rfl rfl (slA (E := (eI .u8)) (l := vh) ti42 ti5 rfl rfl rfl (arr_len h_1) ⟨Nat.le_of_ble_eq_true rfl, Nat.le_of_ble_eq_true rfl⟩))) ?_
  refine wC (v := (.sl 2 0 x7.length 1 false)) (h' := [some ⟨42, vh.map (eI .u8)⟩, some ⟨5, [8].map (eI .u8)⟩, some ⟨5, x7.map (eI .u8)⟩]) rfl (Vm.Fn.lendR (ref08_push_ok N vh x7 h_2) [] [0] (by decide) rfl (by decide) Lend.nil (Brw.row (exp_slT (arr_len h_1) rfl (fun _ => rfl)) Brw.nil) rfl (rfB.live (rfs_map (fun _ => rfl) _) rfB.nil) rfl (by simp only [lent, lendSet, lendSet_nil, rnH, Blk.rn, V.rns, V.rn, sg, List.map_cons, List.map_nil, Option.map_some, Option.map_none, List.drop_succ_cons, List.drop_zero, List.drop_nil, List.set_cons_zero, List.set_cons_succ, List.cons_append, List.nil_append, List.append_nil, rns_eI, rns_eB, rns_eS, rns_eL, rns_C_api_Op, List.getElem?_cons_zero, List.getElem?_cons_succ, List.getElem?_nil, List.length_cons, List.length_nil, Nat.reduceAdd, Nat.reduceSub, Nat.add_zero, Nat.zero_add, Nat.sub_self, Nat.sub_zero])) ?_
  refine wS (v := (.sl 3 0 2 1 false)) (h' := [some ⟨42, vh.map (eI .u8)⟩, some ⟨5, [8].map (eI .u8)⟩, some ⟨5, x7.map (eI .u8)⟩, some ⟨5, [5, 7].map (eI .u8)⟩]) (sv (d_buildS rfl (bldL1 (xs := [5, 7].map (eI .u8)) ti22 ti5 (Nat.le_of_ble_eq_true rfl) (Nat.le_of_ble_eq_true rfl) rfl rfl rfl rfl rfl rfl rfl))) ?_
  refine wS (v := (.row none 1 (rest.map (eI .u8)))) (sv (d_move rfl)) ?_
  refine OpsW.ghost (Ghost.conv (fr' := [(0, (.agg (vh.map (eI .u8)))), (1, (.row none 1 (rest.map (eI .u8)))), (2, (.ptr 0 0)), (4, (.row (some true) 1 [])), (5, (.row none 1 ([8].map (eI .u8)))), (6, (.sl 0 0 32 1 false)), (7, (.sl 2 0 x7.length 1 false)), (8, (.sl 3 0 2 1 false)), (9, (.row none 1 (rest.map (eI .u8))))]) (h' := [some ⟨42, vh.map (eI .u8)⟩, none, some ⟨5, x7.map (eI .u8)⟩, some ⟨5, [5, 7].map (eI .u8)⟩]) (FCv.cons rfl (Conv.same (subB_sub rfl)) (FCv.cons rfl (Conv.same (subB_sub rfl)) (FCv.cons rfl (Conv.same (subB_sub rfl)) (FCv.cons rfl (Conv.same (subB_sub rfl)) (FCv.cons rfl (Conv.row (subB_sub rfl) rfl rfl (all_mapE (fun _ => rfl)) (by first | rfl | (simp only [List.length_map, len_set, len_cpy]; done) | (rw [List.length_map]; exact Eq.symm rfl))) (FCv.cons rfl (Conv.same (subB_sub rfl)) (FCv.cons rfl (Conv.same (subB_sub rfl)) (FCv.cons rfl (Conv.same (subB_sub rfl)) (FCv.cons rfl (Conv.same (subB_sub rfl)) FCv.nil))))))))) (HCv.live (Convs.same (subB_sub rfl)) (all_map (fun _ => rfl) _) (HCv.dead (HCv.live (Convs.same (subB_sub rfl)) (all_map (fun _ => rfl) _) (HCv.live (Convs.same (subB_sub rfl)) (all_map (fun _ => rfl) _) HCv.nil))))) ?_
  refine OpsW.ghost (Ghost.conv (fr' := [(0, (.agg (vh.map (eI .u8)))), (1, (.row none 1 (rest.map (eI .u8)))), (2, (.ptr 0 0)), (4, (.row (some true) 1 [])), (5, (.row none 1 ([8].map (eI .u8)))), (6, (.sl 0 0 32 1 false)), (7, (.row none 1 (x7.map (eI .u8)))), (8, (.sl 3 0 2 1 false)), (9, (.row none 1 (rest.map (eI .u8))))]) (h' := [some ⟨42, vh.map (eI .u8)⟩, none, none, some ⟨5, [5, 7].map (eI .u8)⟩]) (FCv.cons rfl (Conv.same (subB_sub rfl)) (FCv.cons rfl (Conv.same (subB_sub rfl)) (FCv.cons rfl (Conv.same (subB_sub rfl)) (FCv.cons rfl (Conv.same (subB_sub rfl)) (FCv.cons rfl (Conv.same (subB_sub rfl)) (FCv.cons rfl (Conv.same (subB_sub rfl)) (FCv.cons rfl (Conv.row (subB_sub rfl) rfl rfl (all_mapE (fun _ => rfl)) (by first | rfl | (simp only [List.length_map, len_set, len_cpy]; done))) (FCv.cons rfl (Conv.same (subB_sub rfl)) (FCv.cons rfl (Conv.same (subB_sub rfl)) FCv.nil))))))))) (HCv.live (Convs.same (subB_sub rfl)) (all_map (fun _ => rfl) _) (HCv.dead (HCv.dead (HCv.live (Convs.same (subB_sub rfl)) (all_map (fun _ => rfl) _) HCv.nil))))) ?_
  refine OpsW.ghost (Ghost.conv (fr' := [(0, (.agg (vh.map (eI .u8)))), (1, (.row none 1 (rest.map (eI .u8)))), (2, (.ptr 0 0)), (4, (.row (some true) 1 [])), (5, (.row none 1 ([8].map (eI .u8)))), (6, (.sl 0 0 32 1 false)), (7, (.row none 1 (x7.map (eI .u8)))), (8, (.row none 1 ([5, 7].map (eI .u8)))), (9, (.row none 1 (rest.map (eI .u8))))]) (h' := [some ⟨42, vh.map (eI .u8)⟩, none, none, none]) (FCv.cons rfl (Conv.same (subB_sub rfl)) (FCv.cons rfl (Conv.same (subB_sub rfl)) (FCv.cons rfl (Conv.same (subB_sub rfl)) (FCv.cons rfl (Conv.same (subB_sub rfl)) (FCv.cons rfl (Conv.same (subB_sub rfl)) (FCv.cons rfl (Conv.same (subB_sub rfl)) (FCv.cons rfl (Conv.same (subB_sub rfl)) (FCv.cons rfl (Conv.row (subB_sub rfl) rfl rfl (all_mapE (fun _ => rfl)) (by first | rfl | (simp only [List.length_map, len_set, len_cpy]; done) | (rw [List.length_map]; exact Eq.symm rfl))) (FCv.cons rfl (Conv.same (subB_sub rfl)) FCv.nil))))))))) (HCv.live (Convs.same (subB_sub rfl)) (all_map (fun _ => rfl) _) (HCv.dead (HCv.dead (HCv.dead HCv.nil))))) ?_
  refine wS (v := (.sl 4 0 4 1 false)) (h' := [some ⟨42, vh.map (eI .u8)⟩, none, none, none, some ⟨22, [[8], x7, [5, 7], rest].map (eL 1 (eI .u8))⟩]) (sv (d_buildS rfl (bldL1 (xs := [[8], x7, [5, 7], rest].map (eL 1 (eI .u8))) ti52 ti22 (Nat.le_of_ble_eq_true rfl) (Nat.le_of_ble_eq_true rfl) rfl rfl rfl rfl rfl rfl rfl))) ?_
  refine wC (v := (.sl 5 0 x11.length 1 false)) (h' := [some ⟨42, vh.map (eI .u8)⟩, none, none, none, some ⟨22, [[8], x7, [5, 7], rest].map (eL 1 (eI .u8))⟩, some ⟨5, x11.map (eI .u8)⟩]) rfl (Vm.Fn.lendR (ref01_Join_ok N [[8], x7, [5, 7], rest] x11 h_3) [] [4] (by decide) rfl (by decide) Lend.nil (Brw.row (exp_slT rfl rfl (fun _ => rfl)) Brw.nil) rfl (rfB.live (rfs_map (fun _ => rfl) _) rfB.nil) rfl (by simp only [lent, lendSet, lendSet_nil, rnH, Blk.rn, V.rns, V.rn, sg, List.map_cons, List.map_nil, Option.map_some, Option.map_none, List.drop_succ_cons, List.drop_zero, List.drop_nil, List.set_cons_zero, List.set_cons_succ, List.cons_append, List.nil_append, List.append_nil, rns_eI, rns_eB, rns_eS, rns_eL, rns_C_api_Op, List.getElem?_cons_zero, List.getElem?_cons_succ, List.getElem?_nil, List.length_cons, List.length_nil, Nat.reduceAdd, Nat.reduceSub, Nat.add_zero, Nat.zero_add, Nat.sub_self, Nat.sub_zero])) ?_
  refine wS (v := (.sl 5 0 x11.length 1 false)) (sv (d_assign rfl)) ?_
  refine OpsW.nil ?_
  refine Ex.then_mk ?_
  refine AB.ret ?_
  obtain rfl := Option.some.inj hr
  exact done_ret (r1 := (.sl 5 0 x11.length 1 false)) (res1 Tryd.results27 (rvT rfl)) (Ghost.trans (Ghost.conv (fr' := [(0, (.row none 1 (x11.map (eI .u8))))]) (h' := [some ⟨42, vh.map (eI .u8)⟩, none, none, none, some ⟨22, [[8], x7, [5, 7], rest].map (eL 1 (eI .u8))⟩, none]) (FCv.cons rfl (Conv.row (subB_sub rfl) rfl rfl (all_mapE (fun _ => rfl)) (by first | rfl | (simp only [List.length_map, len_set, len_cpy]; done))) FCv.nil) (HCv.live (Convs.same (subB_sub rfl)) (all_map (fun _ => rfl) _) (HCv.dead (HCv.dead (HCv.dead (HCv.live (Convs.same (subB_sub rfl)) (all_map (fun _ => rfl) _) (HCv.dead HCv.nil))))))) (Ghost.rn [] rfl rfl (FLe.same rfl FLe.nil) HLe.nil rfl))
set_option maxRecDepth 20000 in
set_option maxHeartbeats 1000000 in
theorem script_Either_ok (N : Nat) (va : List Int) (b : List Int) (r : (List Int)) (hr : script_Either N va b = some r) :
    Vm.Fn Tryd.prog 28 [] [(.row none 1 (va.map (eI .u8))), (.row none 1 (b.map (eI .u8)))] (.row none 1 (r.map (eI .u8))) [] := by
  refine fn_ab Tryd.func28 rfl (by kernel_rfl) Tryd.ntmps28 (Nat.le_of_ble_eq_true rfl) rfl (fr := [(0, (.row none 1 (va.map (eI .u8)))), (1, (.row none 1 (b.map (eI .u8))))]) rfl ?_
  unfold script_Either at hr
  refine AB.seq ?_
  refine AB.rw ?_
  refine wS (v := (.row (some true) 1 [])) (sv (d_assign rfl)) ?_
  refine OpsW.nil ?_
  refine Ex.then_mk ?_
  refine AB.seq ?_
  replace hr := bnd hr; obtain ⟨x11, h_1, hr⟩ := hr
  refine AB.rw ?_
  refine wS (v := (.sl 0 0 1 1 false)) (h' := [some ⟨5, [14].map (eI .u8)⟩]) (sv (d_buildS rfl (bldL1 (xs := [14].map (eI .u8)) ti22 ti5 (Nat.le_of_ble_eq_true rfl) (Nat.le_of_ble_eq_true rfl) rfl rfl rfl rfl rfl rfl rfl))) ?_
  refine wS (v := (.row none 1 (va.map (eI .u8)))) (sv (d_move rfl)) ?_
  refine wS (v := (.sl 1 0 1 1 false)) (h' := [some ⟨5, [14].map (eI .u8)⟩, some ⟨5, [15].map (eI .u8)⟩]) (sv (d_buildS rfl (bldL1 (xs := [15].map (eI .u8)) ti22 ti5 (Nat.le_of_ble_eq_true rfl) (Nat.le_of_ble_eq_true rfl) rfl rfl rfl rfl rfl rfl rfl))) ?_
  refine wS (v := (.row none 1 (b.map (eI .u8)))) (sv (d_move rfl)) ?_
  refine wS (v := (.sl 2 0 1 1 false)) (h' := [some ⟨5, [14].map (eI .u8)⟩, some ⟨5, [15].map (eI .u8)⟩, some ⟨5, [16].map (eI .u8)⟩]) (sv (d_buildS rfl (bldL1 (xs := [16].map (eI .u8)) ti22 ti5 (Nat.le_of_ble_eq_true rfl) (Nat.le_of_ble_eq_true rfl) rfl rfl rfl rfl rfl rfl rfl))) ?_
  refine OpsW.ghost (Ghost.conv (fr' := [(0, (.row none 1 (va.map (eI .u8)))), (1, (.row none 1 (b.map (eI .u8)))), (4, (.row (some true) 1 [])), (5, (.row none 1 ([14].map (eI .u8)))), (6, (.row none 1 (va.map (eI .u8)))), (7, (.sl 1 0 1 1 false)), (8, (.row none 1 (b.map (eI .u8)))), (9, (.sl 2 0 1 1 false))]) (h' := [none, some ⟨5, [15].map (eI .u8)⟩, some ⟨5, [16].map (eI .u8)⟩]) (FCv.cons rfl (Conv.same (subB_sub rfl)) (FCv.cons rfl (Conv.same (subB_sub rfl)) (FCv.cons rfl (Conv.same (subB_sub rfl)) (FCv.cons rfl (Conv.row (subB_sub rfl) rfl rfl (all_mapE (fun _ => rfl)) (by first | rfl | (simp only [List.length_map, len_set, len_cpy]; done) | (rw [List.length_map]; exact Eq.symm rfl))) (FCv.cons rfl (Conv.same (subB_sub rfl)) (FCv.cons rfl (Conv.same (subB_sub rfl)) (FCv.cons rfl (Conv.same (subB_sub rfl)) (FCv.cons rfl (Conv.same (subB_sub rfl)) FCv.nil)))))))) (HCv.dead (HCv.live (Convs.same (subB_sub rfl)) (all_map (fun _ => rfl) _) (HCv.live (Convs.same (subB_sub rfl)) (all_map (fun _ => rfl) _) HCv.nil)))) ?_
  refine OpsW.ghost (Ghost.conv (fr' := [(0, (.row none 1 (va.map (eI .u8)))), (1, (.row none 1 (b.map (eI .u8)))), (4, (.row (some true) 1 [])), (5, (.row none 1 ([14].map (eI .u8)))), (6, (.row none 1 (va.map (eI .u8)))), (7, (.row none 1 ([15].map (eI .u8)))), (8, (.row none 1 (b.map (eI .u8)))), (9, (.sl 2 0 1 1 false))]) (h' := [none, none, some ⟨5, [16].map (eI .u8)⟩]) (FCv.cons rfl (Conv.same (subB_sub rfl)) (FCv.cons rfl (Conv.same (subB_sub rfl)) (FCv.cons rfl (Conv.same (subB_sub rfl)) (FCv.cons rfl (Conv.same (subB_sub rfl)) (FCv.cons rfl (Conv.same (subB_sub rfl)) (FCv.cons rfl (Conv.row (subB_sub rfl) rfl rfl (all_mapE (fun _ => rfl)) (by first | rfl | (simp only [List.length_map, len_set, len_cpy]; done) | (rw [List.length_map]; exact Eq.symm rfl))) (FCv.cons rfl (Conv.same (subB_sub rfl)) (FCv.cons rfl (Conv.same (subB_sub rfl)) FCv.nil)))))))) (HCv.dead (HCv.dead (HCv.live (Convs.same (subB_sub rfl)) (all_map (fun _ => rfl) _) HCv.nil)))) ?_
  refine OpsW.ghost (Ghost.conv (fr' := [(0, (.row none 1 (va.map (eI .u8)))), (1, (.row none 1 (b.map (eI .u8)))), (4, (.row (some true) 1 [])), (5, (.row none 1 ([14].map (eI .u8)))), (6, (.row none 1 (va.map (eI .u8)))), (7, (.row none 1 ([15].map (eI .u8)))), (8, (.row none 1 (b.map (eI .u8)))), (9, (.row none 1 ([16].map (eI .u8))))]) (h' := [none, none, none]) (FCv.cons rfl (Conv.same (subB_sub rfl)) (FCv.cons rfl (Conv.same (subB_sub rfl)) (FCv.cons rfl (Conv.same (subB_sub rfl)) (FCv.cons rfl (Conv.same (subB_sub rfl)) (FCv.cons rfl (Conv.same (subB_sub rfl)) (FCv.cons rfl (Conv.same (subB_sub rfl)) (FCv.cons rfl (Conv.same (subB_sub rfl)) (FCv.cons rfl (Conv.row (subB_sub rfl) rfl rfl (all_mapE (fun _ => rfl)) (by first | rfl | (simp only [List.length_map, len_set, len_cpy]; done) | (rw [List.length_map]; exact Eq.symm rfl))) FCv.nil)))))))) (HCv.dead (HCv.dead (HCv.dead HCv.nil)))) ?_
  refine wS (v := (.sl 3 0 5 1 false)) (h' := [none, none, none, some ⟨22, [[14], va, [15], b, [16]].map (eL 1 (eI .u8))⟩]) (sv (d_buildS rfl (bldL1 (xs := [[14], va, [15], b, [16]].map (eL 1 (eI .u8))) ti52 ti22 (Nat.le_of_ble_eq_true rfl) (Nat.le_of_ble_eq_true rfl) rfl rfl rfl rfl rfl rfl rfl))) ?_
  refine wC (v := (.sl 4 0 x11.length 1 false)) (h' := [none, none, none, some ⟨22, [[14], va, [15], b, [16]].map (eL 1 (eI .u8))⟩, some ⟨5, x11.map (eI .u8)⟩]) rfl (Vm.Fn.lendR (script_row_ok N [[14], va, [15], b, [16]] x11 h_1) [] [3] (by decide) rfl (by decide) Lend.nil (Brw.row (exp_slT rfl rfl (fun _ => rfl)) Brw.nil) rfl (rfB.live (rfs_map (fun _ => rfl) _) rfB.nil) rfl (by simp only [lent, lendSet, lendSet_nil, rnH, Blk.rn, V.rns, V.rn, sg, List.map_cons, List.map_nil, Option.map_some, Option.map_none, List.drop_succ_cons, List.drop_zero, List.drop_nil, List.set_cons_zero, List.set_cons_succ, List.cons_append, List.nil_append, List.append_nil, rns_eI, rns_eB, rns_eS, rns_eL, rns_C_api_Op, List.getElem?_cons_zero, List.getElem?_cons_succ, List.getElem?_nil, List.length_cons, List.length_nil, Nat.reduceAdd, Nat.reduceSub, Nat.add_zero, Nat.zero_add, Nat.sub_self, Nat.sub_zero])) ?_
  refine wS (v := (.sl 4 0 x11.length 1 false)) (sv (d_assign rfl)) ?_
  refine OpsW.nil ?_
  refine Ex.then_mk ?_
  refine AB.ret ?_
  obtain rfl := Option.some.inj hr
  exact done_ret (r1 := (.sl 4 0 x11.length 1 false)) (res1 Tryd.results28 (rvT rfl)) (Ghost.trans (Ghost.conv (fr' := [(0, (.row none 1 (x11.map (eI .u8))))]) (h' := [none, none, none, some ⟨22, [[14], va, [15], b, [16]].map (eL 1 (eI .u8))⟩, none]) (FCv.cons rfl (Conv.row (subB_sub rfl) rfl rfl (all_mapE (fun _ => rfl)) (by first | rfl | (simp only [List.length_map, len_set, len_cpy]; done))) FCv.nil) (HCv.dead (HCv.dead (HCv.dead (HCv.live (Convs.same (subB_sub rfl)) (all_map (fun _ => rfl) _) (HCv.dead HCv.nil)))))) (Ghost.rn [] rfl rfl (FLe.same rfl FLe.nil) HLe.nil rfl))
set_option maxRecDepth 20000 in
set_option maxHeartbeats 1000000 in
theorem ref08_Either_ok (N : Nat) (va : List Int) (b : List Int) (r : (List Int)) (hr : ref08_Either N va b = some r) :
    Vm.Fn Tryd.prog 29 [] [(.row none 1 (va.map (eI .u8))), (.row none 1 (b.map (eI .u8)))] (.row none 1 (r.map (eI .u8))) [] := by
  refine fn_ab Tryd.func29 rfl (by kernel_rfl) Tryd.ntmps29 (Nat.le_of_ble_eq_true rfl) rfl (fr := [(0, (.row none 1 (va.map (eI .u8)))), (1, (.row none 1 (b.map (eI .u8))))]) rfl ?_
  unfold ref08_Either at hr
  refine AB.seq ?_
  refine AB.rw ?_
  refine wS (v := (.row (some true) 1 [])) (sv (d_assign rfl)) ?_
  refine OpsW.nil ?_
  refine Ex.then_mk ?_
  refine AB.seq ?_
  replace hr := bnd hr; obtain ⟨x11, h_1, hr⟩ := hr
  refine AB.rw ?_
  refine wS (v := (.sl 0 0 1 1 false)) (h' := [some ⟨5, [14].map (eI .u8)⟩]) (sv (d_buildS rfl (bldL1 (xs := [14].map (eI .u8)) ti22 ti5 (Nat.le_of_ble_eq_true rfl) (Nat.le_of_ble_eq_true rfl) rfl rfl rfl rfl rfl rfl rfl))) ?_
  refine wS (v := (.row none 1 (va.map (eI .u8)))) (sv (d_move rfl)) ?_
  refine wS (v := (.sl 1 0 1 1 false)) (h' := [some ⟨5, [14].map (eI .u8)⟩, some ⟨5, [15].map (eI .u8)⟩]) (sv (d_buildS rfl (bldL1 (xs := [15].map (eI .u8)) ti22 ti5 (Nat.le_of_ble_eq_true rfl) (Nat.le_of_ble_eq_true rfl) rfl rfl rfl rfl rfl rfl rfl))) ?_
  refine wS (v := (.row none 1 (b.map (eI .u8)))) (sv (d_move rfl)) ?_
  refine wS (v := (.sl 2 0 1 1 false)) (h' := [some ⟨5, [14].map (eI .u8)⟩, some ⟨5, [15].map (eI .u8)⟩, some ⟨5, [16].map (eI .u8)⟩]) (sv (d_buildS rfl (bldL1 (xs := [16].map (eI .u8)) ti22 ti5 (Nat.le_of_ble_eq_true rfl) (Nat.le_of_ble_eq_true rfl) rfl rfl rfl rfl rfl rfl rfl))) ?_
  refine OpsW.ghost (Ghost.conv (fr' := [(0, (.row none 1 (va.map (eI .u8)))), (1, (.row none 1 (b.map (eI .u8)))), (4, (.row (some true) 1 [])), (5, (.row none 1 ([14].map (eI .u8)))), (6, (.row none 1 (va.map (eI .u8)))), (7, (.sl 1 0 1 1 false)), (8, (.row none 1 (b.map (eI .u8)))), (9, (.sl 2 0 1 1 false))]) (h' := [none, some ⟨5, [15].map (eI .u8)⟩, some ⟨5, [16].map (eI .u8)⟩]) (FCv.cons rfl (Conv.same (subB_sub rfl)) (FCv.cons rfl (Conv.same (subB_sub rfl)) (FCv.cons rfl (Conv.same (subB_sub rfl)) (FCv.cons rfl (Conv.row (subB_sub rfl) rfl rfl (all_mapE (fun _ => rfl)) (by first | rfl | (simp only [List.length_map, len_set, len_cpy]; done) | (rw [List.length_map]; exact Eq.symm rfl))) (FCv.cons rfl (Conv.same (subB_sub rfl)) (FCv.cons rfl (Conv.same (subB_sub rfl)) (FCv.cons rfl (Conv.same (subB_sub rfl)) (FCv.cons rfl (Conv.same (subB_sub rfl)) FCv.nil)))))))) (HCv.dead (HCv.live (Convs.same (subB_sub rfl)) (all_map (fun _ => rfl) _) (HCv.live (Convs.same (subB_sub rfl)) (all_map (fun _ => rfl) _) HCv.nil)))) ?_
  refine OpsW.ghost (Ghost.conv (fr' := [(0, (.row none 1 (va.map (eI .u8)))), (1, (.row none 1 (b.map (eI .u8)))), (4, (.row (some true) 1 [])), (5, (.row none 1 ([14].map (eI .u8)))), (6, (.row none 1 (va.map (eI .u8)))), (7, (.row none 1 ([15].map (eI .u8)))), (8, (.row none 1 (b.map (eI .u8)))), (9, (.sl 2 0 1 1 false))]) (h' := [none, none, some ⟨5, [16].map (eI .u8)⟩]) (FCv.cons rfl (Conv.same (subB_sub rfl)) (FCv.cons rfl (Conv.same (subB_sub rfl)) (FCv.cons rfl (Conv.same (subB_sub rfl)) (FCv.cons rfl (Conv.same (subB_sub rfl)) (FCv.cons rfl (Conv.same (subB_sub rfl)) (FCv.cons rfl (Conv.row (subB_sub rfl) rfl rfl (all_mapE (fun _ => rfl)) (by first | rfl | (simp only [List.length_map, len_set, len_cpy]; done) | (rw [List.length_map]; exact Eq.symm rfl))) (FCv.cons rfl (Conv.same (subB_sub rfl)) (FCv.cons rfl (Conv.same (subB_sub rfl)) FCv.nil)))))))) (HCv.dead (HCv.dead (HCv.live (Convs.same (subB_sub rfl)) (all_map (fun _ => rfl) _) HCv.nil)))) ?_
  refine OpsW.ghost (Ghost.conv (fr' := [(0, (.row none 1 (va.map (eI .u8)))), (1, (.row none 1 (b.map (eI .u8)))), (4, (.row (some true) 1 [])), (5, (.row none 1 ([14].map (eI .u8)))), (6, (.row none 1 (va.map (eI .u8)))), (7, (.row none 1 ([15].map (eI .u8)))), (8, (.row none 1 (b.map (eI .u8)))), (9, (.row none 1 ([16].map (eI .u8))))]) (h' := [none, none, none]) (FCv.cons rfl (Conv.same (subB_sub rfl)) (FCv.cons rfl (Conv.same (subB_sub rfl)) (FCv.cons rfl (Conv.same (subB_sub rfl)) (FCv.cons rfl (Conv.same (subB_sub rfl)) (FCv.cons rfl (Conv.same (subB_sub rfl)) (FCv.cons rfl (Conv.same (subB_sub rfl)) (FCv.cons rfl (Conv.same (subB_sub rfl)) (FCv.cons rfl (Conv.row (subB_sub rfl) rfl rfl (all_mapE (fun _ => rfl)) (by first | rfl | (simp only [List.length_map, len_set, len_cpy]; done) | (rw [List.length_map]; exact Eq.symm rfl))) FCv.nil)))))))) (HCv.dead (HCv.dead (HCv.dead HCv.nil)))) ?_
  refine wS (v := (.sl 3 0 5 1 false)) (h' := [none, none, none, some ⟨22, [[14], va, [15], b, [16]].map (eL 1 (eI .u8))⟩]) (sv (d_buildS rfl (bldL1 (xs := [[14], va, [15], b, [16]].map (eL 1 (eI .u8))) ti52 ti22 (Nat.le_of_ble_eq_true rfl) (Nat.le_of_ble_eq_true rfl) rfl rfl rfl rfl rfl rfl rfl))) ?_
  refine wC (v := (.sl 4 0 x11.length 1 false)) (h' := [none, none, none, some ⟨22, [[14], va, [15], b, [16]].map (eL 1 (eI .u8))⟩, some ⟨5, x11.map (eI .u8)⟩]) rfl (Vm.Fn.lendR (ref01_Join_ok N [[14], va, [15], b, [16]] x11 h_1) [] [3] (by decide) rfl (by decide) Lend.nil (Brw.row (exp_slT rfl rfl (fun _ => rfl)) Brw.nil) rfl (rfB.live (rfs_map (fun _ => rfl) _) rfB.nil) rfl (by simp only [lent, lendSet, lendSet_nil, rnH, Blk.rn, V.rns, V.rn, sg, List.map_cons, List.map_nil, Option.map_some, Option.map_none, List.drop_succ_cons, List.drop_zero, List.drop_nil, List.set_cons_zero, List.set_cons_succ, List.cons_append, List.nil_append, List.append_nil, rns_eI, rns_eB, rns_eS, rns_eL, rns_C_api_Op, List.getElem?_cons_zero, List.getElem?_cons_succ, List.getElem?_nil, List.length_cons, List.length_nil, Nat.reduceAdd, Nat.reduceSub, Nat.add_zero, Nat.zero_add, Nat.sub_self, Nat.sub_zero])) ?_
  refine wS (v := (.sl 4 0 x11.length 1 false)) (sv (d_assign rfl)) ?_
  refine OpsW.nil ?_
  refine Ex.then_mk ?_
  refine AB.ret ?_
  obtain rfl := Option.some.inj hr
  exact done_ret (r1 := (.sl 4 0 x11.length 1 false)) (res1 Tryd.results29 (rvT rfl)) (Ghost.trans (Ghost.conv (fr' := [(0, (.row none 1 (x11.map (eI .u8))))]) (h' := [none, none, none, some ⟨22, [[14], va, [15], b, [16]].map (eL 1 (eI .u8))⟩, none]) (FCv.cons rfl (Conv.row (subB_sub rfl) rfl rfl (all_mapE (fun _ => rfl)) (by first | rfl | (simp only [List.length_map, len_set, len_cpy]; done))) FCv.nil) (HCv.dead (HCv.dead (HCv.dead (HCv.live (Convs.same (subB_sub rfl)) (all_map (fun _ => rfl) _) (HCv.dead HCv.nil)))))) (Ghost.rn [] rfl rfl (FLe.same rfl FLe.nil) HLe.nil rfl))
end Go.Proofs.YtheekineakjhdaaDoor
