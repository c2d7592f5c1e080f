/- Walks printed by a program of ours (gen.py): each Go function of the list does what its shallow function says. -/
import Derived.Test.YtheekineakjhdaaDoorSh
import Derived.Test.YtheekineakjhdaaDoorTyF
import Derived.Test.YtheekineakjhdaaDoorSane
set_option linter.unusedVariables false
set_option linter.unusedSimpArgs false
namespace Go.Proofs.YtheekineakjhdaaDoor
open Go Go.Vm
theorem law08_sane_ok (N : Nat) (r : Bool) (hr : law08_sane N = some r) : Vm.Fn Tryd.prog 7 [] [] (eB r) [] := by
  obtain rfl := Option.some.inj hr
  exact fn_closed sane_fn rfl
set_option maxRecDepth 20000 in
set_option maxHeartbeats 1000000 in
theorem script_Number_ok (N : Nat) (b : List Int) (r : Int × Int) (hr : script_Number N b = some r) :
    Vm.Fn Tryd.prog 8 [] [(.row none 1 (b.map (eI .u8)))] (.tup [(eI .u32 r.1), (eI .i64 r.2)]) [] := by
  refine fn_ab Tryd.func8 rfl (by kernel_rfl) Tryd.ntmps8 (Nat.le_of_ble_eq_true rfl) rfl (fr := [(0, (.row none 1 (b.map (eI .u8))))]) rfl ?_
  unfold script_Number at hr
  refine AB.seq ?_
  refine AB.rw ?_
  refine wS (v := (eI .u32 0)) (sv (d_assign rfl)) ?_
  refine wS (v := (eI .i64 0)) (sv (d_assign rfl)) ?_
  refine OpsW.nil ?_
  refine Ex.then_mk ?_
  refine AB.seq ?_
  refine AB.seq_g fun K1 hK1 hG1 => ?_
  have J1 : ∀ (x23 : Bool), script_Number_J1 N b x23 = some r → K1 (mkF 40 [(0, (.row none 1 (b.map (eI .u8)))), (23, (eB x23))]) [] := by
    intro x23 hr
    unfold script_Number_J1 at hr
    refine hK1 _ _ ?_
    refine AB.cnd rfl (fun h1 => ?_) (fun h1 => ?_)
    · replace hr := iteT hr h1
      refine AB.seq ?_
      refine AB.rw ?_
      refine wS (v := (eI .u32 0)) (sv (d_assign rfl)) ?_
      refine wS (v := (eI .i64 82)) (sv (d_assign rfl)) ?_
      refine OpsW.nil ?_
      refine Ex.then_mk ?_
      refine AB.ret ?_
      refine Ex.then_ret_mk ?_
      obtain rfl := Option.some.inj hr
      exact done_ret (r1 := (.tup [(eI .u32 0), (eI .i64 82)])) (res2 Tryd.results8 (rvT rfl) (rvT rfl)) (Ghost.rn [] rfl rfl (FLe.same rfl FLe.nil) HLe.nil rfl)
    · replace hr := iteF hr h1
      refine AB.skip ?_
      refine Ex.then_mk ?_
      refine AB.seq ?_
      refine AB.rw ?_
      refine wS (v := (eI .u32 0)) (sv (d_assign rfl)) ?_
      refine OpsW.nil ?_
      refine Ex.then_mk ?_
      refine AB.seq_g fun K2 hK2 hG2 => ?_
      have J2 : ∀ (vn : Int), script_Number_J2 N vn = some r → K2 (mkF 40 [(4, (eI .u32 vn))]) [] := by
        intro vn hr
        unfold script_Number_J2 at hr
        refine hK2 _ _ ?_
        refine AB.seq ?_
        refine AB.rw ?_
        refine wS (v := (eI .u32 vn)) (sv (d_move rfl)) ?_
        refine wS (v := (eI .u32 vn)) (sv (d_assign rfl)) ?_
        refine wS (v := (eI .i64 0)) (sv (d_assign rfl)) ?_
        refine OpsW.nil ?_
        refine Ex.then_mk ?_
        refine AB.ret ?_
        obtain rfl := Option.some.inj hr
        exact done_ret (r1 := (.tup [(eI .u32 vn), (eI .i64 0)])) (res2 Tryd.results8 (rvT rfl) (rvT rfl)) (Ghost.rn [] rfl rfl (FLe.same rfl FLe.nil) HLe.nil rfl)
      refine AB.seq ?_
      refine AB.rw ?_
      refine wS (v := (.row none 1 (b.map (eI .u8)))) (sv (d_move rfl)) ?_
      refine wS (v := (eI .i64 (b.length : Int))) (sv (d_len rfl (lenR ti22))) ?_
      refine wS (v := (eI .i64 0)) (sv (d_move rfl)) ?_
      refine OpsW.nil ?_
      refine Ex.then_mk ?_
      replace hr := bnd hr; obtain ⟨res3, hL3, hr⟩ := hr
      refine AB.block ?_
      refine AB.loopN (fun m s h => ∃ (vn_1 : Int) (x26 : Int), script_Number_L3 N b m vn_1 x26 = some res3 ∧ Ghost 0 s h (mkF 40 [(4, (eI .u32 vn_1)), (24, (.row none 1 (b.map (eI .u8)))), (25, (eI .i64 (b.length : Int))), (26, (eI .i64 x26))]) []) (n := N) ⟨0, 0, hL3, (Ghost.rn [] rfl rfl (FLe.same rfl (FLe.same rfl (FLe.same rfl (FLe.same rfl FLe.nil)))) HLe.nil rfl)⟩ (by rintro s h ⟨_, _, h0, _⟩; simp [script_Number_L3] at h0) ?_
      rintro m3 s h ⟨vn_1, x26, hr3, hg⟩
      refine AB.ghost hg ?_
      clear hg hL3
      rw [script_Number_L3] at hr3
      refine AB.seq ?_
      refine AB.rw ?_
      refine wS (v := (eB (decide (x26 < (b.length : Int))))) (sv (d_bin rfl rfl (bin_lss ..))) ?_
      refine OpsW.nil ?_
      refine Ex.then_mk ?_
      refine AB.seq ?_
      refine AB.cnd rfl (fun h2 => ?_) (fun h2 => ?_)
      · replace hr3 := iteT hr3 h2
        refine AB.skip ?_
        refine Ex.then_mk ?_
        refine AB.seq ?_
        refine AB.block ?_
        refine AB.seq ?_
        replace hr3 := bnd hr3; obtain ⟨x29, h_3, hr3⟩ := hr3
        refine AB.rw ?_
        refine wS (v := (eI .i64 x26)) (sv (d_move rfl)) ?_
        refine wS (sv (d_ia rfl rfl (iaR ti22 ti5 h_3))) ?_
        refine wS (v := (eI .u8 x29)) (sv (d_load rfl (ldR h_3 (part1 ti5 rfl rfl)))) ?_
        refine wS (v := (eI .i64 x26)) (sv (d_assign rfl)) ?_
        refine wS (v := (eI .u8 x29)) (sv (d_assign rfl)) ?_
        refine OpsW.nil ?_
        refine Ex.then_mk ?_
        replace hr3 := bnd hr3; obtain ⟨x36, h_4, hr3⟩ := hr3
        refine AB.rw ?_
        refine wS (v := (eI .u32 vn_1)) (sv (d_move rfl)) ?_
        refine wS (v := (eI .u8 x29)) (sv (d_move rfl)) ?_
        refine wS (v := (eI .u32 (IntKind.u32.wrap x29))) (sv (d_conv rfl (conv_int _ ⟨_, ti5⟩ ti23 rfl))) ?_
        refine wS (v := (eI .i64 x26)) (sv (d_move rfl)) ?_
        refine wS (v := (eI .i64 (IntKind.i64.wrap (8 * x26)))) (sv (d_bin rfl rfl (bin_mul ..))) ?_
        refine wS (v := (eI .u32 x36)) (sv (d_bin rfl rfl (bin_shl' _ _ _ _ h_4))) ?_
        refine wS (v := (eI .u32 (bits .or .u32 vn_1 x36))) (sv (d_bin rfl rfl (bin_or ..))) ?_
        refine wS (v := (eI .u32 (bits .or .u32 vn_1 x36))) (sv (d_assign rfl)) ?_
        refine OpsW.nil ?_
        refine Ex.inBlock_mk ?_
        refine Ex.then_mk ?_
        refine AB.rw ?_
        refine wS (v := (eI .i64 (IntKind.i64.wrap (x26 + 1)))) (sv (d_bin rfl rfl (bin_add ..))) ?_
        refine wS (v := (eI .i64 (IntKind.i64.wrap (x26 + 1)))) (sv (d_move rfl)) ?_
        refine OpsW.nil ?_
        refine Ex.then_mk ?_
        exact ⟨bits .or .u32 vn_1 x36, IntKind.i64.wrap (x26 + 1), hr3, (Ghost.rn [] rfl rfl (FLe.same rfl (FLe.same rfl (FLe.same rfl (FLe.same rfl FLe.nil)))) HLe.nil rfl)⟩
      · replace hr3 := iteF hr3 h2
        refine AB.exit ?_
        refine Ex.then_exit_mk ?_
        refine Ex.then_exit_mk ?_
        refine Ex.inBlock_same_mk ?_
        obtain rfl := Option.some.inj hr3
        refine Ex.then_mk ?_
        exact hG2 _ _ _ _ (Ghost.rn [] rfl rfl (FLe.same rfl FLe.nil) HLe.nil rfl) (J2 vn_1 hr)
  rcases Bool.eq_false_or_eq_true (decide (4 < (b.length : Int))) with h5 | h5
  · replace hr := iteT hr h5
    refine AB.rw ?_
    refine wS (v := (.row none 1 (b.map (eI .u8)))) (sv (d_move rfl)) ?_
    refine wS (v := (eI .i64 (b.length : Int))) (sv (d_len rfl (lenR ti22))) ?_
    refine wS (v := (eB (decide (4 < (b.length : Int))))) (sv (d_bin rfl rfl (bin_gtr ..))) ?_
    refine wS (v := (eB (decide (4 < (b.length : Int))))) (sv (d_move rfl)) ?_
    refine wS (svX rfl rfl h5) ?_
    refine wS (svX rfl rfl h5) ?_
    refine wS (svX rfl rfl h5) ?_
    refine wS (svX rfl rfl h5) ?_
    refine wS (svU rfl rfl) ?_
    refine wS (svU rfl rfl) ?_
    refine wS (svU rfl rfl) ?_
    refine wS (svU rfl rfl) ?_
    refine wS (svU rfl rfl) ?_
    refine wS (svU rfl rfl) ?_
    refine wS (svU rfl rfl) ?_
    refine wS (svX rfl rfl h5) ?_
    refine wS (v := (eB true)) (sv (d_pickT rfl h5 rfl)) ?_
    refine OpsW.nil ?_
    refine Ex.then_mk ?_
    exact hG1 _ _ _ _ (Ghost.rn [] rfl rfl (FLe.same rfl (FLe.same rfl FLe.nil)) HLe.nil rfl) (J1 true hr)
  · replace hr := iteF hr h5
    rcases Bool.eq_false_or_eq_true (decide (0 < (b.length : Int))) with h6 | h6
    · replace hr := iteT hr h6
      replace hr := bnd hr; obtain ⟨x19, h_7, hr⟩ := hr
      refine AB.rw ?_
      refine wS (v := (.row none 1 (b.map (eI .u8)))) (sv (d_move rfl)) ?_
      refine wS (v := (eI .i64 (b.length : Int))) (sv (d_len rfl (lenR ti22))) ?_
      refine wS (v := (eB (decide (4 < (b.length : Int))))) (sv (d_bin rfl rfl (bin_gtr ..))) ?_
      refine wS (v := (eB (decide (4 < (b.length : Int))))) (sv (d_move rfl)) ?_
      refine wS (v := (.row none 1 (b.map (eI .u8)))) (svG rfl rfl h5 (d_move rfl)) ?_
      refine wS (v := (eI .i64 (b.length : Int))) (svG rfl rfl h5 (d_len rfl (lenR ti22))) ?_
      refine wS (v := (eB (decide (0 < (b.length : Int))))) (svG rfl rfl h5 (d_bin rfl rfl (bin_gtr ..))) ?_
      refine wS (v := (eB (decide (0 < (b.length : Int))))) (svG rfl rfl h5 (d_move rfl)) ?_
      refine wS (v := (.row none 1 (b.map (eI .u8)))) (svG rfl rfl h6 (d_move rfl)) ?_
      refine wS (v := (.row none 1 (b.map (eI .u8)))) (svG rfl rfl h6 (d_move rfl)) ?_
      refine wS (v := (eI .i64 (b.length : Int))) (svG rfl rfl h6 (d_len rfl (lenR ti22))) ?_
      refine wS (v := (eI .i64 (IntKind.i64.wrap ((b.length : Int) - 1)))) (svG rfl rfl h6 (d_bin rfl rfl (bin_sub ..))) ?_
      refine wS (svG rfl rfl h6 (d_ia rfl rfl (iaR ti22 ti5 h_7))) ?_
      refine wS (v := (eI .u8 x19)) (svG rfl rfl h6 (d_load rfl (ldR h_7 (part1 ti5 rfl rfl)))) ?_
      refine wS (v := (eB (x19 == 0))) (svG rfl rfl h6 (d_bin rfl rfl (bin_eql ..))) ?_
      refine wS (v := (eB (x19 == 0))) (svG rfl rfl h5 (d_pickT rfl h6 rfl)) ?_
      refine wS (v := (eB (x19 == 0))) (sv (d_pickF rfl h5 rfl)) ?_
      refine OpsW.nil ?_
      refine Ex.then_mk ?_
      exact hG1 _ _ _ _ (Ghost.rn [] rfl rfl (FLe.same rfl (FLe.same rfl FLe.nil)) HLe.nil rfl) (J1 (x19 == 0) hr)
    · replace hr := iteF hr h6
      refine AB.rw ?_
      refine wS (v := (.row none 1 (b.map (eI .u8)))) (sv (d_move rfl)) ?_
      refine wS (v := (eI .i64 (b.length : Int))) (sv (d_len rfl (lenR ti22))) ?_
      refine wS (v := (eB (decide (4 < (b.length : Int))))) (sv (d_bin rfl rfl (bin_gtr ..))) ?_
      refine wS (v := (eB (decide (4 < (b.length : Int))))) (sv (d_move rfl)) ?_
      refine wS (v := (.row none 1 (b.map (eI .u8)))) (svG rfl rfl h5 (d_move rfl)) ?_
      refine wS (v := (eI .i64 (b.length : Int))) (svG rfl rfl h5 (d_len rfl (lenR ti22))) ?_
      refine wS (v := (eB (decide (0 < (b.length : Int))))) (svG rfl rfl h5 (d_bin rfl rfl (bin_gtr ..))) ?_
      refine wS (v := (eB (decide (0 < (b.length : Int))))) (svG rfl rfl h5 (d_move rfl)) ?_
      refine wS (svX rfl rfl h6) ?_
      refine wS (svX rfl rfl h6) ?_
      refine wS (svX rfl rfl h6) ?_
      refine wS (svX rfl rfl h6) ?_
      refine wS (svX rfl rfl h6) ?_
      refine wS (svX rfl rfl h6) ?_
      refine wS (svX rfl rfl h6) ?_
      refine wS (v := (eB false)) (svG rfl rfl h5 (d_pickF rfl h6 rfl)) ?_
      refine wS (v := (eB false)) (sv (d_pickF rfl h5 rfl)) ?_
      refine OpsW.nil ?_
      refine Ex.then_mk ?_
      exact hG1 _ _ _ _ (Ghost.rn [] rfl rfl (FLe.same rfl (FLe.same rfl FLe.nil)) HLe.nil rfl) (J1 false hr)
set_option maxRecDepth 20000 in
set_option maxHeartbeats 1000000 in
theorem ref08_Number_ok (N : Nat) (b : List Int) (r : Int × Int) (hr : ref08_Number N b = some r) :
    Vm.Fn Tryd.prog 9 [] [(.row none 1 (b.map (eI .u8)))] (.tup [(eI .u32 r.1), (eI .i64 r.2)]) [] := by
  refine fn_ab Tryd.func9 rfl (by kernel_rfl) Tryd.ntmps9 (Nat.le_of_ble_eq_true rfl) rfl (fr := [(0, (.row none 1 (b.map (eI .u8))))]) rfl ?_
  unfold ref08_Number at hr
  refine AB.seq ?_
  refine AB.rw ?_
  refine wS (v := (eI .u32 0)) (sv (d_assign rfl)) ?_
  refine wS (v := (eI .i64 0)) (sv (d_assign rfl)) ?_
  refine OpsW.nil ?_
  refine Ex.then_mk ?_
  refine AB.seq ?_
  refine AB.seq_g fun K1 hK1 hG1 => ?_
  have J1 : ∀ (x22 : Bool), ref08_Number_J1 N b x22 = some r → K1 (mkF 40 [(0, (.row none 1 (b.map (eI .u8)))), (22, (eB x22))]) [] := by
    intro x22 hr
    unfold ref08_Number_J1 at hr
    refine hK1 _ _ ?_
    refine AB.cnd rfl (fun h1 => ?_) (fun h1 => ?_)
    · replace hr := iteT hr h1
      refine AB.seq ?_
      refine AB.rw ?_
      refine wS (v := (eI .u32 0)) (sv (d_assign rfl)) ?_
      refine wS (v := (eI .i64 82)) (sv (d_assign rfl)) ?_
      refine OpsW.nil ?_
      refine Ex.then_mk ?_
      refine AB.ret ?_
      refine Ex.then_ret_mk ?_
      obtain rfl := Option.some.inj hr
      exact done_ret (r1 := (.tup [(eI .u32 0), (eI .i64 82)])) (res2 Tryd.results9 (rvT rfl) (rvT rfl)) (Ghost.rn [] rfl rfl (FLe.same rfl FLe.nil) HLe.nil rfl)
    · replace hr := iteF hr h1
      refine AB.skip ?_
      refine Ex.then_mk ?_
      refine AB.seq ?_
      refine AB.rw ?_
      refine wS (v := (eI .u32 0)) (sv (d_assign rfl)) ?_
      refine OpsW.nil ?_
      refine Ex.then_mk ?_
      refine AB.seq_g fun K2 hK2 hG2 => ?_
      have J2 : ∀ (vn : Int), ref08_Number_J2 N vn = some r → K2 (mkF 40 [(4, (eI .u32 vn))]) [] := by
        intro vn hr
        unfold ref08_Number_J2 at hr
        refine hK2 _ _ ?_
        refine AB.seq ?_
        refine AB.rw ?_
        refine wS (v := (eI .u32 vn)) (sv (d_move rfl)) ?_
        refine wS (v := (eI .u32 vn)) (sv (d_assign rfl)) ?_
        refine wS (v := (eI .i64 0)) (sv (d_assign rfl)) ?_
        refine OpsW.nil ?_
        refine Ex.then_mk ?_
        refine AB.ret ?_
        obtain rfl := Option.some.inj hr
        exact done_ret (r1 := (.tup [(eI .u32 vn), (eI .i64 0)])) (res2 Tryd.results9 (rvT rfl) (rvT rfl)) (Ghost.rn [] rfl rfl (FLe.same rfl FLe.nil) HLe.nil rfl)
      refine AB.seq ?_
      refine AB.rw ?_
      refine wS (v := (.row none 1 (b.map (eI .u8)))) (sv (d_move rfl)) ?_
      refine wS (v := (eI .i64 (b.length : Int))) (sv (d_len rfl (lenR ti22))) ?_
      refine wS (v := (eI .i64 0)) (sv (d_move rfl)) ?_
      refine OpsW.nil ?_
      refine Ex.then_mk ?_
      replace hr := bnd hr; obtain ⟨res3, hL3, hr⟩ := hr
      refine AB.block ?_
      refine AB.loopN (fun m s h => ∃ (vn_1 : Int) (x25 : Int), ref08_Number_L3 N b m vn_1 x25 = some res3 ∧ Ghost 0 s h (mkF 40 [(0, (.row none 1 (b.map (eI .u8)))), (4, (eI .u32 vn_1)), (24, (eI .i64 (b.length : Int))), (25, (eI .i64 x25))]) []) (n := N) ⟨0, 0, hL3, (Ghost.rn [] rfl rfl (FLe.same rfl (FLe.same rfl (FLe.same rfl (FLe.same rfl FLe.nil)))) HLe.nil rfl)⟩ (by rintro s h ⟨_, _, h0, _⟩; simp [ref08_Number_L3] at h0) ?_
      rintro m3 s h ⟨vn_1, x25, hr3, hg⟩
      refine AB.ghost hg ?_
      clear hg hL3
      rw [ref08_Number_L3] at hr3
      refine AB.seq ?_
      refine AB.rw ?_
      refine wS (v := (eB (decide (x25 < (b.length : Int))))) (sv (d_bin rfl rfl (bin_lss ..))) ?_
      refine OpsW.nil ?_
      refine Ex.then_mk ?_
      refine AB.seq ?_
      refine AB.cnd rfl (fun h2 => ?_) (fun h2 => ?_)
      · replace hr3 := iteT hr3 h2
        refine AB.skip ?_
        refine Ex.then_mk ?_
        refine AB.seq ?_
        refine AB.block ?_
        refine AB.seq ?_
        refine AB.rw ?_
        refine wS (v := (eI .i64 x25)) (sv (d_move rfl)) ?_
        refine wS (v := (eI .i64 x25)) (sv (d_assign rfl)) ?_
        refine OpsW.nil ?_
        refine Ex.then_mk ?_
        replace hr3 := bnd hr3; obtain ⟨x31, h_3, hr3⟩ := hr3
        replace hr3 := bnd hr3; obtain ⟨x36, h_4, hr3⟩ := hr3
        refine AB.rw ?_
        refine wS (v := (eI .u32 vn_1)) (sv (d_move rfl)) ?_
        refine wS (v := (.row none 1 (b.map (eI .u8)))) (sv (d_move rfl)) ?_
        refine wS (v := (eI .i64 x25)) (sv (d_move rfl)) ?_
        refine wS (sv (d_ia rfl rfl (iaR ti22 ti5 h_3))) ?_
        refine wS (v := (eI .u8 x31)) (sv (d_load rfl (ldR h_3 (part1 ti5 rfl rfl)))) ?_
        refine wS (v := (eI .u32 (IntKind.u32.wrap x31))) (sv (d_conv rfl (conv_int _ ⟨_, ti5⟩ ti23 rfl))) ?_
        refine wS (v := (eI .i64 x25)) (sv (d_move rfl)) ?_
        refine wS (v := (eI .i64 (IntKind.i64.wrap (8 * x25)))) (sv (d_bin rfl rfl (bin_mul ..))) ?_
        refine wS (v := (eI .u32 x36)) (sv (d_bin rfl rfl (bin_shl' _ _ _ _ h_4))) ?_
        refine wS (v := (eI .u32 (bits .or .u32 vn_1 x36))) (sv (d_bin rfl rfl (bin_or ..))) ?_
        refine wS (v := (eI .u32 (bits .or .u32 vn_1 x36))) (sv (d_assign rfl)) ?_
        refine OpsW.nil ?_
        refine Ex.inBlock_mk ?_
        refine Ex.then_mk ?_
        refine AB.rw ?_
        refine wS (v := (eI .i64 (IntKind.i64.wrap (x25 + 1)))) (sv (d_bin rfl rfl (bin_add ..))) ?_
        refine wS (v := (eI .i64 (IntKind.i64.wrap (x25 + 1)))) (sv (d_move rfl)) ?_
        refine OpsW.nil ?_
        refine Ex.then_mk ?_
        exact ⟨bits .or .u32 vn_1 x36, IntKind.i64.wrap (x25 + 1), hr3, (Ghost.rn [] rfl rfl (FLe.same rfl (FLe.same rfl (FLe.same rfl (FLe.same rfl FLe.nil)))) HLe.nil rfl)⟩
      · replace hr3 := iteF hr3 h2
        refine AB.exit ?_
        refine Ex.then_exit_mk ?_
        refine Ex.then_exit_mk ?_
        refine Ex.inBlock_same_mk ?_
        obtain rfl := Option.some.inj hr3
        refine Ex.then_mk ?_
        exact hG2 _ _ _ _ (Ghost.rn [] rfl rfl (FLe.same rfl FLe.nil) HLe.nil rfl) (J2 vn_1 hr)
  rcases Bool.eq_false_or_eq_true (decide (4 < (b.length : Int))) with h5 | h5
  · replace hr := iteT hr h5
    refine AB.rw ?_
    refine wS (v := (.row none 1 (b.map (eI .u8)))) (sv (d_move rfl)) ?_
    refine wS (v := (eI .i64 (b.length : Int))) (sv (d_len rfl (lenR ti22))) ?_
    refine wS (v := (eB (decide (4 < (b.length : Int))))) (sv (d_bin rfl rfl (bin_gtr ..))) ?_
    refine wS (v := (eB (decide (4 < (b.length : Int))))) (sv (d_move rfl)) ?_
    refine wS (svX rfl rfl h5) ?_
    refine wS (svX rfl rfl h5) ?_
    refine wS (svX rfl rfl h5) ?_
    refine wS (svX rfl rfl h5) ?_
    refine wS (svU rfl rfl) ?_
    refine wS (svU rfl rfl) ?_
    refine wS (svU rfl rfl) ?_
    refine wS (svU rfl rfl) ?_
    refine wS (svU rfl rfl) ?_
    refine wS (svU rfl rfl) ?_
    refine wS (svU rfl rfl) ?_
    refine wS (svX rfl rfl h5) ?_
    refine wS (v := (eB true)) (sv (d_pickT rfl h5 rfl)) ?_
    refine OpsW.nil ?_
    refine Ex.then_mk ?_
    exact hG1 _ _ _ _ (Ghost.rn [] rfl rfl (FLe.same rfl (FLe.same rfl FLe.nil)) HLe.nil rfl) (J1 true hr)
  · replace hr := iteF hr h5
    rcases Bool.eq_false_or_eq_true (decide (0 < (b.length : Int))) with h6 | h6
    · replace hr := iteT hr h6
      replace hr := bnd hr; obtain ⟨x18, h_7, hr⟩ := hr
      refine AB.rw ?_
      refine wS (v := (.row none 1 (b.map (eI .u8)))) (sv (d_move rfl)) ?_
      refine wS (v := (eI .i64 (b.length : Int))) (sv (d_len rfl (lenR ti22))) ?_
      refine wS (v := (eB (decide (4 < (b.length : Int))))) (sv (d_bin rfl rfl (bin_gtr ..))) ?_
      refine wS (v := (eB (decide (4 < (b.length : Int))))) (sv (d_move rfl)) ?_
      refine wS (v := (.row none 1 (b.map (eI .u8)))) (svG rfl rfl h5 (d_move rfl)) ?_
      refine wS (v := (eI .i64 (b.length : Int))) (svG rfl rfl h5 (d_len rfl (lenR ti22))) ?_
      refine wS (v := (eB (decide (0 < (b.length : Int))))) (svG rfl rfl h5 (d_bin rfl rfl (bin_gtr ..))) ?_
      refine wS (v := (eB (decide (0 < (b.length : Int))))) (svG rfl rfl h5 (d_move rfl)) ?_
      refine wS (v := (.row none 1 (b.map (eI .u8)))) (svG rfl rfl h6 (d_move rfl)) ?_
      refine wS (v := (.row none 1 (b.map (eI .u8)))) (svG rfl rfl h6 (d_move rfl)) ?_
      refine wS (v := (eI .i64 (b.length : Int))) (svG rfl rfl h6 (d_len rfl (lenR ti22))) ?_
      refine wS (v := (eI .i64 (IntKind.i64.wrap ((b.length : Int) - 1)))) (svG rfl rfl h6 (d_bin rfl rfl (bin_sub ..))) ?_
      refine wS (svG rfl rfl h6 (d_ia rfl rfl (iaR ti22 ti5 h_7))) ?_
      refine wS (v := (eI .u8 x18)) (svG rfl rfl h6 (d_load rfl (ldR h_7 (part1 ti5 rfl rfl)))) ?_
      refine wS (v := (eB (x18 == 0))) (svG rfl rfl h6 (d_bin rfl rfl (bin_eql ..))) ?_
      refine wS (v := (eB (x18 == 0))) (svG rfl rfl h5 (d_pickT rfl h6 rfl)) ?_
      refine wS (v := (eB (x18 == 0))) (sv (d_pickF rfl h5 rfl)) ?_
      refine OpsW.nil ?_
      refine Ex.then_mk ?_
      exact hG1 _ _ _ _ (Ghost.rn [] rfl rfl (FLe.same rfl (FLe.same rfl FLe.nil)) HLe.nil rfl) (J1 (x18 == 0) hr)
    · replace hr := iteF hr h6
      refine AB.rw ?_
      refine wS (v := (.row none 1 (b.map (eI .u8)))) (sv (d_move rfl)) ?_
      refine wS (v := (eI .i64 (b.length : Int))) (sv (d_len rfl (lenR ti22))) ?_
      refine wS (v := (eB (decide (4 < (b.length : Int))))) (sv (d_bin rfl rfl (bin_gtr ..))) ?_
      refine wS (v := (eB (decide (4 < (b.length : Int))))) (sv (d_move rfl)) ?_
      refine wS (v := (.row none 1 (b.map (eI .u8)))) (svG rfl rfl h5 (d_move rfl)) ?_
      refine wS (v := (eI .i64 (b.length : Int))) (svG rfl rfl h5 (d_len rfl (lenR ti22))) ?_
      refine wS (v := (eB (decide (0 < (b.length : Int))))) (svG rfl rfl h5 (d_bin rfl rfl (bin_gtr ..))) ?_
      refine wS (v := (eB (decide (0 < (b.length : Int))))) (svG rfl rfl h5 (d_move rfl)) ?_
      refine wS (svX rfl rfl h6) ?_
      refine wS (svX rfl rfl h6) ?_
      refine wS (svX rfl rfl h6) ?_
      refine wS (svX rfl rfl h6) ?_
      refine wS (svX rfl rfl h6) ?_
      refine wS (svX rfl rfl h6) ?_
      refine wS (svX rfl rfl h6) ?_
      refine wS (v := (eB false)) (svG rfl rfl h5 (d_pickF rfl h6 rfl)) ?_
      refine wS (v := (eB false)) (sv (d_pickF rfl h5 rfl)) ?_
      refine OpsW.nil ?_
      refine Ex.then_mk ?_
      exact hG1 _ _ _ _ (Ghost.rn [] rfl rfl (FLe.same rfl (FLe.same rfl FLe.nil)) HLe.nil rfl) (J1 false hr)
set_option maxRecDepth 20000 in
set_option maxHeartbeats 1000000 in
theorem script_Item_ok (N : Nat) (vn : Int) (r : (List Int)) (hr : script_Item N vn = some r) :
    Vm.Fn Tryd.prog 10 [] [(eI .u32 vn)] (.sl 0 0 r.length 1 false) [some ⟨5, r.map (eI .u8)⟩] := by
  refine fn_ab Tryd.func10 rfl (by kernel_rfl) Tryd.ntmps10 (Nat.le_of_ble_eq_true rfl) rfl (fr := [(0, (eI .u32 vn))]) rfl ?_
  unfold script_Item at hr
  refine AB.seq ?_
  refine AB.rw ?_
  refine wS (v := (.row (some true) 1 [])) (sv (d_assign rfl)) ?_
  refine OpsW.nil ?_
  refine Ex.then_mk ?_
  refine AB.seq ?_
  refine AB.rw ?_
  refine wS (v := (.row (some true) 1 [])) (sv (d_assign rfl)) ?_
  refine OpsW.nil ?_
  refine Ex.then_mk ?_
  refine AB.seq_g fun K1 hK1 hG1 => ?_
  have J1 : ∀ (l0 : List Int), script_Item_J1 N l0 = some r → K1 (mkF 14 [(3, (.sl 0 0 l0.length 1 false))]) [some ⟨5, l0.map (eI .u8)⟩] := by
    intro l0 hr
    unfold script_Item_J1 at hr
    refine hK1 _ _ ?_
    refine AB.seq ?_
    refine AB.rw ?_
    refine wS (v := (.sl 0 0 l0.length 1 false)) (sv (d_move rfl)) ?_
    refine wS (v := (.sl 0 0 l0.length 1 false)) (sv (d_assign rfl)) ?_
    refine OpsW.nil ?_
    refine Ex.then_mk ?_
    refine AB.ret ?_
    obtain rfl := Option.some.inj hr
    exact done_ret (r1 := (.sl 0 0 l0.length 1 false)) (res1 Tryd.results10 (rvT rfl)) (Ghost.rn [0] rfl rfl (FLe.same rfl FLe.nil) (HLe.live rfl (les_map (fun _ => rfl) _) (all_map (fun _ => rfl) _) HLe.nil) rfl)
  replace hr := bnd hr; obtain ⟨res2, hL2, hr⟩ := hr
  refine AB.block ?_
  refine AB.loopN (fun m s h => ∃ (vn_1 : Int) (l0_1 : List Int), script_Item_L2 N m vn_1 l0_1 = some res2 ∧ Ghost 0 s h (mkF 14 [(0, (eI .u32 vn_1)), (3, (.sl 0 0 l0_1.length 1 false))]) [some ⟨5, l0_1.map (eI .u8)⟩]) (n := N) ⟨vn, [], hL2, (Ghost.trans (Ghost.virt (fr' := [(0, (eI .u32 vn)), (3, (.sl 0 0 0 1 false))]) (h1 := []) 5 (FLe.same rfl (FLe.le rfl (V.le_virt rfl) FLe.nil)) HLv.nil) (Ghost.rn [0] rfl rfl (FLe.same rfl (FLe.le rfl (by first | exact V.le_refl _ _ | (simp only [len_set, len_cpy]; exact V.le_refl _ _)) FLe.nil)) (HLe.live rfl V.les_nil rfl HLe.nil) rfl))⟩ (by rintro s h ⟨_, _, h0, _⟩; simp [script_Item_L2] at h0) ?_
  rintro m2 s h ⟨vn_1, l0_1, hr2, hg⟩
  refine AB.ghost hg ?_
  clear hg hL2
  rw [script_Item_L2] at hr2
  refine AB.seq ?_
  refine AB.seq ?_
  refine AB.rw ?_
  refine wS (v := (eI .u32 vn_1)) (sv (d_move rfl)) ?_
  refine wS (v := (eB (decide (0 < vn_1)))) (sv (d_bin rfl rfl (bin_gtr ..))) ?_
  refine OpsW.nil ?_
  refine Ex.then_mk ?_
  refine AB.cnd rfl (fun h1 => ?_) (fun h1 => ?_)
  · replace hr2 := iteT hr2 h1
    refine AB.skip ?_
    refine Ex.then_mk ?_
    refine AB.seq ?_
    refine AB.block ?_
    replace hr2 := bnd hr2; obtain ⟨x12, h_2, hr2⟩ := hr2
    refine AB.rw ?_
    refine wS (v := (.sl 0 0 l0_1.length 1 false)) (sv (d_move rfl)) ?_
    refine wS (v := (eI .u32 vn_1)) (sv (d_move rfl)) ?_
    refine wS (v := (eI .u8 (IntKind.u8.wrap vn_1))) (sv (d_conv rfl (conv_int _ ⟨_, ti23⟩ ti5 rfl))) ?_
    refine wS (v := (.sl 1 0 1 1 false)) (h' := [some ⟨5, l0_1.map (eI .u8)⟩, some ⟨5, [IntKind.u8.wrap vn_1].map (eI .u8)⟩]) (sv (d_buildS rfl (bldL1 (xs := [IntKind.u8.wrap vn_1].map (eI .u8)) ti22 ti5 (Nat.le_of_ble_eq_true rfl) (Nat.le_of_ble_eq_true rfl) rfl rfl rfl rfl rfl rfl rfl))) ?_
    refine wS (v := (.sl 2 0 x12.length 1 false)) (h' := [none, some ⟨5, [IntKind.u8.wrap vn_1].map (eI .u8)⟩, some ⟨5, x12.map (eI .u8)⟩]) (sv (d_append rfl rfl (appS (E := (eI .u8)) rfl ti22 ti5 ⟨rfl, rfl, Nat.le_of_ble_eq_true rfl⟩ rfl (srcS rfl rfl) h_2 rfl rfl))) ?_
    refine wS (v := (.sl 2 0 x12.length 1 false)) (sv (d_assign rfl)) ?_
    refine OpsW.nil ?_
    refine Ex.inBlock_mk ?_
    refine Ex.then_mk ?_
    replace hr2 := bnd hr2; obtain ⟨x7, h_3, hr2⟩ := hr2
    refine AB.rw ?_
    refine wS (v := (eI .u32 vn_1)) (sv (d_move rfl)) ?_
    refine wS (v := (eI .u32 x7)) (sv (d_bin rfl rfl (bin_shr' _ _ _ _ h_3))) ?_
    refine wS (v := (eI .u32 x7)) (sv (d_assign rfl)) ?_
    refine OpsW.nil ?_
    refine Ex.then_mk ?_
    exact ⟨x7, x12, hr2, (Ghost.rn [2] rfl rfl (FLe.same rfl (FLe.same rfl FLe.nil)) (HLe.live rfl (les_map (fun _ => rfl) _) (all_map (fun _ => rfl) _) HLe.nil) rfl)⟩
  · replace hr2 := iteF hr2 h1
    refine AB.exit ?_
    refine Ex.then_exit_mk ?_
    refine Ex.then_exit_mk ?_
    refine Ex.inBlock_same_mk ?_
    obtain rfl := Option.some.inj hr2
    refine Ex.then_mk ?_
    exact hG1 _ _ _ _ (Ghost.rn [0] rfl rfl (FLe.same rfl FLe.nil) (HLe.live rfl (les_map (fun _ => rfl) _) (all_map (fun _ => rfl) _) HLe.nil) rfl) (J1 l0_1 hr)
set_option maxRecDepth 20000 in
set_option maxHeartbeats 1000000 in
theorem ref08_Item_ok (N : Nat) (vn : Int) (r : (List Int)) (hr : ref08_Item N vn = some r) :
    Vm.Fn Tryd.prog 12 [] [(eI .u32 vn)] (.sl 0 0 r.length 1 false) [some ⟨5, r.map (eI .u8)⟩] := by
  refine fn_ab Tryd.func12 rfl (by kernel_rfl) Tryd.ntmps12 (Nat.le_of_ble_eq_true rfl) rfl (fr := [(0, (eI .u32 vn))]) rfl ?_
  unfold ref08_Item at hr
  refine AB.seq ?_
  refine AB.rw ?_
  refine wS (v := (.row (some true) 1 [])) (sv (d_assign rfl)) ?_
  refine OpsW.nil ?_
  refine Ex.then_mk ?_
  refine AB.seq ?_
  refine AB.rw ?_
  refine wS (v := (.row (some true) 1 [])) (sv (d_assign rfl)) ?_
  refine OpsW.nil ?_
  refine Ex.then_mk ?_
  refine AB.seq_g fun K1 hK1 hG1 => ?_
  have J1 : ∀ (l0 : List Int), ref08_Item_J1 N l0 = some r → K1 (mkF 14 [(3, (.sl 0 0 l0.length 1 false))]) [some ⟨5, l0.map (eI .u8)⟩] := by
    intro l0 hr
    unfold ref08_Item_J1 at hr
    refine hK1 _ _ ?_
    refine AB.seq ?_
    refine AB.rw ?_
    refine wS (v := (.sl 0 0 l0.length 1 false)) (sv (d_move rfl)) ?_
    refine wS (v := (.sl 0 0 l0.length 1 false)) (sv (d_assign rfl)) ?_
    refine OpsW.nil ?_
    refine Ex.then_mk ?_
    refine AB.ret ?_
    obtain rfl := Option.some.inj hr
    exact done_ret (r1 := (.sl 0 0 l0.length 1 false)) (res1 Tryd.results12 (rvT rfl)) (Ghost.rn [0] rfl rfl (FLe.same rfl FLe.nil) (HLe.live rfl (les_map (fun _ => rfl) _) (all_map (fun _ => rfl) _) HLe.nil) rfl)
  replace hr := bnd hr; obtain ⟨res2, hL2, hr⟩ := hr
  refine AB.block ?_
  refine AB.loopN (fun m s h => ∃ (vn_1 : Int) (l0_1 : List Int), ref08_Item_L2 N m vn_1 l0_1 = some res2 ∧ Ghost 0 s h (mkF 14 [(0, (eI .u32 vn_1)), (3, (.sl 0 0 l0_1.length 1 false))]) [some ⟨5, l0_1.map (eI .u8)⟩]) (n := N) ⟨vn, [], hL2, (Ghost.trans (Ghost.virt (fr' := [(0, (eI .u32 vn)), (3, (.sl 0 0 0 1 false))]) (h1 := []) 5 (FLe.same rfl (FLe.le rfl (V.le_virt rfl) FLe.nil)) HLv.nil) (Ghost.rn [0] rfl rfl (FLe.same rfl (FLe.le rfl (by first | exact V.le_refl _ _ | (simp only [len_set, len_cpy]; exact V.le_refl _ _)) FLe.nil)) (HLe.live rfl V.les_nil rfl HLe.nil) rfl))⟩ (by rintro s h ⟨_, _, h0, _⟩; simp [ref08_Item_L2] at h0) ?_
  rintro m2 s h ⟨vn_1, l0_1, hr2, hg⟩
  refine AB.ghost hg ?_
  clear hg hL2
  rw [ref08_Item_L2] at hr2
  refine AB.seq ?_
  refine AB.seq ?_
  refine AB.rw ?_
  refine wS (v := (eI .u32 vn_1)) (sv (d_move rfl)) ?_
  refine wS (v := (eB (decide (0 < vn_1)))) (sv (d_bin rfl rfl (bin_gtr ..))) ?_
  refine OpsW.nil ?_
  refine Ex.then_mk ?_
  refine AB.cnd rfl (fun h1 => ?_) (fun h1 => ?_)
  · replace hr2 := iteT hr2 h1
    refine AB.skip ?_
    refine Ex.then_mk ?_
    refine AB.seq ?_
    refine AB.block ?_
    replace hr2 := bnd hr2; obtain ⟨x12, h_2, hr2⟩ := hr2
    refine AB.rw ?_
    refine wS (v := (.sl 0 0 l0_1.length 1 false)) (sv (d_move rfl)) ?_
    refine wS (v := (eI .u32 vn_1)) (sv (d_move rfl)) ?_
    refine wS (v := (eI .u8 (IntKind.u8.wrap vn_1))) (sv (d_conv rfl (conv_int _ ⟨_, ti23⟩ ti5 rfl))) ?_
    refine wS (v := (.sl 1 0 1 1 false)) (h' := [some ⟨5, l0_1.map (eI .u8)⟩, some ⟨5, [IntKind.u8.wrap vn_1].map (eI .u8)⟩]) (sv (d_buildS rfl (bldL1 (xs := [IntKind.u8.wrap vn_1].map (eI .u8)) ti22 ti5 (Nat.le_of_ble_eq_true rfl) (Nat.le_of_ble_eq_true rfl) rfl rfl rfl rfl rfl rfl rfl))) ?_
    refine wS (v := (.sl 2 0 x12.length 1 false)) (h' := [none, some ⟨5, [IntKind.u8.wrap vn_1].map (eI .u8)⟩, some ⟨5, x12.map (eI .u8)⟩]) (sv (d_append rfl rfl (appS (E := (eI .u8)) rfl ti22 ti5 ⟨rfl, rfl, Nat.le_of_ble_eq_true rfl⟩ rfl (srcS rfl rfl) h_2 rfl rfl))) ?_
    refine wS (v := (.sl 2 0 x12.length 1 false)) (sv (d_assign rfl)) ?_
    refine OpsW.nil ?_
    refine Ex.inBlock_mk ?_
    refine Ex.then_mk ?_
    refine AB.rw ?_
    refine wS (v := (eI .u32 vn_1)) (sv (d_move rfl)) ?_
    refine wS (v := (eI .u32 (IntKind.u32.wrap (Int.tdiv vn_1 256)))) (sv (d_bin rfl rfl (bin_quo' _ _ _ _ rfl))) ?_
    refine wS (v := (eI .u32 (IntKind.u32.wrap (Int.tdiv vn_1 256)))) (sv (d_assign rfl)) ?_
    refine OpsW.nil ?_
    refine Ex.then_mk ?_
    exact ⟨IntKind.u32.wrap (Int.tdiv vn_1 256), x12, hr2, (Ghost.rn [2] rfl rfl (FLe.same rfl (FLe.same rfl FLe.nil)) (HLe.live rfl (les_map (fun _ => rfl) _) (all_map (fun _ => rfl) _) HLe.nil) rfl)⟩
  · replace hr2 := iteF hr2 h1
    refine AB.exit ?_
    refine Ex.then_exit_mk ?_
    refine Ex.then_exit_mk ?_
    refine Ex.inBlock_same_mk ?_
    obtain rfl := Option.some.inj hr2
    refine Ex.then_mk ?_
    exact hG1 _ _ _ _ (Ghost.rn [0] rfl rfl (FLe.same rfl FLe.nil) (HLe.live rfl (les_map (fun _ => rfl) _) (all_map (fun _ => rfl) _) HLe.nil) rfl) (J1 l0_1 hr)
set_option maxRecDepth 20000 in
set_option maxHeartbeats 1000000 in
theorem ref01_Same_ok (N : Nat) (va : List Int) (b : List Int) (r : Bool) (hr : ref01_Same N va b = some r) :
    Vm.Fn Tryd.prog 11 [] [(.row none 1 (va.map (eI .u8))), (.row none 1 (b.map (eI .u8)))] (eB r) [] := by
  refine fn_ab Tryd.func11 rfl (by kernel_rfl) Tryd.ntmps11 (Nat.le_of_ble_eq_true rfl) rfl (fr := [(0, (.row none 1 (va.map (eI .u8)))), (1, (.row none 1 (b.map (eI .u8))))]) rfl ?_
  unfold ref01_Same at hr
  refine AB.seq ?_
  refine AB.rw ?_
  refine wS (v := (eB false)) (sv (d_assign rfl)) ?_
  refine OpsW.nil ?_
  refine Ex.then_mk ?_
  refine AB.seq ?_
  refine AB.rw ?_
  refine wS (v := (.row none 1 (va.map (eI .u8)))) (sv (d_move rfl)) ?_
  refine wS (v := (eS (strOf va))) (sv (d_conv rfl (convB ti22 ti9 ti5 (srcR (fun _ => rfl))))) ?_
  refine wS (v := (.row none 1 (b.map (eI .u8)))) (sv (d_move rfl)) ?_
  refine wS (v := (eS (strOf b))) (sv (d_conv rfl (convB ti22 ti9 ti5 (srcR (fun _ => rfl))))) ?_
  refine wS (v := (eB ((strOf va).toList == (strOf b).toList))) (sv (d_bin rfl rfl (bin_eqlS ..))) ?_
  refine wS (v := (eB ((strOf va).toList == (strOf b).toList))) (sv (d_assign rfl)) ?_
  refine OpsW.nil ?_
  refine Ex.then_mk ?_
  refine AB.ret ?_
  obtain rfl := Option.some.inj hr
  exact done_ret (r1 := (eB ((strOf va).toList == (strOf b).toList))) (res1 Tryd.results11 (rvT rfl)) (Ghost.rn [] rfl rfl (FLe.same rfl FLe.nil) HLe.nil rfl)
set_option maxRecDepth 20000 in
set_option maxHeartbeats 1000000 in
theorem law08_ScriptNumbers_ok (N : Nat) (b : List Int) (vn : Int) (r : Bool) (hr : law08_ScriptNumbers N b vn = some r) :
    Vm.Fn Tryd.prog 3 [] [(.row none 1 (b.map (eI .u8))), (eI .u32 vn)] (eB r) [] := by
  refine fn_ab Tryd.func3 rfl (by kernel_rfl) Tryd.ntmps3 (Nat.le_of_ble_eq_true rfl) rfl (fr := [(0, (.row none 1 (b.map (eI .u8)))), (1, (eI .u32 vn))]) rfl ?_
  unfold law08_ScriptNumbers at hr
  refine AB.seq ?_
  refine AB.rw ?_
  refine wS (v := (eB false)) (sv (d_assign rfl)) ?_
  refine OpsW.nil ?_
  refine Ex.then_mk ?_
  refine AB.seq ?_
  refine AB.seq ?_
  replace hr := bnd hr; obtain ⟨x11, h_1, hr⟩ := hr
  refine AB.rw ?_
  refine wC (v := (eB x11)) (h' := []) rfl (Vm.Fn.pure (law08_sane_ok N x11 h_1) rfl rfl) ?_
  refine wS (v := (eB (!x11))) (sv (d_un rfl (un_not _ _))) ?_
  refine OpsW.nil ?_
  refine Ex.then_mk ?_
  refine AB.cnd rfl (fun h2 => ?_) (fun h2 => ?_)
  · replace hr := iteT hr h2
    refine AB.seq ?_
    refine AB.rw ?_
    refine wS (v := (eB false)) (sv (d_assign rfl)) ?_
    refine OpsW.nil ?_
    refine Ex.then_mk ?_
    refine AB.ret ?_
    refine Ex.then_ret_mk ?_
    obtain rfl := Option.some.inj hr
    exact done_ret (r1 := (eB false)) (res1 Tryd.results3 (rvT rfl)) (Ghost.rn [] rfl rfl (FLe.same rfl FLe.nil) HLe.nil rfl)
  · replace hr := iteF hr h2
    refine AB.skip ?_
    refine Ex.then_mk ?_
    refine AB.seq ?_
    replace hr := bnd hr; obtain ⟨x15, h_3, hr⟩ := hr
    refine AB.rw ?_
    refine wS (v := (.row none 1 (b.map (eI .u8)))) (sv (d_move rfl)) ?_
    refine wC (v := (.tup [(eI .u32 x15.1), (eI .i64 x15.2)])) (h' := []) rfl (Vm.Fn.pure (script_Number_ok N b x15 h_3) rfl rfl) ?_
    refine wS (v := (.tup [(eI .u32 x15.1), (eI .i64 x15.2)])) (sv (d_move rfl)) ?_
    refine wS (v := (eI .u32 x15.1)) (sv (d_ext rfl rfl)) ?_
    refine wS (v := (eI .i64 x15.2)) (sv (d_ext rfl rfl)) ?_
    refine wS (v := (eI .u32 x15.1)) (sv (d_assign rfl)) ?_
    refine wS (v := (eI .i64 x15.2)) (sv (d_assign rfl)) ?_
    refine OpsW.nil ?_
    refine Ex.then_mk ?_
    refine AB.seq ?_
    replace hr := bnd hr; obtain ⟨x20, h_4, hr⟩ := hr
    refine AB.rw ?_
    refine wS (v := (.row none 1 (b.map (eI .u8)))) (sv (d_move rfl)) ?_
    refine wC (v := (.tup [(eI .u32 x20.1), (eI .i64 x20.2)])) (h' := []) rfl (Vm.Fn.pure (ref08_Number_ok N b x20 h_4) rfl rfl) ?_
    refine wS (v := (.tup [(eI .u32 x20.1), (eI .i64 x20.2)])) (sv (d_move rfl)) ?_
    refine wS (v := (eI .u32 x20.1)) (sv (d_ext rfl rfl)) ?_
    refine wS (v := (eI .i64 x20.2)) (sv (d_ext rfl rfl)) ?_
    refine wS (v := (eI .u32 x20.1)) (sv (d_assign rfl)) ?_
    refine wS (v := (eI .i64 x20.2)) (sv (d_assign rfl)) ?_
    refine OpsW.nil ?_
    refine Ex.then_mk ?_
    refine AB.seq ?_
    replace hr := bnd hr; obtain ⟨x25, h_5, hr⟩ := hr
    replace hr := bnd hr; obtain ⟨x26, h_6, hr⟩ := hr
    refine AB.rw ?_
    refine wS (v := (eI .u32 vn)) (sv (d_move rfl)) ?_
    refine wC (v := (.sl 0 0 x25.length 1 false)) (h' := [some ⟨5, x25.map (eI .u8)⟩]) rfl (Vm.Fn.lendB (script_Item_ok N vn x25 h_5) [] (by decide) rfl Lend.nil rfl rfl (by simp only [lent, lendSet, lendSet_nil, rnH, Blk.rn, V.rns, V.rn, sg, List.map_cons, List.map_nil, Option.map_some, Option.map_none, List.drop_succ_cons, List.drop_zero, List.drop_nil, List.set_cons_zero, List.set_cons_succ, List.cons_append, List.nil_append, List.append_nil, rns_eI, rns_eB, rns_eS, rns_eL, List.getElem?_cons_zero, List.getElem?_cons_succ, List.getElem?_nil, List.length_cons, List.length_nil, Nat.reduceAdd, Nat.reduceSub, Nat.add_zero, Nat.zero_add, Nat.sub_self, Nat.sub_zero])) ?_
    refine wC (v := (.tup [(eI .u32 x26.1), (eI .i64 x26.2)])) (h' := [some ⟨5, x25.map (eI .u8)⟩]) rfl (Vm.Fn.lendR (script_Number_ok N x25 x26 h_6) [] [0] (by decide) rfl (by decide) Lend.nil (Brw.row (exp_slT rfl rfl (fun _ => rfl)) Brw.nil) rfl rfB.nil rfl (by simp only [lent, lendSet, lendSet_nil, rnH, Blk.rn, V.rns, V.rn, sg, List.map_cons, List.map_nil, Option.map_some, Option.map_none, List.drop_succ_cons, List.drop_zero, List.drop_nil, List.set_cons_zero, List.set_cons_succ, List.cons_append, List.nil_append, List.append_nil, rns_eI, rns_eB, rns_eS, rns_eL, List.getElem?_cons_zero, List.getElem?_cons_succ, List.getElem?_nil, List.length_cons, List.length_nil, Nat.reduceAdd, Nat.reduceSub, Nat.add_zero, Nat.zero_add, Nat.sub_self, Nat.sub_zero])) ?_
    refine wS (v := (.tup [(eI .u32 x26.1), (eI .i64 x26.2)])) (sv (d_move rfl)) ?_
    refine wS (v := (eI .u32 x26.1)) (sv (d_ext rfl rfl)) ?_
    refine wS (v := (eI .i64 x26.2)) (sv (d_ext rfl rfl)) ?_
    refine wS (v := (eI .u32 x26.1)) (sv (d_assign rfl)) ?_
    refine wS (v := (eI .i64 x26.2)) (sv (d_assign rfl)) ?_
    refine OpsW.nil ?_
    refine Ex.then_mk ?_
    refine AB.seq_g fun K1 hK1 hG1 => ?_
    have J1 : ∀ (x4 : Bool), law08_ScriptNumbers_J1 N x4 = some r → K1 (mkF 53 [(4, (eB x4))]) [] := by
      intro x4 hr
      unfold law08_ScriptNumbers_J1 at hr
      refine hK1 _ _ ?_
      refine AB.ret ?_
      obtain rfl := Option.some.inj hr
      exact done_ret (r1 := (eB x4)) (res1 Tryd.results3 (rvT rfl)) (Ghost.rn [] rfl rfl (FLe.same rfl FLe.nil) HLe.nil rfl)
    rcases Bool.eq_false_or_eq_true (x15.1 == x20.1) with h7 | h7
    · replace hr := iteT hr h7
      rcases Bool.eq_false_or_eq_true (x15.2 == x20.2) with h8 | h8
      · replace hr := iteT hr h8
        replace hr := bnd hr; obtain ⟨x41, h_9, hr⟩ := hr
        replace hr := bnd hr; obtain ⟨x42, h_10, hr⟩ := hr
        rcases Bool.eq_false_or_eq_true x42 with h11 | h11
        · replace hr := iteT hr h11
          rcases Bool.eq_false_or_eq_true (x26.1 == vn) with h12 | h12
          · replace hr := iteT hr h12
            refine AB.rw ?_
            refine wS (v := (eI .u32 x15.1)) (sv (d_move rfl)) ?_
            refine wS (v := (eI .u32 x20.1)) (sv (d_move rfl)) ?_
            refine wS (v := (eB (x15.1 == x20.1))) (sv (d_bin rfl rfl (bin_eql ..))) ?_
            refine wS (v := (eB (x15.1 == x20.1))) (sv (d_move rfl)) ?_
            refine wS (v := (eI .i64 x15.2)) (svG rfl rfl h7 (d_move rfl)) ?_
            refine wS (v := (eI .i64 x20.2)) (svG rfl rfl h7 (d_move rfl)) ?_
            refine wS (v := (eB (x15.2 == x20.2))) (svG rfl rfl h7 (d_bin rfl rfl (bin_eql ..))) ?_
            refine wS (v := (eB (x15.2 == x20.2))) (sv (d_pickT rfl h7 rfl)) ?_
            refine wS (v := (eB (x15.2 == x20.2))) (sv (d_move rfl)) ?_
            refine wS (v := (eI .u32 vn)) (svG rfl rfl h8 (d_move rfl)) ?_
            refine wCG (v := (.sl 1 0 x25.length 1 false)) (h' := [some ⟨5, x25.map (eI .u8)⟩, some ⟨5, x25.map (eI .u8)⟩]) rfl rfl h8 rfl (Vm.Fn.lendB (script_Item_ok N vn x25 h_5) [] (by decide) rfl Lend.nil rfl rfl (by simp only [lent, lendSet, lendSet_nil, rnH, Blk.rn, V.rns, V.rn, sg, List.map_cons, List.map_nil, Option.map_some, Option.map_none, List.drop_succ_cons, List.drop_zero, List.drop_nil, List.set_cons_zero, List.set_cons_succ, List.cons_append, List.nil_append, List.append_nil, rns_eI, rns_eB, rns_eS, rns_eL, List.getElem?_cons_zero, List.getElem?_cons_succ, List.getElem?_nil, List.length_cons, List.length_nil, Nat.reduceAdd, Nat.reduceSub, Nat.add_zero, Nat.zero_add, Nat.sub_self, Nat.sub_zero])) ?_
            refine wS (v := (eI .u32 vn)) (svG rfl rfl h8 (d_move rfl)) ?_
            refine wCG (v := (.sl 2 0 x41.length 1 false)) (h' := [some ⟨5, x25.map (eI .u8)⟩, some ⟨5, x25.map (eI .u8)⟩, some ⟨5, x41.map (eI .u8)⟩]) rfl rfl h8 rfl (Vm.Fn.lendB (ref08_Item_ok N vn x41 h_9) [] (by decide) rfl Lend.nil rfl rfl (by simp only [lent, lendSet, lendSet_nil, rnH, Blk.rn, V.rns, V.rn, sg, List.map_cons, List.map_nil, Option.map_some, Option.map_none, List.drop_succ_cons, List.drop_zero, List.drop_nil, List.set_cons_zero, List.set_cons_succ, List.cons_append, List.nil_append, List.append_nil, rns_eI, rns_eB, rns_eS, rns_eL, List.getElem?_cons_zero, List.getElem?_cons_succ, List.getElem?_nil, List.length_cons, List.length_nil, Nat.reduceAdd, Nat.reduceSub, Nat.add_zero, Nat.zero_add, Nat.sub_self, Nat.sub_zero])) ?_
            refine wCG (v := (eB x42)) (h' := [some ⟨5, x25.map (eI .u8)⟩, some ⟨5, x25.map (eI .u8)⟩, some ⟨5, x41.map (eI .u8)⟩]) rfl rfl h8 rfl (Vm.Fn.lendR (ref01_Same_ok N x25 x41 x42 h_10) [] [1, 2] (by decide) rfl (by decide) Lend.nil (Brw.row (exp_slT rfl rfl (fun _ => rfl)) (Brw.row (exp_slT rfl rfl (fun _ => rfl)) Brw.nil)) rfl rfB.nil rfl (by simp only [lent, lendSet, lendSet_nil, rnH, Blk.rn, V.rns, V.rn, sg, List.map_cons, List.map_nil, Option.map_some, Option.map_none, List.drop_succ_cons, List.drop_zero, List.drop_nil, List.set_cons_zero, List.set_cons_succ, List.cons_append, List.nil_append, List.append_nil, rns_eI, rns_eB, rns_eS, rns_eL, List.getElem?_cons_zero, List.getElem?_cons_succ, List.getElem?_nil, List.length_cons, List.length_nil, Nat.reduceAdd, Nat.reduceSub, Nat.add_zero, Nat.zero_add, Nat.sub_self, Nat.sub_zero])) ?_
            refine wS (v := (eB x42)) (sv (d_pickT rfl h8 rfl)) ?_
            refine wS (v := (eB x42)) (sv (d_move rfl)) ?_
            refine wS (v := (eI .u32 x26.1)) (svG rfl rfl h11 (d_move rfl)) ?_
            refine wS (v := (eI .u32 vn)) (svG rfl rfl h11 (d_move rfl)) ?_
            refine wS (v := (eB (x26.1 == vn))) (svG rfl rfl h11 (d_bin rfl rfl (bin_eql ..))) ?_
            refine wS (v := (eB (x26.1 == vn))) (sv (d_pickT rfl h11 rfl)) ?_
            refine wS (v := (eB (x26.1 == vn))) (sv (d_move rfl)) ?_
            refine wS (v := (eI .i64 x26.2)) (svG rfl rfl h12 (d_move rfl)) ?_
            refine wS (v := (eB (x26.2 == 0))) (svG rfl rfl h12 (d_bin rfl rfl (bin_eql ..))) ?_
            refine wS (v := (eB (x26.2 == 0))) (sv (d_pickT rfl h12 rfl)) ?_
            refine wS (v := (eB (x26.2 == 0))) (sv (d_assign rfl)) ?_
            refine OpsW.nil ?_
            refine Ex.then_mk ?_
            exact hG1 _ _ _ _ (Ghost.rn [] rfl rfl (FLe.same rfl FLe.nil) HLe.nil rfl) (J1 (x26.2 == 0) hr)
          · replace hr := iteF hr h12
            refine AB.rw ?_
            refine wS (v := (eI .u32 x15.1)) (sv (d_move rfl)) ?_
            refine wS (v := (eI .u32 x20.1)) (sv (d_move rfl)) ?_
            refine wS (v := (eB (x15.1 == x20.1))) (sv (d_bin rfl rfl (bin_eql ..))) ?_
            refine wS (v := (eB (x15.1 == x20.1))) (sv (d_move rfl)) ?_
            refine wS (v := (eI .i64 x15.2)) (svG rfl rfl h7 (d_move rfl)) ?_
            refine wS (v := (eI .i64 x20.2)) (svG rfl rfl h7 (d_move rfl)) ?_
            refine wS (v := (eB (x15.2 == x20.2))) (svG rfl rfl h7 (d_bin rfl rfl (bin_eql ..))) ?_
            refine wS (v := (eB (x15.2 == x20.2))) (sv (d_pickT rfl h7 rfl)) ?_
            refine wS (v := (eB (x15.2 == x20.2))) (sv (d_move rfl)) ?_
            refine wS (v := (eI .u32 vn)) (svG rfl rfl h8 (d_move rfl)) ?_
            refine wCG (v := (.sl 1 0 x25.length 1 false)) (h' := [some ⟨5, x25.map (eI .u8)⟩, some ⟨5, x25.map (eI .u8)⟩]) rfl rfl h8 rfl (Vm.Fn.lendB (script_Item_ok N vn x25 h_5) [] (by decide) rfl Lend.nil rfl rfl (by simp only [lent, lendSet, lendSet_nil, rnH, Blk.rn, V.rns, V.rn, sg, List.map_cons, List.map_nil, Option.map_some, Option.map_none, List.drop_succ_cons, List.drop_zero, List.drop_nil, List.set_cons_zero, List.set_cons_succ, List.cons_append, List.nil_append, List.append_nil, rns_eI, rns_eB, rns_eS, rns_eL, List.getElem?_cons_zero, List.getElem?_cons_succ, List.getElem?_nil, List.length_cons, List.length_nil, Nat.reduceAdd, Nat.reduceSub, Nat.add_zero, Nat.zero_add, Nat.sub_self, Nat.sub_zero])) ?_
            refine wS (v := (eI .u32 vn)) (svG rfl rfl h8 (d_move rfl)) ?_
            refine wCG (v := (.sl 2 0 x41.length 1 false)) (h' := [some ⟨5, x25.map (eI .u8)⟩, some ⟨5, x25.map (eI .u8)⟩, some ⟨5, x41.map (eI .u8)⟩]) rfl rfl h8 rfl (Vm.Fn.lendB (ref08_Item_ok N vn x41 h_9) [] (by decide) rfl Lend.nil rfl rfl (by simp only [lent, lendSet, lendSet_nil, rnH, Blk.rn, V.rns, V.rn, sg, List.map_cons, List.map_nil, Option.map_some, Option.map_none, List.drop_succ_cons, List.drop_zero, List.drop_nil, List.set_cons_zero, List.set_cons_succ, List.cons_append, List.nil_append, List.append_nil, rns_eI, rns_eB, rns_eS, rns_eL, List.getElem?_cons_zero, List.getElem?_cons_succ, List.getElem?_nil, List.length_cons, List.length_nil, Nat.reduceAdd, Nat.reduceSub, Nat.add_zero, Nat.zero_add, Nat.sub_self, Nat.sub_zero])) ?_
            refine wCG (v := (eB x42)) (h' := [some ⟨5, x25.map (eI .u8)⟩, some ⟨5, x25.map (eI .u8)⟩, some ⟨5, x41.map (eI .u8)⟩]) rfl rfl h8 rfl (Vm.Fn.lendR (ref01_Same_ok N x25 x41 x42 h_10) [] [1, 2] (by decide) rfl (by decide) Lend.nil (Brw.row (exp_slT rfl rfl (fun _ => rfl)) (Brw.row (exp_slT rfl rfl (fun _ => rfl)) Brw.nil)) rfl rfB.nil rfl (by simp only [lent, lendSet, lendSet_nil, rnH, Blk.rn, V.rns, V.rn, sg, List.map_cons, List.map_nil, Option.map_some, Option.map_none, List.drop_succ_cons, List.drop_zero, List.drop_nil, List.set_cons_zero, List.set_cons_succ, List.cons_append, List.nil_append, List.append_nil, rns_eI, rns_eB, rns_eS, rns_eL, List.getElem?_cons_zero, List.getElem?_cons_succ, List.getElem?_nil, List.length_cons, List.length_nil, Nat.reduceAdd, Nat.reduceSub, Nat.add_zero, Nat.zero_add, Nat.sub_self, Nat.sub_zero])) ?_
            refine wS (v := (eB x42)) (sv (d_pickT rfl h8 rfl)) ?_
            refine wS (v := (eB x42)) (sv (d_move rfl)) ?_
            refine wS (v := (eI .u32 x26.1)) (svG rfl rfl h11 (d_move rfl)) ?_
            refine wS (v := (eI .u32 vn)) (svG rfl rfl h11 (d_move rfl)) ?_
            refine wS (v := (eB (x26.1 == vn))) (svG rfl rfl h11 (d_bin rfl rfl (bin_eql ..))) ?_
            refine wS (v := (eB (x26.1 == vn))) (sv (d_pickT rfl h11 rfl)) ?_
            refine wS (v := (eB (x26.1 == vn))) (sv (d_move rfl)) ?_
            refine wS (svX rfl rfl h12) ?_
            refine wS (svX rfl rfl h12) ?_
            refine wS (v := (eB false)) (sv (d_pickF rfl h12 rfl)) ?_
            refine wS (v := (eB false)) (sv (d_assign rfl)) ?_
            refine OpsW.nil ?_
            refine Ex.then_mk ?_
            exact hG1 _ _ _ _ (Ghost.rn [] rfl rfl (FLe.same rfl FLe.nil) HLe.nil rfl) (J1 false hr)
        · replace hr := iteF hr h11
          refine AB.rw ?_
          refine wS (v := (eI .u32 x15.1)) (sv (d_move rfl)) ?_
          refine wS (v := (eI .u32 x20.1)) (sv (d_move rfl)) ?_
          refine wS (v := (eB (x15.1 == x20.1))) (sv (d_bin rfl rfl (bin_eql ..))) ?_
          refine wS (v := (eB (x15.1 == x20.1))) (sv (d_move rfl)) ?_
          refine wS (v := (eI .i64 x15.2)) (svG rfl rfl h7 (d_move rfl)) ?_
          refine wS (v := (eI .i64 x20.2)) (svG rfl rfl h7 (d_move rfl)) ?_
          refine wS (v := (eB (x15.2 == x20.2))) (svG rfl rfl h7 (d_bin rfl rfl (bin_eql ..))) ?_
          refine wS (v := (eB (x15.2 == x20.2))) (sv (d_pickT rfl h7 rfl)) ?_
          refine wS (v := (eB (x15.2 == x20.2))) (sv (d_move rfl)) ?_
          refine wS (v := (eI .u32 vn)) (svG rfl rfl h8 (d_move rfl)) ?_
          refine wCG (v := (.sl 1 0 x25.length 1 false)) (h' := [some ⟨5, x25.map (eI .u8)⟩, some ⟨5, x25.map (eI .u8)⟩]) rfl rfl h8 rfl (Vm.Fn.lendB (script_Item_ok N vn x25 h_5) [] (by decide) rfl Lend.nil rfl rfl (by simp only [lent, lendSet, lendSet_nil, rnH, Blk.rn, V.rns, V.rn, sg, List.map_cons, List.map_nil, Option.map_some, Option.map_none, List.drop_succ_cons, List.drop_zero, List.drop_nil, List.set_cons_zero, List.set_cons_succ, List.cons_append, List.nil_append, List.append_nil, rns_eI, rns_eB, rns_eS, rns_eL, List.getElem?_cons_zero, List.getElem?_cons_succ, List.getElem?_nil, List.length_cons, List.length_nil, Nat.reduceAdd, Nat.reduceSub, Nat.add_zero, Nat.zero_add, Nat.sub_self, Nat.sub_zero])) ?_
          refine wS (v := (eI .u32 vn)) (svG rfl rfl h8 (d_move rfl)) ?_
          refine wCG (v := (.sl 2 0 x41.length 1 false)) (h' := [some ⟨5, x25.map (eI .u8)⟩, some ⟨5, x25.map (eI .u8)⟩, some ⟨5, x41.map (eI .u8)⟩]) rfl rfl h8 rfl (Vm.Fn.lendB (ref08_Item_ok N vn x41 h_9) [] (by decide) rfl Lend.nil rfl rfl (by simp only [lent, lendSet, lendSet_nil, rnH, Blk.rn, V.rns, V.rn, sg, List.map_cons, List.map_nil, Option.map_some, Option.map_none, List.drop_succ_cons, List.drop_zero, List.drop_nil, List.set_cons_zero, List.set_cons_succ, List.cons_append, List.nil_append, List.append_nil, rns_eI, rns_eB, rns_eS, rns_eL, List.getElem?_cons_zero, List.getElem?_cons_succ, List.getElem?_nil, List.length_cons, List.length_nil, Nat.reduceAdd, Nat.reduceSub, Nat.add_zero, Nat.zero_add, Nat.sub_self, Nat.sub_zero])) ?_
          refine wCG (v := (eB x42)) (h' := [some ⟨5, x25.map (eI .u8)⟩, some ⟨5, x25.map (eI .u8)⟩, some ⟨5, x41.map (eI .u8)⟩]) rfl rfl h8 rfl (Vm.Fn.lendR (ref01_Same_ok N x25 x41 x42 h_10) [] [1, 2] (by decide) rfl (by decide) Lend.nil (Brw.row (exp_slT rfl rfl (fun _ => rfl)) (Brw.row (exp_slT rfl rfl (fun _ => rfl)) Brw.nil)) rfl rfB.nil rfl (by simp only [lent, lendSet, lendSet_nil, rnH, Blk.rn, V.rns, V.rn, sg, List.map_cons, List.map_nil, Option.map_some, Option.map_none, List.drop_succ_cons, List.drop_zero, List.drop_nil, List.set_cons_zero, List.set_cons_succ, List.cons_append, List.nil_append, List.append_nil, rns_eI, rns_eB, rns_eS, rns_eL, List.getElem?_cons_zero, List.getElem?_cons_succ, List.getElem?_nil, List.length_cons, List.length_nil, Nat.reduceAdd, Nat.reduceSub, Nat.add_zero, Nat.zero_add, Nat.sub_self, Nat.sub_zero])) ?_
          refine wS (v := (eB x42)) (sv (d_pickT rfl h8 rfl)) ?_
          refine wS (v := (eB x42)) (sv (d_move rfl)) ?_
          refine wS (svX rfl rfl h11) ?_
          refine wS (svX rfl rfl h11) ?_
          refine wS (svX rfl rfl h11) ?_
          refine wS (v := (eB false)) (sv (d_pickF rfl h11 rfl)) ?_
          refine wS (v := (eB false)) (sv (d_move rfl)) ?_
          refine wS (svX rfl rfl rfl) ?_
          refine wS (svX rfl rfl rfl) ?_
          refine wS (v := (eB false)) (sv (d_pickF rfl rfl rfl)) ?_
          refine wS (v := (eB false)) (sv (d_assign rfl)) ?_
          refine OpsW.nil ?_
          refine Ex.then_mk ?_
          exact hG1 _ _ _ _ (Ghost.rn [] rfl rfl (FLe.same rfl FLe.nil) HLe.nil rfl) (J1 false hr)
      · replace hr := iteF hr h8
        refine AB.rw ?_
        refine wS (v := (eI .u32 x15.1)) (sv (d_move rfl)) ?_
        refine wS (v := (eI .u32 x20.1)) (sv (d_move rfl)) ?_
        refine wS (v := (eB (x15.1 == x20.1))) (sv (d_bin rfl rfl (bin_eql ..))) ?_
        refine wS (v := (eB (x15.1 == x20.1))) (sv (d_move rfl)) ?_
        refine wS (v := (eI .i64 x15.2)) (svG rfl rfl h7 (d_move rfl)) ?_
        refine wS (v := (eI .i64 x20.2)) (svG rfl rfl h7 (d_move rfl)) ?_
        refine wS (v := (eB (x15.2 == x20.2))) (svG rfl rfl h7 (d_bin rfl rfl (bin_eql ..))) ?_
        refine wS (v := (eB (x15.2 == x20.2))) (sv (d_pickT rfl h7 rfl)) ?_
        refine wS (v := (eB (x15.2 == x20.2))) (sv (d_move rfl)) ?_
        refine wS (svX rfl rfl h8) ?_
        refine wS (svX rfl rfl h8) ?_
        refine wS (svX rfl rfl h8) ?_
        refine wS (svX rfl rfl h8) ?_
        refine wS (svX rfl rfl h8) ?_
        refine wS (v := (eB false)) (sv (d_pickF rfl h8 rfl)) ?_
        refine wS (v := (eB false)) (sv (d_move rfl)) ?_
        refine wS (svX rfl rfl rfl) ?_
        refine wS (svX rfl rfl rfl) ?_
        refine wS (svX rfl rfl rfl) ?_
        refine wS (v := (eB false)) (sv (d_pickF rfl rfl rfl)) ?_
        refine wS (v := (eB false)) (sv (d_move rfl)) ?_
        refine wS (svX rfl rfl rfl) ?_
        refine wS (svX rfl rfl rfl) ?_
        refine wS (v := (eB false)) (sv (d_pickF rfl rfl rfl)) ?_
        refine wS (v := (eB false)) (sv (d_assign rfl)) ?_
        refine OpsW.nil ?_
        refine Ex.then_mk ?_
        exact hG1 _ _ _ _ (Ghost.rn [] rfl rfl (FLe.same rfl FLe.nil) HLe.nil rfl) (J1 false hr)
    · replace hr := iteF hr h7
      refine AB.rw ?_
      refine wS (v := (eI .u32 x15.1)) (sv (d_move rfl)) ?_
      refine wS (v := (eI .u32 x20.1)) (sv (d_move rfl)) ?_
      refine wS (v := (eB (x15.1 == x20.1))) (sv (d_bin rfl rfl (bin_eql ..))) ?_
      refine wS (v := (eB (x15.1 == x20.1))) (sv (d_move rfl)) ?_
      refine wS (svX rfl rfl h7) ?_
      refine wS (svX rfl rfl h7) ?_
      refine wS (svX rfl rfl h7) ?_
      refine wS (v := (eB false)) (sv (d_pickF rfl h7 rfl)) ?_
      refine wS (v := (eB false)) (sv (d_move rfl)) ?_
      refine wS (svX rfl rfl rfl) ?_
      refine wS (svX rfl rfl rfl) ?_
      refine wS (svX rfl rfl rfl) ?_
      refine wS (svX rfl rfl rfl) ?_
      refine wS (svX rfl rfl rfl) ?_
      refine wS (v := (eB false)) (sv (d_pickF rfl rfl rfl)) ?_
      refine wS (v := (eB false)) (sv (d_move rfl)) ?_
      refine wS (svX rfl rfl rfl) ?_
      refine wS (svX rfl rfl rfl) ?_
      refine wS (svX rfl rfl rfl) ?_
      refine wS (v := (eB false)) (sv (d_pickF rfl rfl rfl)) ?_
      refine wS (v := (eB false)) (sv (d_move rfl)) ?_
      refine wS (svX rfl rfl rfl) ?_
      refine wS (svX rfl rfl rfl) ?_
      refine wS (v := (eB false)) (sv (d_pickF rfl rfl rfl)) ?_
      refine wS (v := (eB false)) (sv (d_assign rfl)) ?_
      refine OpsW.nil ?_
      refine Ex.then_mk ?_
      exact hG1 _ _ _ _ (Ghost.rn [] rfl rfl (FLe.same rfl FLe.nil) HLe.nil rfl) (J1 false hr)
set_option maxRecDepth 20000 in
set_option maxHeartbeats 1000000 in
theorem keep_Ops_ok (N : Nat) (l : List S_api_Op) (vn : Int) (r : Bool) (hr : keep_Ops N l vn = some r) :
    Vm.Fn Tryd.prog 13 [] [(.row none 4 (l.map E_api_Op)), (eI .i64 vn)] (eB r) [] := by
  refine fn_ab Tryd.func13 rfl (by kernel_rfl) Tryd.ntmps13 (Nat.le_of_ble_eq_true rfl) rfl (fr := [(0, (.row none 4 (l.map E_api_Op))), (1, (eI .i64 vn))]) rfl ?_
  unfold keep_Ops at hr
  refine AB.seq ?_
  refine AB.rw ?_
  refine wS (v := (eB false)) (sv (d_assign rfl)) ?_
  refine OpsW.nil ?_
  refine Ex.then_mk ?_
  refine AB.seq ?_
  refine AB.seq ?_
  refine AB.rw ?_
  refine wS (v := (.row none 4 (l.map E_api_Op))) (sv (d_move rfl)) ?_
  refine wS (v := (eI .i64 (l.length : Int))) (sv (d_len rfl (lenR ti31))) ?_
  refine wS (v := (eI .i64 vn)) (sv (d_move rfl)) ?_
  refine wS (v := (eB (decide (vn < (l.length : Int))))) (sv (d_bin rfl rfl (bin_gtr ..))) ?_
  refine OpsW.nil ?_
  refine Ex.then_mk ?_
  refine AB.cnd rfl (fun h1 => ?_) (fun h1 => ?_)
  · replace hr := iteT hr h1
    refine AB.seq ?_
    refine AB.rw ?_
    refine wS (v := (eB false)) (sv (d_assign rfl)) ?_
    refine OpsW.nil ?_
    refine Ex.then_mk ?_
    refine AB.ret ?_
    refine Ex.then_ret_mk ?_
    obtain rfl := Option.some.inj hr
    exact done_ret (r1 := (eB false)) (res1 Tryd.results13 (rvT rfl)) (Ghost.rn [] rfl rfl (FLe.same rfl FLe.nil) HLe.nil rfl)
  · replace hr := iteF hr h1
    refine AB.skip ?_
    refine Ex.then_mk ?_
    refine AB.seq_g fun K1 hK1 hG1 => ?_
    have J1 : keep_Ops_J1 N = some r → K1 (mkF 22 []) [] := by
      intro hr
      unfold keep_Ops_J1 at hr
      refine hK1 _ _ ?_
      refine AB.seq ?_
      refine AB.rw ?_
      refine wS (v := (eB true)) (sv (d_assign rfl)) ?_
      refine OpsW.nil ?_
      refine Ex.then_mk ?_
      refine AB.ret ?_
      obtain rfl := Option.some.inj hr
      exact done_ret (r1 := (eB true)) (res1 Tryd.results13 (rvT rfl)) (Ghost.rn [] rfl rfl (FLe.same rfl FLe.nil) HLe.nil rfl)
    refine AB.seq ?_
    refine AB.rw ?_
    refine wS (v := (.row none 4 (l.map E_api_Op))) (sv (d_move rfl)) ?_
    refine wS (v := (eI .i64 (l.length : Int))) (sv (d_len rfl (lenR ti31))) ?_
    refine wS (v := (eI .i64 0)) (sv (d_move rfl)) ?_
    refine OpsW.nil ?_
    refine Ex.then_mk ?_
    replace hr := bnd hr; obtain ⟨res2, hL2, hr⟩ := hr
    refine AB.block ?_
    refine AB.loopN (fun m s h => ∃ (x13 : Int), keep_Ops_L2 N l m x13 = some res2 ∧ Ghost 0 s h (mkF 22 [(11, (.row none 4 (l.map E_api_Op))), (12, (eI .i64 (l.length : Int))), (13, (eI .i64 x13))]) []) (n := N) ⟨0, hL2, (Ghost.rn [] rfl rfl (FLe.same rfl (FLe.same rfl (FLe.same rfl FLe.nil))) HLe.nil rfl)⟩ (by rintro s h ⟨_, h0, _⟩; simp [keep_Ops_L2] at h0) ?_
    rintro m2 s h ⟨x13, hr2, hg⟩
    refine AB.ghost hg ?_
    clear hg hL2
    rw [keep_Ops_L2] at hr2
    refine AB.seq ?_
    refine AB.rw ?_
    refine wS (v := (eB (decide (x13 < (l.length : Int))))) (sv (d_bin rfl rfl (bin_lss ..))) ?_
    refine OpsW.nil ?_
    refine Ex.then_mk ?_
    refine AB.seq ?_
    refine AB.cnd rfl (fun h2 => ?_) (fun h2 => ?_)
    · replace hr2 := iteT hr2 h2
      refine AB.skip ?_
      refine Ex.then_mk ?_
      refine AB.seq ?_
      refine AB.block ?_
      refine AB.seq ?_
      replace hr2 := bnd hr2; obtain ⟨x15, h_3, hr2⟩ := hr2
      refine AB.rw ?_
      refine wS (sv (d_ia rfl rfl (iaR ti31 ti59 h_3))) ?_
      refine wS (v := (.agg [(eI .i64 x15.Code), (.row none 1 (x15.Data.map (eI .u8))), (eI .i64 x15.M), (eI .i64 x15.N)])) (sv (d_load rfl (ldR h_3 (partN (ds := [(eI .i64 x15.Code), (.row none 1 (x15.Data.map (eI .u8))), (eI .i64 x15.M), (eI .i64 x15.N)]) ti59 rfl (Nat.le_of_ble_eq_true rfl) rfl)))) ?_
      refine wS (v := (.ptr 0 0)) (h' := [some ⟨59, [(eI .i64 0), (.row (some true) 1 []), (eI .i64 0), (eI .i64 0)]⟩]) (sv (d_alloc ti59 rfl rfl rfl)) ?_
      refine wN (h' := [some ⟨59, [(eI .i64 x15.Code), (.row none 1 (x15.Data.map (eI .u8))), (eI .i64 x15.M), (eI .i64 x15.N)]⟩]) (sv (d_store rfl rfl (stP ti59 rfl rfl rfl (Nat.le_of_ble_eq_true rfl) rfl))) ?_
      refine OpsW.nil ?_
      refine Ex.then_mk ?_
      refine AB.seq ?_
      refine AB.rw ?_
      refine wS (v := (.ptr 0 1)) (sv (d_fa rfl (fap59_1 ..))) ?_
      refine wS (v := (.row none 1 (x15.Data.map (eI .u8)))) (sv (d_load rfl (ldP rfl (part1 ti22 rfl rfl)))) ?_
      refine wS (v := (eI .i64 (x15.Data.length : Int))) (sv (d_len rfl (lenR ti22))) ?_
      refine wS (v := (eB (decide (300 < (x15.Data.length : Int))))) (sv (d_bin rfl rfl (bin_gtr ..))) ?_
      refine OpsW.nil ?_
      refine Ex.then_mk ?_
      refine AB.cnd rfl (fun h4 => ?_) (fun h4 => ?_)
      · replace hr2 := iteT hr2 h4
        refine AB.seq ?_
        refine AB.rw ?_
        refine wS (v := (eB false)) (sv (d_assign rfl)) ?_
        refine OpsW.nil ?_
        refine Ex.then_mk ?_
        refine AB.ret ?_
        refine Ex.inBlock_ret_mk ?_
        refine Ex.then_ret_mk ?_
        refine Ex.then_ret_mk ?_
        refine Ex.inBlock_ret_mk ?_
        refine Ex.then_ret_mk ?_
        obtain rfl := Option.some.inj hr2
        obtain rfl := Option.some.inj hr
        exact done_ret (r1 := (eB false)) (res1 Tryd.results13 (rvT rfl)) (Ghost.rn [] rfl rfl (FLe.same rfl FLe.nil) HLe.nil rfl)
      · replace hr2 := iteF hr2 h4
        refine AB.skip ?_
        refine Ex.inBlock_mk ?_
        refine Ex.then_mk ?_
        refine AB.rw ?_
        refine wS (v := (eI .i64 (IntKind.i64.wrap (x13 + 1)))) (sv (d_bin rfl rfl (bin_add ..))) ?_
        refine wS (v := (eI .i64 (IntKind.i64.wrap (x13 + 1)))) (sv (d_move rfl)) ?_
        refine OpsW.nil ?_
        refine Ex.then_mk ?_
        exact ⟨IntKind.i64.wrap (x13 + 1), hr2, (Ghost.rn [] rfl rfl (FLe.same rfl (FLe.same rfl (FLe.same rfl FLe.nil))) HLe.nil rfl)⟩
    · replace hr2 := iteF hr2 h2
      refine AB.exit ?_
      refine Ex.then_exit_mk ?_
      refine Ex.then_exit_mk ?_
      refine Ex.inBlock_same_mk ?_
      obtain rfl := Option.some.inj hr2
      refine Ex.then_mk ?_
      exact hG1 _ _ _ _ (Ghost.rn [] rfl rfl FLe.nil HLe.nil rfl) (J1 hr)
set_option maxRecDepth 20000 in
set_option maxHeartbeats 1000000 in
theorem script_known_ok (N : Nat) (code : Int) (r : Bool) (hr : script_known N code = some r) :
    Vm.Fn Tryd.prog 46 [] [(eI .i64 code)] (eB r) [] := by
  refine fn_ab Tryd.func46 rfl (by kernel_rfl) Tryd.ntmps46 (Nat.le_of_ble_eq_true rfl) rfl (fr := [(0, (eI .i64 code))]) rfl ?_
  unfold script_known at hr
  refine AB.seq ?_
  refine AB.rw ?_
  refine wS (v := (eB false)) (sv (d_assign rfl)) ?_
  refine OpsW.nil ?_
  refine Ex.then_mk ?_
  refine AB.seq_g fun K1 hK1 hG1 => ?_
  have J1 : ∀ (x2 : Bool), script_known_J1 N x2 = some r → K1 (mkF 9 [(2, (eB x2))]) [] := by
    intro x2 hr
    unfold script_known_J1 at hr
    refine hK1 _ _ ?_
    refine AB.ret ?_
    obtain rfl := Option.some.inj hr
    exact done_ret (r1 := (eB x2)) (res1 Tryd.results46 (rvT rfl)) (Ghost.rn [] rfl rfl (FLe.same rfl FLe.nil) HLe.nil rfl)
  rcases Bool.eq_false_or_eq_true (decide (1 ≤ code)) with h1 | h1
  · replace hr := iteT hr h1
    refine AB.rw ?_
    refine wS (v := (eI .i64 code)) (sv (d_move rfl)) ?_
    refine wS (v := (eB (decide (1 ≤ code)))) (sv (d_bin rfl rfl (bin_geq ..))) ?_
    refine wS (v := (eB (decide (1 ≤ code)))) (sv (d_move rfl)) ?_
    refine wS (v := (eI .i64 code)) (svG rfl rfl h1 (d_move rfl)) ?_
    refine wS (v := (eB (decide (code ≤ 17)))) (svG rfl rfl h1 (d_bin rfl rfl (bin_leq ..))) ?_
    refine wS (v := (eB (decide (code ≤ 17)))) (sv (d_pickT rfl h1 rfl)) ?_
    refine wS (v := (eB (decide (code ≤ 17)))) (sv (d_assign rfl)) ?_
    refine OpsW.nil ?_
    refine Ex.then_mk ?_
    exact hG1 _ _ _ _ (Ghost.rn [] rfl rfl (FLe.same rfl FLe.nil) HLe.nil rfl) (J1 (decide (code ≤ 17)) hr)
  · replace hr := iteF hr h1
    refine AB.rw ?_
    refine wS (v := (eI .i64 code)) (sv (d_move rfl)) ?_
    refine wS (v := (eB (decide (1 ≤ code)))) (sv (d_bin rfl rfl (bin_geq ..))) ?_
    refine wS (v := (eB (decide (1 ≤ code)))) (sv (d_move rfl)) ?_
    refine wS (svX rfl rfl h1) ?_
    refine wS (svX rfl rfl h1) ?_
    refine wS (v := (eB false)) (sv (d_pickF rfl h1 rfl)) ?_
    refine wS (v := (eB false)) (sv (d_assign rfl)) ?_
    refine OpsW.nil ?_
    refine Ex.then_mk ?_
    exact hG1 _ _ _ _ (Ghost.rn [] rfl rfl (FLe.same rfl FLe.nil) HLe.nil rfl) (J1 false hr)
set_option maxRecDepth 20000 in
set_option maxHeartbeats 1000000 in
theorem script_inRange_ok (N : Nat) (vm : Int) (vn : Int) (r : Bool) (hr : script_inRange N vm vn = some r) :
    Vm.Fn Tryd.prog 47 [] [(eI .i64 vm), (eI .i64 vn)] (eB r) [] := by
  refine fn_ab Tryd.func47 rfl (by kernel_rfl) Tryd.ntmps47 (Nat.le_of_ble_eq_true rfl) rfl (fr := [(0, (eI .i64 vm)), (1, (eI .i64 vn))]) rfl ?_
  unfold script_inRange at hr
  refine AB.seq ?_
  refine AB.rw ?_
  refine wS (v := (eB false)) (sv (d_assign rfl)) ?_
  refine OpsW.nil ?_
  refine Ex.then_mk ?_
  refine AB.seq_g fun K1 hK1 hG1 => ?_
  have J1 : ∀ (x4 : Bool), script_inRange_J1 N x4 = some r → K1 (mkF 20 [(4, (eB x4))]) [] := by
    intro x4 hr
    unfold script_inRange_J1 at hr
    refine hK1 _ _ ?_
    refine AB.ret ?_
    obtain rfl := Option.some.inj hr
    exact done_ret (r1 := (eB x4)) (res1 Tryd.results47 (rvT rfl)) (Ghost.rn [] rfl rfl (FLe.same rfl FLe.nil) HLe.nil rfl)
  rcases Bool.eq_false_or_eq_true (decide (1 ≤ vn)) with h1 | h1
  · replace hr := iteT hr h1
    rcases Bool.eq_false_or_eq_true (decide (vn ≤ 15)) with h2 | h2
    · replace hr := iteT hr h2
      rcases Bool.eq_false_or_eq_true (decide (1 ≤ vm)) with h3 | h3
      · replace hr := iteT hr h3
        refine AB.rw ?_
        refine wS (v := (eI .i64 vn)) (sv (d_move rfl)) ?_
        refine wS (v := (eB (decide (1 ≤ vn)))) (sv (d_bin rfl rfl (bin_geq ..))) ?_
        refine wS (v := (eB (decide (1 ≤ vn)))) (sv (d_move rfl)) ?_
        refine wS (v := (eI .i64 vn)) (svG rfl rfl h1 (d_move rfl)) ?_
        refine wS (v := (eB (decide (vn ≤ 15)))) (svG rfl rfl h1 (d_bin rfl rfl (bin_leq ..))) ?_
        refine wS (v := (eB (decide (vn ≤ 15)))) (sv (d_pickT rfl h1 rfl)) ?_
        refine wS (v := (eB (decide (vn ≤ 15)))) (sv (d_move rfl)) ?_
        refine wS (v := (eI .i64 vm)) (svG rfl rfl h2 (d_move rfl)) ?_
        refine wS (v := (eB (decide (1 ≤ vm)))) (svG rfl rfl h2 (d_bin rfl rfl (bin_geq ..))) ?_
        refine wS (v := (eB (decide (1 ≤ vm)))) (sv (d_pickT rfl h2 rfl)) ?_
        refine wS (v := (eB (decide (1 ≤ vm)))) (sv (d_move rfl)) ?_
        refine wS (v := (eI .i64 vm)) (svG rfl rfl h3 (d_move rfl)) ?_
        refine wS (v := (eI .i64 vn)) (svG rfl rfl h3 (d_move rfl)) ?_
        refine wS (v := (eB (decide (vm ≤ vn)))) (svG rfl rfl h3 (d_bin rfl rfl (bin_leq ..))) ?_
        refine wS (v := (eB (decide (vm ≤ vn)))) (sv (d_pickT rfl h3 rfl)) ?_
        refine wS (v := (eB (decide (vm ≤ vn)))) (sv (d_assign rfl)) ?_
        refine OpsW.nil ?_
        refine Ex.then_mk ?_
        exact hG1 _ _ _ _ (Ghost.rn [] rfl rfl (FLe.same rfl FLe.nil) HLe.nil rfl) (J1 (decide (vm ≤ vn)) hr)
      · replace hr := iteF hr h3
        refine AB.rw ?_
        refine wS (v := (eI .i64 vn)) (sv (d_move rfl)) ?_
        refine wS (v := (eB (decide (1 ≤ vn)))) (sv (d_bin rfl rfl (bin_geq ..))) ?_
        refine wS (v := (eB (decide (1 ≤ vn)))) (sv (d_move rfl)) ?_
        refine wS (v := (eI .i64 vn)) (svG rfl rfl h1 (d_move rfl)) ?_
        refine wS (v := (eB (decide (vn ≤ 15)))) (svG rfl rfl h1 (d_bin rfl rfl (bin_leq ..))) ?_
        refine wS (v := (eB (decide (vn ≤ 15)))) (sv (d_pickT rfl h1 rfl)) ?_
        refine wS (v := (eB (decide (vn ≤ 15)))) (sv (d_move rfl)) ?_
        refine wS (v := (eI .i64 vm)) (svG rfl rfl h2 (d_move rfl)) ?_
        refine wS (v := (eB (decide (1 ≤ vm)))) (svG rfl rfl h2 (d_bin rfl rfl (bin_geq ..))) ?_
        refine wS (v := (eB (decide (1 ≤ vm)))) (sv (d_pickT rfl h2 rfl)) ?_
        refine wS (v := (eB (decide (1 ≤ vm)))) (sv (d_move rfl)) ?_
        refine wS (svX rfl rfl h3) ?_
        refine wS (svX rfl rfl h3) ?_
        refine wS (svX rfl rfl h3) ?_
        refine wS (v := (eB false)) (sv (d_pickF rfl h3 rfl)) ?_
        refine wS (v := (eB false)) (sv (d_assign rfl)) ?_
        refine OpsW.nil ?_
        refine Ex.then_mk ?_
        exact hG1 _ _ _ _ (Ghost.rn [] rfl rfl (FLe.same rfl FLe.nil) HLe.nil rfl) (J1 false hr)
    · replace hr := iteF hr h2
      refine AB.rw ?_
      refine wS (v := (eI .i64 vn)) (sv (d_move rfl)) ?_
      refine wS (v := (eB (decide (1 ≤ vn)))) (sv (d_bin rfl rfl (bin_geq ..))) ?_
      refine wS (v := (eB (decide (1 ≤ vn)))) (sv (d_move rfl)) ?_
      refine wS (v := (eI .i64 vn)) (svG rfl rfl h1 (d_move rfl)) ?_
      refine wS (v := (eB (decide (vn ≤ 15)))) (svG rfl rfl h1 (d_bin rfl rfl (bin_leq ..))) ?_
      refine wS (v := (eB (decide (vn ≤ 15)))) (sv (d_pickT rfl h1 rfl)) ?_
      refine wS (v := (eB (decide (vn ≤ 15)))) (sv (d_move rfl)) ?_
      refine wS (svX rfl rfl h2) ?_
      refine wS (svX rfl rfl h2) ?_
      refine wS (v := (eB false)) (sv (d_pickF rfl h2 rfl)) ?_
      refine wS (v := (eB false)) (sv (d_move rfl)) ?_
      refine wS (svX rfl rfl rfl) ?_
      refine wS (svX rfl rfl rfl) ?_
      refine wS (svX rfl rfl rfl) ?_
      refine wS (v := (eB false)) (sv (d_pickF rfl rfl rfl)) ?_
      refine wS (v := (eB false)) (sv (d_assign rfl)) ?_
      refine OpsW.nil ?_
      refine Ex.then_mk ?_
      exact hG1 _ _ _ _ (Ghost.rn [] rfl rfl (FLe.same rfl FLe.nil) HLe.nil rfl) (J1 false hr)
  · replace hr := iteF hr h1
    refine AB.rw ?_
    refine wS (v := (eI .i64 vn)) (sv (d_move rfl)) ?_
    refine wS (v := (eB (decide (1 ≤ vn)))) (sv (d_bin rfl rfl (bin_geq ..))) ?_
    refine wS (v := (eB (decide (1 ≤ vn)))) (sv (d_move rfl)) ?_
    refine wS (svX rfl rfl h1) ?_
    refine wS (svX rfl rfl h1) ?_
    refine wS (v := (eB false)) (sv (d_pickF rfl h1 rfl)) ?_
    refine wS (v := (eB false)) (sv (d_move rfl)) ?_
    refine wS (svX rfl rfl rfl) ?_
    refine wS (svX rfl rfl rfl) ?_
    refine wS (v := (eB false)) (sv (d_pickF rfl rfl rfl)) ?_
    refine wS (v := (eB false)) (sv (d_move rfl)) ?_
    refine wS (svX rfl rfl rfl) ?_
    refine wS (svX rfl rfl rfl) ?_
    refine wS (svX rfl rfl rfl) ?_
    refine wS (v := (eB false)) (sv (d_pickF rfl rfl rfl)) ?_
    refine wS (v := (eB false)) (sv (d_assign rfl)) ?_
    refine OpsW.nil ?_
    refine Ex.then_mk ?_
    exact hG1 _ _ _ _ (Ghost.rn [] rfl rfl (FLe.same rfl FLe.nil) HLe.nil rfl) (J1 false hr)
set_option maxRecDepth 20000 in
set_option maxHeartbeats 1000000 in
theorem script_check_ok (N : Nat) (op_Code : Int) (op_Data : List Int) (op_M : Int) (op_N : Int) (r : Int) (hr : script_check N op_Code op_Data op_M op_N = some r) :
    Vm.Fn Tryd.prog 31 [] [(.agg [(eI .i64 op_Code), (.row none 1 (op_Data.map (eI .u8))), (eI .i64 op_M), (eI .i64 op_N)])] (eI .i64 r) [] := by
  refine fn_ab Tryd.func31 rfl (by kernel_rfl) Tryd.ntmps31 (Nat.le_of_ble_eq_true rfl) rfl (fr := [(0, (.agg [(eI .i64 op_Code), (.row none 1 (op_Data.map (eI .u8))), (eI .i64 op_M), (eI .i64 op_N)]))]) rfl ?_
  unfold script_check at hr
  refine AB.seq ?_
  refine AB.rw ?_
  refine wS (v := (.ptr 0 0)) (h' := [some ⟨59, [(eI .i64 op_Code), (.row none 1 (op_Data.map (eI .u8))), (eI .i64 op_M), (eI .i64 op_N)]⟩]) (sv (d_box rfl rfl rfl rfl)) ?_
  refine wS (v := (eI .i64 0)) (sv (d_assign rfl)) ?_
  refine OpsW.nil ?_
  refine Ex.then_mk ?_
  refine AB.seq ?_
  refine AB.block ?_
  refine AB.seq ?_
  replace hr := bnd hr; obtain ⟨x6, h_1, hr⟩ := hr
  refine AB.rw ?_
  refine wS (v := (.ptr 0 0)) (sv (d_fa rfl (fap59_0 ..))) ?_
  refine wS (v := (eI .i64 op_Code)) (sv (d_load rfl (ldP rfl (part1 ti3 rfl rfl)))) ?_
  refine wC (v := (eB x6)) (h' := [some ⟨59, [(eI .i64 op_Code), (.row none 1 (op_Data.map (eI .u8))), (eI .i64 op_M), (eI .i64 op_N)]⟩]) rfl (Vm.Fn.pure (script_known_ok N op_Code x6 h_1) rfl rfl) ?_
  refine wS (v := (eB (!x6))) (sv (d_un rfl (un_not _ _))) ?_
  refine wS (v := (eB (!x6))) (sv (d_assign rfl)) ?_
  refine OpsW.nil ?_
  refine Ex.then_mk ?_
  refine AB.cnd rfl (fun h2 => ?_) (fun h2 => ?_)
  · replace hr := iteT hr h2
    refine AB.seq ?_
    refine AB.rw ?_
    refine wS (v := (eI .i64 80)) (sv (d_assign rfl)) ?_
    refine OpsW.nil ?_
    refine Ex.then_mk ?_
    refine AB.ret ?_
    refine Ex.inBlock_ret_mk ?_
    refine Ex.then_ret_mk ?_
    obtain rfl := Option.some.inj hr
    exact done_ret (r1 := (eI .i64 80)) (res1 Tryd.results31 (rvT rfl)) (Ghost.rn [] rfl rfl (FLe.same rfl FLe.nil) HLe.nil rfl)
  · replace hr := iteF hr h2
    refine AB.seq_g fun K1 hK1 hG1 => ?_
    have J1 : ∀ (x8 : Bool), script_check_J1 N op_Code op_Data op_M op_N x8 = some r → K1 (mkF 49 [(1, (.ptr 0 0)), (8, (eB x8))]) [some ⟨59, [(eI .i64 op_Code), (.row none 1 (op_Data.map (eI .u8))), (eI .i64 op_M), (eI .i64 op_N)]⟩] := by
      intro x8 hr
      unfold script_check_J1 at hr
      refine hK1 _ _ ?_
      refine AB.cnd rfl (fun h3 => ?_) (fun h3 => ?_)
      · replace hr := iteT hr h3
        refine AB.seq ?_
        refine AB.rw ?_
        refine wS (v := (eI .i64 6)) (sv (d_assign rfl)) ?_
        refine OpsW.nil ?_
        refine Ex.then_mk ?_
        refine AB.ret ?_
        refine Ex.inBlock_ret_mk ?_
        refine Ex.then_ret_mk ?_
        obtain rfl := Option.some.inj hr
        exact done_ret (r1 := (eI .i64 6)) (res1 Tryd.results31 (rvT rfl)) (Ghost.rn [] rfl rfl (FLe.same rfl FLe.nil) HLe.nil rfl)
      · replace hr := iteF hr h3
        refine AB.seq_g fun K2 hK2 hG2 => ?_
        have J2 : ∀ (x18 : Bool), script_check_J2 N op_Code op_Data op_M op_N x18 = some r → K2 (mkF 49 [(1, (.ptr 0 0)), (18, (eB x18))]) [some ⟨59, [(eI .i64 op_Code), (.row none 1 (op_Data.map (eI .u8))), (eI .i64 op_M), (eI .i64 op_N)]⟩] := by
          intro x18 hr
          unfold script_check_J2 at hr
          refine hK2 _ _ ?_
          refine AB.cnd rfl (fun h4 => ?_) (fun h4 => ?_)
          · replace hr := iteT hr h4
            refine AB.seq ?_
            refine AB.rw ?_
            refine wS (v := (eI .i64 6)) (sv (d_assign rfl)) ?_
            refine OpsW.nil ?_
            refine Ex.then_mk ?_
            refine AB.ret ?_
            refine Ex.inBlock_ret_mk ?_
            refine Ex.then_ret_mk ?_
            obtain rfl := Option.some.inj hr
            exact done_ret (r1 := (eI .i64 6)) (res1 Tryd.results31 (rvT rfl)) (Ghost.rn [] rfl rfl (FLe.same rfl FLe.nil) HLe.nil rfl)
          · replace hr := iteF hr h4
            refine AB.seq ?_
            refine AB.rw ?_
            refine wS (v := (.ptr 0 1)) (sv (d_fa rfl (fap59_1 ..))) ?_
            refine wS (v := (.row none 1 (op_Data.map (eI .u8)))) (sv (d_load rfl (ldP rfl (part1 ti22 rfl rfl)))) ?_
            refine wS (v := (eI .i64 (op_Data.length : Int))) (sv (d_len rfl (lenR ti22))) ?_
            refine wS (v := (eB (decide (255 < (op_Data.length : Int))))) (sv (d_bin rfl rfl (bin_gtr ..))) ?_
            refine wS (v := (eB (decide (255 < (op_Data.length : Int))))) (sv (d_assign rfl)) ?_
            refine OpsW.nil ?_
            refine Ex.then_mk ?_
            refine AB.cnd rfl (fun h5 => ?_) (fun h5 => ?_)
            · replace hr := iteT hr h5
              refine AB.seq ?_
              refine AB.rw ?_
              refine wS (v := (eI .i64 4)) (sv (d_assign rfl)) ?_
              refine OpsW.nil ?_
              refine Ex.then_mk ?_
              refine AB.ret ?_
              refine Ex.inBlock_ret_mk ?_
              refine Ex.then_ret_mk ?_
              obtain rfl := Option.some.inj hr
              exact done_ret (r1 := (eI .i64 4)) (res1 Tryd.results31 (rvT rfl)) (Ghost.rn [] rfl rfl (FLe.same rfl FLe.nil) HLe.nil rfl)
            · replace hr := iteF hr h5
              refine AB.seq_g fun K3 hK3 hG3 => ?_
              have J3 : ∀ (x37 : Bool), script_check_J3 N x37 = some r → K3 (mkF 49 [(37, (eB x37))]) [] := by
                intro x37 hr
                unfold script_check_J3 at hr
                refine hK3 _ _ ?_
                refine AB.cnd rfl (fun h6 => ?_) (fun h6 => ?_)
                · replace hr := iteT hr h6
                  refine AB.seq ?_
                  refine AB.rw ?_
                  refine wS (v := (eI .i64 5)) (sv (d_assign rfl)) ?_
                  refine OpsW.nil ?_
                  refine Ex.then_mk ?_
                  refine AB.ret ?_
                  refine Ex.inBlock_ret_mk ?_
                  refine Ex.then_ret_mk ?_
                  obtain rfl := Option.some.inj hr
                  exact done_ret (r1 := (eI .i64 5)) (res1 Tryd.results31 (rvT rfl)) (Ghost.rn [] rfl rfl (FLe.same rfl FLe.nil) HLe.nil rfl)
                · replace hr := iteF hr h6
                  refine AB.skip ?_
                  refine Ex.inBlock_mk ?_
                  refine Ex.then_mk ?_
                  refine AB.seq ?_
                  refine AB.rw ?_
                  refine wS (v := (eI .i64 0)) (sv (d_assign rfl)) ?_
                  refine OpsW.nil ?_
                  refine Ex.then_mk ?_
                  refine AB.ret ?_
                  obtain rfl := Option.some.inj hr
                  exact done_ret (r1 := (eI .i64 0)) (res1 Tryd.results31 (rvT rfl)) (Ghost.rn [] rfl rfl (FLe.same rfl FLe.nil) HLe.nil rfl)
              rcases Bool.eq_false_or_eq_true (op_Code == 11) with h7 | h7
              · replace hr := iteT hr h7
                replace hr := bnd hr; obtain ⟨x46, h_8, hr⟩ := hr
                refine AB.rw ?_
                refine wS (v := (.ptr 0 0)) (sv (d_fa rfl (fap59_0 ..))) ?_
                refine wS (v := (eI .i64 op_Code)) (sv (d_load rfl (ldP rfl (part1 ti3 rfl rfl)))) ?_
                refine wS (v := (eB (op_Code == 11))) (sv (d_bin rfl rfl (bin_eql ..))) ?_
                refine wS (v := (eB (op_Code == 11))) (sv (d_move rfl)) ?_
                refine wS (v := (.ptr 0 2)) (svG rfl rfl h7 (d_fa rfl (fap59_2 ..))) ?_
                refine wS (v := (eI .i64 op_M)) (svG rfl rfl h7 (d_load rfl (ldP rfl (part1 ti3 rfl rfl)))) ?_
                refine wS (v := (.ptr 0 3)) (svG rfl rfl h7 (d_fa rfl (fap59_3 ..))) ?_
                refine wS (v := (eI .i64 op_N)) (svG rfl rfl h7 (d_load rfl (ldP rfl (part1 ti3 rfl rfl)))) ?_
                refine wCG (v := (eB x46)) (h' := [some ⟨59, [(eI .i64 op_Code), (.row none 1 (op_Data.map (eI .u8))), (eI .i64 op_M), (eI .i64 op_N)]⟩]) rfl rfl h7 rfl (Vm.Fn.pure (script_inRange_ok N op_M op_N x46 h_8) rfl rfl) ?_
                refine wS (v := (eB (!x46))) (svG rfl rfl h7 (d_un rfl (un_not _ _))) ?_
                refine wS (v := (eB (!x46))) (sv (d_pickT rfl h7 rfl)) ?_
                refine wS (v := (eB (!x46))) (sv (d_assign rfl)) ?_
                refine OpsW.nil ?_
                refine Ex.then_mk ?_
                exact hG3 _ _ _ _ (Ghost.rn [] rfl rfl (FLe.same rfl FLe.nil) HLe.nil rfl) (J3 (!x46) hr)
              · replace hr := iteF hr h7
                refine AB.rw ?_
                refine wS (v := (.ptr 0 0)) (sv (d_fa rfl (fap59_0 ..))) ?_
                refine wS (v := (eI .i64 op_Code)) (sv (d_load rfl (ldP rfl (part1 ti3 rfl rfl)))) ?_
                refine wS (v := (eB (op_Code == 11))) (sv (d_bin rfl rfl (bin_eql ..))) ?_
                refine wS (v := (eB (op_Code == 11))) (sv (d_move rfl)) ?_
                refine wS (svX rfl rfl h7) ?_
                refine wS (svX rfl rfl h7) ?_
                refine wS (svX rfl rfl h7) ?_
                refine wS (svX rfl rfl h7) ?_
                refine wS (svX rfl rfl h7) ?_
                refine wS (svX rfl rfl h7) ?_
                refine wS (v := (eB false)) (sv (d_pickF rfl h7 rfl)) ?_
                refine wS (v := (eB false)) (sv (d_assign rfl)) ?_
                refine OpsW.nil ?_
                refine Ex.then_mk ?_
                exact hG3 _ _ _ _ (Ghost.rn [] rfl rfl (FLe.same rfl FLe.nil) HLe.nil rfl) (J3 false hr)
        rcases Bool.eq_false_or_eq_true (op_Code != 11) with h9 | h9
        · replace hr := iteT hr h9
          rcases Bool.eq_false_or_eq_true (op_M != 0) with h10 | h10
          · replace hr := iteT hr h10
            refine AB.rw ?_
            refine wS (v := (.ptr 0 0)) (sv (d_fa rfl (fap59_0 ..))) ?_
            refine wS (v := (eI .i64 op_Code)) (sv (d_load rfl (ldP rfl (part1 ti3 rfl rfl)))) ?_
            refine wS (v := (eB (op_Code != 11))) (sv (d_bin rfl rfl (bin_neq ..))) ?_
            refine wS (v := (eB (op_Code != 11))) (sv (d_move rfl)) ?_
            refine wS (v := (.ptr 0 2)) (svG rfl rfl h9 (d_fa rfl (fap59_2 ..))) ?_
            refine wS (v := (eI .i64 op_M)) (svG rfl rfl h9 (d_load rfl (ldP rfl (part1 ti3 rfl rfl)))) ?_
            refine wS (v := (eB (op_M != 0))) (svG rfl rfl h9 (d_bin rfl rfl (bin_neq ..))) ?_
            refine wS (v := (eB (op_M != 0))) (svG rfl rfl h9 (d_move rfl)) ?_
            refine wS (svX rfl rfl h10) ?_
            refine wS (svX rfl rfl h10) ?_
            refine wS (svX rfl rfl h10) ?_
            refine wS (v := (eB true)) (svG rfl rfl h9 (d_pickT rfl h10 rfl)) ?_
            refine wS (v := (eB true)) (sv (d_pickT rfl h9 rfl)) ?_
            refine wS (v := (eB true)) (sv (d_assign rfl)) ?_
            refine OpsW.nil ?_
            refine Ex.then_mk ?_
            exact hG2 _ _ _ _ (Ghost.rn [0] rfl rfl (FLe.same rfl (FLe.same rfl FLe.nil)) (HLe.live rfl (V.les_refl _ _) rfl HLe.nil) rfl) (J2 true hr)
          · replace hr := iteF hr h10
            refine AB.rw ?_
            refine wS (v := (.ptr 0 0)) (sv (d_fa rfl (fap59_0 ..))) ?_
            refine wS (v := (eI .i64 op_Code)) (sv (d_load rfl (ldP rfl (part1 ti3 rfl rfl)))) ?_
            refine wS (v := (eB (op_Code != 11))) (sv (d_bin rfl rfl (bin_neq ..))) ?_
            refine wS (v := (eB (op_Code != 11))) (sv (d_move rfl)) ?_
            refine wS (v := (.ptr 0 2)) (svG rfl rfl h9 (d_fa rfl (fap59_2 ..))) ?_
            refine wS (v := (eI .i64 op_M)) (svG rfl rfl h9 (d_load rfl (ldP rfl (part1 ti3 rfl rfl)))) ?_
            refine wS (v := (eB (op_M != 0))) (svG rfl rfl h9 (d_bin rfl rfl (bin_neq ..))) ?_
            refine wS (v := (eB (op_M != 0))) (svG rfl rfl h9 (d_move rfl)) ?_
            refine wS (v := (.ptr 0 3)) (svG rfl rfl h10 (d_fa rfl (fap59_3 ..))) ?_
            refine wS (v := (eI .i64 op_N)) (svG rfl rfl h10 (d_load rfl (ldP rfl (part1 ti3 rfl rfl)))) ?_
            refine wS (v := (eB (op_N != 0))) (svG rfl rfl h10 (d_bin rfl rfl (bin_neq ..))) ?_
            refine wS (v := (eB (op_N != 0))) (svG rfl rfl h9 (d_pickF rfl h10 rfl)) ?_
            refine wS (v := (eB (op_N != 0))) (sv (d_pickT rfl h9 rfl)) ?_
            refine wS (v := (eB (op_N != 0))) (sv (d_assign rfl)) ?_
            refine OpsW.nil ?_
            refine Ex.then_mk ?_
            exact hG2 _ _ _ _ (Ghost.rn [0] rfl rfl (FLe.same rfl (FLe.same rfl FLe.nil)) (HLe.live rfl (V.les_refl _ _) rfl HLe.nil) rfl) (J2 (op_N != 0) hr)
        · replace hr := iteF hr h9
          refine AB.rw ?_
          refine wS (v := (.ptr 0 0)) (sv (d_fa rfl (fap59_0 ..))) ?_
          refine wS (v := (eI .i64 op_Code)) (sv (d_load rfl (ldP rfl (part1 ti3 rfl rfl)))) ?_
          refine wS (v := (eB (op_Code != 11))) (sv (d_bin rfl rfl (bin_neq ..))) ?_
          refine wS (v := (eB (op_Code != 11))) (sv (d_move rfl)) ?_
          refine wS (svX rfl rfl h9) ?_
          refine wS (svX rfl rfl h9) ?_
          refine wS (svX rfl rfl h9) ?_
          refine wS (svX rfl rfl h9) ?_
          refine wS (svU rfl rfl) ?_
          refine wS (svU rfl rfl) ?_
          refine wS (svU rfl rfl) ?_
          refine wS (svX rfl rfl h9) ?_
          refine wS (v := (eB false)) (sv (d_pickF rfl h9 rfl)) ?_
          refine wS (v := (eB false)) (sv (d_assign rfl)) ?_
          refine OpsW.nil ?_
          refine Ex.then_mk ?_
          exact hG2 _ _ _ _ (Ghost.rn [0] rfl rfl (FLe.same rfl (FLe.same rfl FLe.nil)) (HLe.live rfl (V.les_refl _ _) rfl HLe.nil) rfl) (J2 false hr)
    rcases Bool.eq_false_or_eq_true (op_Code != 1) with h11 | h11
    · replace hr := iteT hr h11
      refine AB.rw ?_
      refine wS (v := (.ptr 0 0)) (sv (d_fa rfl (fap59_0 ..))) ?_
      refine wS (v := (eI .i64 op_Code)) (sv (d_load rfl (ldP rfl (part1 ti3 rfl rfl)))) ?_
      refine wS (v := (eB (op_Code != 1))) (sv (d_bin rfl rfl (bin_neq ..))) ?_
      refine wS (v := (eB (op_Code != 1))) (sv (d_move rfl)) ?_
      refine wS (v := (.ptr 0 1)) (svG rfl rfl h11 (d_fa rfl (fap59_1 ..))) ?_
      refine wS (v := (.row none 1 (op_Data.map (eI .u8)))) (svG rfl rfl h11 (d_load rfl (ldP rfl (part1 ti22 rfl rfl)))) ?_
      refine wS (v := (eI .i64 (op_Data.length : Int))) (svG rfl rfl h11 (d_len rfl (lenR ti22))) ?_
      refine wS (v := (eB (decide (0 < (op_Data.length : Int))))) (svG rfl rfl h11 (d_bin rfl rfl (bin_gtr ..))) ?_
      refine wS (v := (eB (decide (0 < (op_Data.length : Int))))) (sv (d_pickT rfl h11 rfl)) ?_
      refine wS (v := (eB (decide (0 < (op_Data.length : Int))))) (sv (d_assign rfl)) ?_
      refine OpsW.nil ?_
      refine Ex.then_mk ?_
      exact hG1 _ _ _ _ (Ghost.rn [0] rfl rfl (FLe.same rfl (FLe.same rfl FLe.nil)) (HLe.live rfl (V.les_refl _ _) rfl HLe.nil) rfl) (J1 (decide (0 < (op_Data.length : Int))) hr)
    · replace hr := iteF hr h11
      refine AB.rw ?_
      refine wS (v := (.ptr 0 0)) (sv (d_fa rfl (fap59_0 ..))) ?_
      refine wS (v := (eI .i64 op_Code)) (sv (d_load rfl (ldP rfl (part1 ti3 rfl rfl)))) ?_
      refine wS (v := (eB (op_Code != 1))) (sv (d_bin rfl rfl (bin_neq ..))) ?_
      refine wS (v := (eB (op_Code != 1))) (sv (d_move rfl)) ?_
      refine wS (svX rfl rfl h11) ?_
      refine wS (svX rfl rfl h11) ?_
      refine wS (svX rfl rfl h11) ?_
      refine wS (svX rfl rfl h11) ?_
      refine wS (v := (eB false)) (sv (d_pickF rfl h11 rfl)) ?_
      refine wS (v := (eB false)) (sv (d_assign rfl)) ?_
      refine OpsW.nil ?_
      refine Ex.then_mk ?_
      exact hG1 _ _ _ _ (Ghost.rn [0] rfl rfl (FLe.same rfl (FLe.same rfl FLe.nil)) (HLe.live rfl (V.les_refl _ _) rfl HLe.nil) rfl) (J1 false hr)
set_option maxRecDepth 20000 in
set_option maxHeartbeats 1000000 in
theorem script_row_ok (N : Nat) (parts : List (List Int)) (r : (List Int)) (hr : script_row N parts = some r) :
    Vm.Fn Tryd.prog 38 [] [(.row none 1 (parts.map (eL 1 (eI .u8))))] (.sl 0 0 r.length 1 false) [some ⟨5, r.map (eI .u8)⟩] := by
  refine fn_ab Tryd.func38 rfl (by kernel_rfl) Tryd.ntmps38 (Nat.le_of_ble_eq_true rfl) rfl (fr := [(0, (.row none 1 (parts.map (eL 1 (eI .u8)))))]) rfl ?_
  unfold script_row at hr
  refine AB.seq ?_
  refine AB.rw ?_
  refine wS (v := (.row (some true) 1 [])) (sv (d_assign rfl)) ?_
  refine OpsW.nil ?_
  refine Ex.then_mk ?_
  refine AB.seq ?_
  refine AB.rw ?_
  refine wS (v := (.row (some true) 1 [])) (sv (d_assign rfl)) ?_
  refine OpsW.nil ?_
  refine Ex.then_mk ?_
  refine AB.seq_g fun K1 hK1 hG1 => ?_
  have J1 : ∀ (l0 : List Int), script_row_J1 N l0 = some r → K1 (mkF 17 [(3, (.sl 0 0 l0.length 1 false))]) [some ⟨5, l0.map (eI .u8)⟩] := by
    intro l0 hr
    unfold script_row_J1 at hr
    refine hK1 _ _ ?_
    refine AB.seq ?_
    refine AB.rw ?_
    refine wS (v := (.sl 0 0 l0.length 1 false)) (sv (d_move rfl)) ?_
    refine wS (v := (.sl 0 0 l0.length 1 false)) (sv (d_assign rfl)) ?_
    refine OpsW.nil ?_
    refine Ex.then_mk ?_
    refine AB.ret ?_
    obtain rfl := Option.some.inj hr
    exact done_ret (r1 := (.sl 0 0 l0.length 1 false)) (res1 Tryd.results38 (rvT rfl)) (Ghost.rn [0] rfl rfl (FLe.same rfl FLe.nil) (HLe.live rfl (les_map (fun _ => rfl) _) (all_map (fun _ => rfl) _) HLe.nil) rfl)
  refine AB.seq ?_
  refine AB.rw ?_
  refine wS (v := (.row none 1 (parts.map (eL 1 (eI .u8))))) (sv (d_move rfl)) ?_
  refine wS (v := (eI .i64 (parts.length : Int))) (sv (d_len rfl (lenR ti52))) ?_
  refine wS (v := (eI .i64 0)) (sv (d_move rfl)) ?_
  refine OpsW.nil ?_
  refine Ex.then_mk ?_
  replace hr := bnd hr; obtain ⟨res2, hL2, hr⟩ := hr
  refine AB.block ?_
  refine AB.loopN (fun m s h => ∃ (x8 : Int) (l0_1 : List Int), script_row_L2 N parts m x8 l0_1 = some res2 ∧ Ghost 0 s h (mkF 17 [(3, (.sl 0 0 l0_1.length 1 false)), (6, (.row none 1 (parts.map (eL 1 (eI .u8))))), (7, (eI .i64 (parts.length : Int))), (8, (eI .i64 x8))]) [some ⟨5, l0_1.map (eI .u8)⟩]) (n := N) ⟨0, [], hL2, (Ghost.trans (Ghost.virt (fr' := [(3, (.sl 0 0 0 1 false)), (6, (.row none 1 (parts.map (eL 1 (eI .u8))))), (7, (eI .i64 (parts.length : Int))), (8, (eI .i64 0))]) (h1 := []) 5 (FLe.le rfl (V.le_virt rfl) (FLe.same rfl (FLe.same rfl (FLe.same rfl FLe.nil)))) HLv.nil) (Ghost.rn [0] rfl rfl (FLe.le rfl (by first | exact V.le_refl _ _ | (simp only [len_set, len_cpy]; exact V.le_refl _ _)) (FLe.same rfl (FLe.same rfl (FLe.same rfl FLe.nil)))) (HLe.live rfl V.les_nil rfl HLe.nil) rfl))⟩ (by rintro s h ⟨_, _, h0, _⟩; simp [script_row_L2] at h0) ?_
  rintro m2 s h ⟨x8, l0_1, hr2, hg⟩
  refine AB.ghost hg ?_
  clear hg hL2
  rw [script_row_L2] at hr2
  refine AB.seq ?_
  refine AB.rw ?_
  refine wS (v := (eB (decide (x8 < (parts.length : Int))))) (sv (d_bin rfl rfl (bin_lss ..))) ?_
  refine OpsW.nil ?_
  refine Ex.then_mk ?_
  refine AB.seq ?_
  refine AB.cnd rfl (fun h1 => ?_) (fun h1 => ?_)
  · replace hr2 := iteT hr2 h1
    refine AB.skip ?_
    refine Ex.then_mk ?_
    refine AB.seq ?_
    refine AB.block ?_
    refine AB.seq ?_
    replace hr2 := bnd hr2; obtain ⟨x10, h_2, hr2⟩ := hr2
    refine AB.rw ?_
    refine wS (sv (d_ia rfl rfl (iaR ti52 ti22 h_2))) ?_
    refine wS (v := (.row none 1 (x10.map (eI .u8)))) (sv (d_load rfl (ldR h_2 (part1 ti22 rfl rfl)))) ?_
    refine wS (v := (.row none 1 (x10.map (eI .u8)))) (sv (d_assign rfl)) ?_
    refine OpsW.nil ?_
    refine Ex.then_mk ?_
    replace hr2 := bnd hr2; obtain ⟨x14, h_3, hr2⟩ := hr2
    refine AB.rw ?_
    refine wS (v := (.sl 0 0 l0_1.length 1 false)) (sv (d_move rfl)) ?_
    refine wS (v := (.row none 1 (x10.map (eI .u8)))) (sv (d_move rfl)) ?_
    refine wS (v := (.sl 1 0 x14.length 1 false)) (h' := [none, some ⟨5, x14.map (eI .u8)⟩]) (sv (d_append rfl rfl (appS (E := (eI .u8)) rfl ti22 ti5 ⟨rfl, rfl, Nat.le_of_ble_eq_true rfl⟩ rfl (srcR (fun _ => rfl)) h_3 rfl rfl))) ?_
    refine wS (v := (.sl 1 0 x14.length 1 false)) (sv (d_assign rfl)) ?_
    refine OpsW.nil ?_
    refine Ex.inBlock_mk ?_
    refine Ex.then_mk ?_
    refine AB.rw ?_
    refine wS (v := (eI .i64 (IntKind.i64.wrap (x8 + 1)))) (sv (d_bin rfl rfl (bin_add ..))) ?_
    refine wS (v := (eI .i64 (IntKind.i64.wrap (x8 + 1)))) (sv (d_move rfl)) ?_
    refine OpsW.nil ?_
    refine Ex.then_mk ?_
    exact ⟨IntKind.i64.wrap (x8 + 1), x14, hr2, (Ghost.rn [1] rfl rfl (FLe.same rfl (FLe.same rfl (FLe.same rfl (FLe.same rfl FLe.nil)))) (HLe.live rfl (les_map (fun _ => rfl) _) (all_map (fun _ => rfl) _) HLe.nil) rfl)⟩
  · replace hr2 := iteF hr2 h1
    refine AB.exit ?_
    refine Ex.then_exit_mk ?_
    refine Ex.then_exit_mk ?_
    refine Ex.inBlock_same_mk ?_
    obtain rfl := Option.some.inj hr2
    refine Ex.then_mk ?_
    exact hG1 _ _ _ _ (Ghost.rn [0] rfl rfl (FLe.same rfl FLe.nil) (HLe.live rfl (les_map (fun _ => rfl) _) (all_map (fun _ => rfl) _) HLe.nil) rfl) (J1 l0_1 hr)
set_option maxRecDepth 20000 in
set_option maxHeartbeats 1000000 in
theorem script_push_ok (N : Nat) (data : List Int) (r : (List Int)) (hr : script_push N data = some r) :
    Vm.Fn Tryd.prog 39 [] [(.row none 1 (data.map (eI .u8)))] (.sl 0 0 r.length 1 false) [some ⟨5, r.map (eI .u8)⟩] := by
  refine fn_ab Tryd.func39 rfl (by kernel_rfl) Tryd.ntmps39 (Nat.le_of_ble_eq_true rfl) rfl (fr := [(0, (.row none 1 (data.map (eI .u8))))]) rfl ?_
  unfold script_push at hr
  refine AB.seq ?_
  refine AB.rw ?_
  refine wS (v := (.row (some true) 1 [])) (sv (d_assign rfl)) ?_
  refine OpsW.nil ?_
  refine Ex.then_mk ?_
  refine AB.seq ?_
  replace hr := bnd hr; obtain ⟨x9, h_1, hr⟩ := hr
  refine AB.rw ?_
  refine wS (v := (.row none 1 (data.map (eI .u8)))) (sv (d_move rfl)) ?_
  refine wS (v := (eI .i64 (data.length : Int))) (sv (d_len rfl (lenR ti22))) ?_
  refine wS (v := (eI .u8 (IntKind.u8.wrap (data.length : Int)))) (sv (d_conv rfl (conv_int _ ⟨_, ti3⟩ ti5 rfl))) ?_
  refine wS (v := (.sl 0 0 2 1 false)) (h' := [some ⟨5, [1, IntKind.u8.wrap (data.length : Int)].map (eI .u8)⟩]) (sv (d_buildS rfl (bldL1 (xs := [1, IntKind.u8.wrap (data.length : Int)].map (eI .u8)) ti22 ti5 (Nat.le_of_ble_eq_true rfl) (Nat.le_of_ble_eq_true rfl) rfl rfl rfl rfl rfl rfl rfl))) ?_
  refine wS (v := (.row none 1 (data.map (eI .u8)))) (sv (d_move rfl)) ?_
  refine OpsW.ghost (Ghost.conv (fr' := [(0, (.row none 1 (data.map (eI .u8)))), (2, (.row (some true) 1 [])), (3, (.row none 1 (data.map (eI .u8)))), (4, (eI .i64 (data.length : Int))), (5, (eI .u8 (IntKind.u8.wrap (data.length : Int)))), (6, (.row none 1 ([1, IntKind.u8.wrap (data.length : Int)].map (eI .u8)))), (7, (.row none 1 (data.map (eI .u8))))]) (h' := [none]) (FCv.cons rfl (Conv.same (subB_sub rfl)) (FCv.cons rfl (Conv.same (subB_sub rfl)) (FCv.cons rfl (Conv.same (subB_sub rfl)) (FCv.cons rfl (Conv.same (subB_sub rfl)) (FCv.cons rfl (Conv.same (subB_sub rfl)) (FCv.cons rfl (Conv.row (subB_sub rfl) rfl rfl (all_mapE (fun _ => rfl)) (by first | rfl | (simp only [List.length_map, len_set, len_cpy]; done) | (rw [List.length_map]; exact Eq.symm rfl))) (FCv.cons rfl (Conv.same (subB_sub rfl)) FCv.nil))))))) (HCv.dead HCv.nil)) ?_
  refine wS (v := (.sl 1 0 2 1 false)) (h' := [none, some ⟨22, [[1, IntKind.u8.wrap (data.length : Int)], data].map (eL 1 (eI .u8))⟩]) (sv (d_buildS rfl (bldL1 (xs := [[1, IntKind.u8.wrap (data.length : Int)], data].map (eL 1 (eI .u8))) ti52 ti22 (Nat.le_of_ble_eq_true rfl) (Nat.le_of_ble_eq_true rfl) rfl rfl rfl rfl rfl rfl rfl))) ?_
  refine wC (v := (.sl 2 0 x9.length 1 false)) (h' := [none, some ⟨22, [[1, IntKind.u8.wrap (data.length : Int)], data].map (eL 1 (eI .u8))⟩, some ⟨5, x9.map (eI .u8)⟩]) rfl (Vm.Fn.lendR (script_row_ok N [[1, IntKind.u8.wrap (data.length : Int)], data] x9 h_1) [] [1] (by decide) rfl (by decide) Lend.nil (Brw.row (exp_slT rfl rfl (fun _ => rfl)) Brw.nil) rfl (rfB.live (rfs_map (fun _ => rfl) _) rfB.nil) rfl (by simp only [lent, lendSet, lendSet_nil, rnH, Blk.rn, V.rns, V.rn, sg, List.map_cons, List.map_nil, Option.map_some, Option.map_none, List.drop_succ_cons, List.drop_zero, List.drop_nil, List.set_cons_zero, List.set_cons_succ, List.cons_append, List.nil_append, List.append_nil, rns_eI, rns_eB, rns_eS, rns_eL, rns_C_api_Op, List.getElem?_cons_zero, List.getElem?_cons_succ, List.getElem?_nil, List.length_cons, List.length_nil, Nat.reduceAdd, Nat.reduceSub, Nat.add_zero, Nat.zero_add, Nat.sub_self, Nat.sub_zero])) ?_
  refine wS (v := (.sl 2 0 x9.length 1 false)) (sv (d_assign rfl)) ?_
  refine OpsW.nil ?_
  refine Ex.then_mk ?_
  refine AB.ret ?_
  obtain rfl := Option.some.inj hr
  exact done_ret (r1 := (.sl 2 0 x9.length 1 false)) (res1 Tryd.results39 (rvT rfl)) (Ghost.rn [2] rfl rfl (FLe.same rfl FLe.nil) (HLe.live rfl (les_map (fun _ => rfl) _) (all_map (fun _ => rfl) _) HLe.nil) rfl)
set_option maxRecDepth 20000 in
set_option maxHeartbeats 1000000 in
theorem script_encode_ok (N : Nat) (op_Code : Int) (op_Data : List Int) (op_M : Int) (op_N : Int) (r : (List Int)) (hr : script_encode N op_Code op_Data op_M op_N = some r) :
    Vm.Fn Tryd.prog 32 [] [(.agg [(eI .i64 op_Code), (.row none 1 (op_Data.map (eI .u8))), (eI .i64 op_M), (eI .i64 op_N)])] (.sl 0 0 r.length 1 false) [some ⟨5, r.map (eI .u8)⟩] := by
  refine fn_ab Tryd.func32 rfl (by kernel_rfl) Tryd.ntmps32 (Nat.le_of_ble_eq_true rfl) rfl (fr := [(0, (.agg [(eI .i64 op_Code), (.row none 1 (op_Data.map (eI .u8))), (eI .i64 op_M), (eI .i64 op_N)]))]) rfl ?_
  unfold script_encode at hr
  refine AB.seq ?_
  refine AB.rw ?_
  refine wS (v := (.ptr 0 0)) (h' := [some ⟨59, [(eI .i64 op_Code), (.row none 1 (op_Data.map (eI .u8))), (eI .i64 op_M), (eI .i64 op_N)]⟩]) (sv (d_box rfl rfl rfl rfl)) ?_
  refine wS (v := (.row (some true) 1 [])) (sv (d_assign rfl)) ?_
  refine OpsW.nil ?_
  refine Ex.then_mk ?_
  refine AB.seq ?_
  refine AB.seq ?_
  refine AB.rw ?_
  refine wS (v := (.ptr 0 0)) (sv (d_fa rfl (fap59_0 ..))) ?_
  refine wS (v := (eI .i64 op_Code)) (sv (d_load rfl (ldP rfl (part1 ti3 rfl rfl)))) ?_
  refine OpsW.nil ?_
  refine Ex.then_mk ?_
  refine AB.block ?_
  refine AB.seq ?_
  refine AB.rw ?_
  refine wS (v := (eB (op_Code == 1))) (sv (d_bin rfl rfl (bin_eql ..))) ?_
  refine wS (v := (eB (op_Code == 1))) (sv (d_assign rfl)) ?_
  refine OpsW.nil ?_
  refine Ex.then_mk ?_
  refine AB.cnd rfl (fun h1 => ?_) (fun h1 => ?_)
  · replace hr := iteT hr h1
    refine AB.seq ?_
    replace hr := bnd hr; obtain ⟨x9, h_2, hr⟩ := hr
    refine AB.rw ?_
    refine wS (v := (.ptr 0 1)) (sv (d_fa rfl (fap59_1 ..))) ?_
    refine wS (v := (.row none 1 (op_Data.map (eI .u8)))) (sv (d_load rfl (ldP rfl (part1 ti22 rfl rfl)))) ?_
    refine wC (v := (.sl 1 0 x9.length 1 false)) (h' := [some ⟨59, [(eI .i64 op_Code), (.row none 1 (op_Data.map (eI .u8))), (eI .i64 op_M), (eI .i64 op_N)]⟩, some ⟨5, x9.map (eI .u8)⟩]) rfl (Vm.Fn.lendB (script_push_ok N op_Data x9 h_2) [] (by decide) rfl Lend.nil rfl rfl (by simp only [lent, lendSet, lendSet_nil, rnH, Blk.rn, V.rns, V.rn, sg, List.map_cons, List.map_nil, Option.map_some, Option.map_none, List.drop_succ_cons, List.drop_zero, List.drop_nil, List.set_cons_zero, List.set_cons_succ, List.cons_append, List.nil_append, List.append_nil, rns_eI, rns_eB, rns_eS, rns_eL, rns_C_api_Op, List.getElem?_cons_zero, List.getElem?_cons_succ, List.getElem?_nil, List.length_cons, List.length_nil, Nat.reduceAdd, Nat.reduceSub, Nat.add_zero, Nat.zero_add, Nat.sub_self, Nat.sub_zero])) ?_
    refine wS (v := (.sl 1 0 x9.length 1 false)) (sv (d_assign rfl)) ?_
    refine OpsW.nil ?_
    refine Ex.then_mk ?_
    refine AB.ret ?_
    refine Ex.inBlock_ret_mk ?_
    refine Ex.then_ret_mk ?_
    obtain rfl := Option.some.inj hr
    exact done_ret (r1 := (.sl 1 0 x9.length 1 false)) (res1 Tryd.results32 (rvT rfl)) (Ghost.rn [1] rfl rfl (FLe.same rfl FLe.nil) (HLe.live rfl (les_map (fun _ => rfl) _) (all_map (fun _ => rfl) _) HLe.nil) rfl)
  · replace hr := iteF hr h1
    refine AB.seq ?_
    refine AB.rw ?_
    refine wS (v := (eB (op_Code == 11))) (sv (d_bin rfl rfl (bin_eql ..))) ?_
    refine wS (v := (eB (op_Code == 11))) (sv (d_assign rfl)) ?_
    refine OpsW.nil ?_
    refine Ex.then_mk ?_
    refine AB.cnd rfl (fun h3 => ?_) (fun h3 => ?_)
    · replace hr := iteT hr h3
      refine AB.seq ?_
      refine AB.rw ?_
      refine wS (v := (.ptr 0 2)) (sv (d_fa rfl (fap59_2 ..))) ?_
      refine wS (v := (eI .i64 op_M)) (sv (d_load rfl (ldP rfl (part1 ti3 rfl rfl)))) ?_
      refine wS (v := (eI .u8 (IntKind.u8.wrap op_M))) (sv (d_conv rfl (conv_int _ ⟨_, ti3⟩ ti5 rfl))) ?_
      refine wS (v := (.ptr 0 3)) (sv (d_fa rfl (fap59_3 ..))) ?_
      refine wS (v := (eI .i64 op_N)) (sv (d_load rfl (ldP rfl (part1 ti3 rfl rfl)))) ?_
      refine wS (v := (eI .u8 (IntKind.u8.wrap op_N))) (sv (d_conv rfl (conv_int _ ⟨_, ti3⟩ ti5 rfl))) ?_
      refine wS (v := (.sl 1 0 3 1 false)) (h' := [some ⟨59, [(eI .i64 op_Code), (.row none 1 (op_Data.map (eI .u8))), (eI .i64 op_M), (eI .i64 op_N)]⟩, some ⟨5, [11, IntKind.u8.wrap op_M, IntKind.u8.wrap op_N].map (eI .u8)⟩]) (sv (d_buildS rfl (bldL1 (xs := [11, IntKind.u8.wrap op_M, IntKind.u8.wrap op_N].map (eI .u8)) ti22 ti5 (Nat.le_of_ble_eq_true rfl) (Nat.le_of_ble_eq_true rfl) rfl rfl rfl rfl rfl rfl rfl))) ?_
      refine wS (v := (.sl 1 0 3 1 false)) (sv (d_assign rfl)) ?_
      refine OpsW.nil ?_
      refine Ex.then_mk ?_
      refine AB.ret ?_
      refine Ex.inBlock_ret_mk ?_
      refine Ex.then_ret_mk ?_
      obtain rfl := Option.some.inj hr
      exact done_ret (r1 := (.sl 1 0 3 1 false)) (res1 Tryd.results32 (rvT rfl)) (Ghost.rn [1] rfl rfl (FLe.le rfl (by first | exact V.le_refl _ _ | (simp only [len_set, len_cpy]; exact V.le_refl _ _)) FLe.nil) (HLe.live rfl (les_map (fun _ => rfl) _) (all_map (fun _ => rfl) _) HLe.nil) rfl)
    · replace hr := iteF hr h3
      refine AB.skip ?_
      refine Ex.inBlock_mk ?_
      refine Ex.then_mk ?_
      refine AB.seq ?_
      refine AB.rw ?_
      refine wS (v := (.ptr 0 0)) (sv (d_fa rfl (fap59_0 ..))) ?_
      refine wS (v := (eI .i64 op_Code)) (sv (d_load rfl (ldP rfl (part1 ti3 rfl rfl)))) ?_
      refine wS (v := (eI .u8 (IntKind.u8.wrap op_Code))) (sv (d_conv rfl (conv_int _ ⟨_, ti3⟩ ti5 rfl))) ?_
      refine wS (v := (.sl 1 0 1 1 false)) (h' := [some ⟨59, [(eI .i64 op_Code), (.row none 1 (op_Data.map (eI .u8))), (eI .i64 op_M), (eI .i64 op_N)]⟩, some ⟨5, [IntKind.u8.wrap op_Code].map (eI .u8)⟩]) (sv (d_buildS rfl (bldL1 (xs := [IntKind.u8.wrap op_Code].map (eI .u8)) ti22 ti5 (Nat.le_of_ble_eq_true rfl) (Nat.le_of_ble_eq_true rfl) rfl rfl rfl rfl rfl rfl rfl))) ?_
      refine wS (v := (.sl 1 0 1 1 false)) (sv (d_assign rfl)) ?_
      refine OpsW.nil ?_
      refine Ex.then_mk ?_
      refine AB.ret ?_
      obtain rfl := Option.some.inj hr
      exact done_ret (r1 := (.sl 1 0 1 1 false)) (res1 Tryd.results32 (rvT rfl)) (Ghost.rn [1] rfl rfl (FLe.le rfl (by first | exact V.le_refl _ _ | (simp only [len_set, len_cpy]; exact V.le_refl _ _)) FLe.nil) (HLe.live rfl (les_map (fun _ => rfl) _) (all_map (fun _ => rfl) _) HLe.nil) rfl)
set_option maxRecDepth 20000 in
set_option maxHeartbeats 1000000 in
theorem script_Assemble_ok (N : Nat) (l : List S_api_Op) (r : (List Int) × Int) (hr : script_Assemble N l = some r) :
    Vm.Fn Tryd.prog 14 [] [(.row none 4 (l.map E_api_Op))] (.tup [(.sl 0 0 r.1.length 1 false), (eI .i64 r.2)]) [some ⟨5, r.1.map (eI .u8)⟩] := by
  refine fn_ab Tryd.func14 rfl (by kernel_rfl) Tryd.ntmps14 (Nat.le_of_ble_eq_true rfl) rfl (fr := [(0, (.row none 4 (l.map E_api_Op)))]) rfl ?_
  unfold script_Assemble at hr
  refine AB.seq ?_
  refine AB.rw ?_
  refine wS (v := (.row (some true) 1 [])) (sv (d_assign rfl)) ?_
  refine wS (v := (eI .i64 0)) (sv (d_assign rfl)) ?_
  refine OpsW.nil ?_
  refine Ex.then_mk ?_
  refine AB.seq ?_
  refine AB.rw ?_
  refine wS (v := (.row (some true) 1 [])) (sv (d_assign rfl)) ?_
  refine OpsW.nil ?_
  refine Ex.then_mk ?_
  refine AB.seq_g fun K1 hK1 hG1 => ?_
  have J1 : ∀ (l0 : List Int), script_Assemble_J1 N l0 = some r → K1 (mkF 28 [(4, (.sl 0 0 l0.length 1 false))]) [some ⟨5, l0.map (eI .u8)⟩] := by
    intro l0 hr
    unfold script_Assemble_J1 at hr
    refine hK1 _ _ ?_
    refine AB.seq ?_
    refine AB.seq ?_
    refine AB.rw ?_
    refine wS (v := (.sl 0 0 l0.length 1 false)) (sv (d_move rfl)) ?_
    refine wS (v := (eI .i64 (l0.length : Int))) (sv (d_len rfl (lenS ti22))) ?_
    refine wS (v := (eB (decide (520 < (l0.length : Int))))) (sv (d_bin rfl rfl (bin_gtr ..))) ?_
    refine OpsW.nil ?_
    refine Ex.then_mk ?_
    refine AB.cnd rfl (fun h1 => ?_) (fun h1 => ?_)
    · replace hr := iteT hr h1
      refine AB.seq ?_
      refine AB.rw ?_
      refine wS (v := (.row (some true) 1 [])) (sv (d_assign rfl)) ?_
      refine wS (v := (eI .i64 4)) (sv (d_assign rfl)) ?_
      refine OpsW.nil ?_
      refine Ex.then_mk ?_
      refine AB.ret ?_
      refine Ex.then_ret_mk ?_
      obtain rfl := Option.some.inj hr
      exact done_ret (r1 := (.tup [(.row (some true) 1 []), (eI .i64 4)])) (res2 Tryd.results14 (rvT rfl) (rvT rfl)) (Ghost.trans (Ghost.virt (fr' := [(0, (.tup [(.sl 1 0 0 1 false), (eI .i64 4)]))]) (h1 := [some ⟨5, l0.map (eI .u8)⟩]) 5 (FLe.le rfl (V.le_tup (V.les_cons (V.le_virt rfl) (V.les_cons (V.le_refl _ _) V.les_nil))) FLe.nil) (HLv.live (V.les_refl _ _) (all_map (fun _ => rfl) _) HLv.nil)) (Ghost.rn [1] rfl rfl (FLe.le rfl (V.le_tup (V.les_cons (by first | exact V.le_refl _ _ | (simp only [len_set, len_cpy]; exact V.le_refl _ _)) (V.les_cons (V.le_refl _ _) V.les_nil))) FLe.nil) (HLe.live rfl V.les_nil rfl HLe.nil) rfl))
    · replace hr := iteF hr h1
      refine AB.skip ?_
      refine Ex.then_mk ?_
      refine AB.seq ?_
      refine AB.rw ?_
      refine wS (v := (.sl 0 0 l0.length 1 false)) (sv (d_move rfl)) ?_
      refine wS (v := (.sl 0 0 l0.length 1 false)) (sv (d_assign rfl)) ?_
      refine wS (v := (eI .i64 0)) (sv (d_assign rfl)) ?_
      refine OpsW.nil ?_
      refine Ex.then_mk ?_
      refine AB.ret ?_
      obtain rfl := Option.some.inj hr
      exact done_ret (r1 := (.tup [(.sl 0 0 l0.length 1 false), (eI .i64 0)])) (res2 Tryd.results14 (rvT rfl) (rvT rfl)) (Ghost.rn [0] rfl rfl (FLe.same rfl FLe.nil) (HLe.live rfl (les_map (fun _ => rfl) _) (all_map (fun _ => rfl) _) HLe.nil) rfl)
  refine AB.seq ?_
  refine AB.rw ?_
  refine wS (v := (.row none 4 (l.map E_api_Op))) (sv (d_move rfl)) ?_
  refine wS (v := (eI .i64 (l.length : Int))) (sv (d_len rfl (lenR ti31))) ?_
  refine wS (v := (eI .i64 0)) (sv (d_move rfl)) ?_
  refine OpsW.nil ?_
  refine Ex.then_mk ?_
  replace hr := bnd hr; obtain ⟨res2, hL2, hr⟩ := hr
  refine AB.block ?_
  refine AB.loopN (fun m s h => ∃ (x10 : Int) (l0_1 : List Int), script_Assemble_L2 N l m x10 l0_1 = some res2 ∧ Ghost 0 s h (mkF 28 [(4, (.sl 0 0 l0_1.length 1 false)), (8, (.row none 4 (l.map E_api_Op))), (9, (eI .i64 (l.length : Int))), (10, (eI .i64 x10))]) [some ⟨5, l0_1.map (eI .u8)⟩]) (n := N) ⟨0, [], hL2, (Ghost.trans (Ghost.virt (fr' := [(4, (.sl 0 0 0 1 false)), (8, (.row none 4 (l.map E_api_Op))), (9, (eI .i64 (l.length : Int))), (10, (eI .i64 0))]) (h1 := []) 5 (FLe.le rfl (V.le_virt rfl) (FLe.same rfl (FLe.same rfl (FLe.same rfl FLe.nil)))) HLv.nil) (Ghost.rn [0] rfl rfl (FLe.le rfl (by first | exact V.le_refl _ _ | (simp only [len_set, len_cpy]; exact V.le_refl _ _)) (FLe.same rfl (FLe.same rfl (FLe.same rfl FLe.nil)))) (HLe.live rfl V.les_nil rfl HLe.nil) rfl))⟩ (by rintro s h ⟨_, _, h0, _⟩; simp [script_Assemble_L2] at h0) ?_
  rintro m2 s h ⟨x10, l0_1, hr2, hg⟩
  refine AB.ghost hg ?_
  clear hg hL2
  rw [script_Assemble_L2] at hr2
  refine AB.seq ?_
  refine AB.rw ?_
  refine wS (v := (eB (decide (x10 < (l.length : Int))))) (sv (d_bin rfl rfl (bin_lss ..))) ?_
  refine OpsW.nil ?_
  refine Ex.then_mk ?_
  refine AB.seq ?_
  refine AB.cnd rfl (fun h2 => ?_) (fun h2 => ?_)
  · replace hr2 := iteT hr2 h2
    refine AB.skip ?_
    refine Ex.then_mk ?_
    refine AB.seq ?_
    refine AB.block ?_
    refine AB.seq ?_
    replace hr2 := bnd hr2; obtain ⟨x12, h_3, hr2⟩ := hr2
    refine AB.rw ?_
    refine wS (sv (d_ia rfl rfl (iaR ti31 ti59 h_3))) ?_
    refine wS (v := (.agg [(eI .i64 x12.Code), (.row none 1 (x12.Data.map (eI .u8))), (eI .i64 x12.M), (eI .i64 x12.N)])) (sv (d_load rfl (ldR h_3 (partN (ds := [(eI .i64 x12.Code), (.row none 1 (x12.Data.map (eI .u8))), (eI .i64 x12.M), (eI .i64 x12.N)]) ti59 rfl (Nat.le_of_ble_eq_true rfl) rfl)))) ?_
    refine wS (v := (.ptr 1 0)) (h' := [some ⟨5, l0_1.map (eI .u8)⟩, some ⟨59, [(eI .i64 0), (.row (some true) 1 []), (eI .i64 0), (eI .i64 0)]⟩]) (sv (d_alloc ti59 rfl rfl rfl)) ?_
    refine wN (h' := [some ⟨5, l0_1.map (eI .u8)⟩, some ⟨59, [(eI .i64 x12.Code), (.row none 1 (x12.Data.map (eI .u8))), (eI .i64 x12.M), (eI .i64 x12.N)]⟩]) (sv (d_store rfl rfl (stP ti59 rfl rfl rfl (Nat.le_of_ble_eq_true rfl) rfl))) ?_
    refine OpsW.nil ?_
    refine Ex.then_mk ?_
    refine AB.seq ?_
    refine AB.seq ?_
    replace hr2 := bnd hr2; obtain ⟨x15, h_4, hr2⟩ := hr2
    refine AB.rw ?_
    refine wS (v := (.agg [(eI .i64 x12.Code), (.row none 1 (x12.Data.map (eI .u8))), (eI .i64 x12.M), (eI .i64 x12.N)])) (sv (d_load rfl (ldP rfl (partN (ds := [(eI .i64 x12.Code), (.row none 1 (x12.Data.map (eI .u8))), (eI .i64 x12.M), (eI .i64 x12.N)]) ti59 rfl (Nat.le_of_ble_eq_true rfl) rfl)))) ?_
    refine wC (v := (eI .i64 x15)) (h' := [some ⟨5, l0_1.map (eI .u8)⟩, some ⟨59, [(eI .i64 x12.Code), (.row none 1 (x12.Data.map (eI .u8))), (eI .i64 x12.M), (eI .i64 x12.N)]⟩]) rfl (Vm.Fn.pure (script_check_ok N x12.Code x12.Data x12.M x12.N x15 h_4) rfl rfl) ?_
    refine wS (v := (eI .i64 x15)) (sv (d_assign rfl)) ?_
    refine OpsW.nil ?_
    refine Ex.then_mk ?_
    refine AB.seq ?_
    refine AB.rw ?_
    refine wS (v := (eI .i64 x15)) (sv (d_move rfl)) ?_
    refine wS (v := (eB (x15 != 0))) (sv (d_bin rfl rfl (bin_neq ..))) ?_
    refine OpsW.nil ?_
    refine Ex.then_mk ?_
    refine AB.cnd rfl (fun h5 => ?_) (fun h5 => ?_)
    · replace hr2 := iteT hr2 h5
      refine AB.seq ?_
      refine AB.rw ?_
      refine wS (v := (eI .i64 x15)) (sv (d_move rfl)) ?_
      refine wS (v := (.row (some true) 1 [])) (sv (d_assign rfl)) ?_
      refine wS (v := (eI .i64 x15)) (sv (d_assign rfl)) ?_
      refine OpsW.nil ?_
      refine Ex.then_mk ?_
      refine AB.ret ?_
      refine Ex.then_ret_mk ?_
      refine Ex.inBlock_ret_mk ?_
      refine Ex.then_ret_mk ?_
      refine Ex.then_ret_mk ?_
      refine Ex.inBlock_ret_mk ?_
      refine Ex.then_ret_mk ?_
      obtain rfl := Option.some.inj hr2
      obtain rfl := Option.some.inj hr
      exact done_ret (r1 := (.tup [(.row (some true) 1 []), (eI .i64 x15)])) (res2 Tryd.results14 (rvT rfl) (rvT rfl)) (Ghost.trans (Ghost.virt (fr' := [(0, (.tup [(.sl 2 0 0 1 false), (eI .i64 x15)]))]) (h1 := [some ⟨5, l0_1.map (eI .u8)⟩, some ⟨59, [(eI .i64 x12.Code), (.row none 1 (x12.Data.map (eI .u8))), (eI .i64 x12.M), (eI .i64 x12.N)]⟩]) 5 (FLe.le rfl (V.le_tup (V.les_cons (V.le_virt rfl) (V.les_cons (V.le_refl _ _) V.les_nil))) FLe.nil) (HLv.live (V.les_refl _ _) (all_map (fun _ => rfl) _) (HLv.live (V.les_refl _ _) rfl HLv.nil))) (Ghost.rn [2] rfl rfl (FLe.le rfl (V.le_tup (V.les_cons (by first | exact V.le_refl _ _ | (simp only [len_set, len_cpy]; exact V.le_refl _ _)) (V.les_cons (V.le_refl _ _) V.les_nil))) FLe.nil) (HLe.live rfl V.les_nil rfl HLe.nil) rfl))
    · replace hr2 := iteF hr2 h5
      refine AB.skip ?_
      refine Ex.then_mk ?_
      replace hr2 := bnd hr2; obtain ⟨x21, h_6, hr2⟩ := hr2
      replace hr2 := bnd hr2; obtain ⟨x22, h_7, hr2⟩ := hr2
      refine AB.rw ?_
      refine wS (v := (.sl 0 0 l0_1.length 1 false)) (sv (d_move rfl)) ?_
      refine wS (v := (.agg [(eI .i64 x12.Code), (.row none 1 (x12.Data.map (eI .u8))), (eI .i64 x12.M), (eI .i64 x12.N)])) (sv (d_load rfl (ldP rfl (partN (ds := [(eI .i64 x12.Code), (.row none 1 (x12.Data.map (eI .u8))), (eI .i64 x12.M), (eI .i64 x12.N)]) ti59 rfl (Nat.le_of_ble_eq_true rfl) rfl)))) ?_
      refine wC (v := (.sl 2 0 x21.length 1 false)) (h' := [some ⟨5, l0_1.map (eI .u8)⟩, some ⟨59, [(eI .i64 x12.Code), (.row none 1 (x12.Data.map (eI .u8))), (eI .i64 x12.M), (eI .i64 x12.N)]⟩, some ⟨5, x21.map (eI .u8)⟩]) rfl (Vm.Fn.lendB (script_encode_ok N x12.Code x12.Data x12.M x12.N x21 h_6) [] (by decide) rfl Lend.nil rfl rfl (by simp only [lent, lendSet, lendSet_nil, rnH, Blk.rn, V.rns, V.rn, sg, List.map_cons, List.map_nil, Option.map_some, Option.map_none, List.drop_succ_cons, List.drop_zero, List.drop_nil, List.set_cons_zero, List.set_cons_succ, List.cons_append, List.nil_append, List.append_nil, rns_eI, rns_eB, rns_eS, rns_eL, rns_C_api_Op, List.getElem?_cons_zero, List.getElem?_cons_succ, List.getElem?_nil, List.length_cons, List.length_nil, Nat.reduceAdd, Nat.reduceSub, Nat.add_zero, Nat.zero_add, Nat.sub_self, Nat.sub_zero])) ?_
      refine wS (v := (.sl 3 0 x22.length 1 false)) (h' := [none, some ⟨59, [(eI .i64 x12.Code), (.row none 1 (x12.Data.map (eI .u8))), (eI .i64 x12.M), (eI .i64 x12.N)]⟩, some ⟨5, x21.map (eI .u8)⟩, some ⟨5, x22.map (eI .u8)⟩]) (sv (d_append rfl rfl (appS (E := (eI .u8)) rfl ti22 ti5 ⟨rfl, rfl, Nat.le_of_ble_eq_true rfl⟩ rfl (srcS rfl rfl) h_7 rfl rfl))) ?_
      refine wS (v := (.sl 3 0 x22.length 1 false)) (sv (d_assign rfl)) ?_
      refine OpsW.nil ?_
      refine Ex.inBlock_mk ?_
      refine Ex.then_mk ?_
      refine AB.rw ?_
      refine wS (v := (eI .i64 (IntKind.i64.wrap (x10 + 1)))) (sv (d_bin rfl rfl (bin_add ..))) ?_
      refine wS (v := (eI .i64 (IntKind.i64.wrap (x10 + 1)))) (sv (d_move rfl)) ?_
      refine OpsW.nil ?_
      refine Ex.then_mk ?_
      exact ⟨IntKind.i64.wrap (x10 + 1), x22, hr2, (Ghost.rn [3] rfl rfl (FLe.same rfl (FLe.same rfl (FLe.same rfl (FLe.same rfl FLe.nil)))) (HLe.live rfl (les_map (fun _ => rfl) _) (all_map (fun _ => rfl) _) HLe.nil) rfl)⟩
  · replace hr2 := iteF hr2 h2
    refine AB.exit ?_
    refine Ex.then_exit_mk ?_
    refine Ex.then_exit_mk ?_
    refine Ex.inBlock_same_mk ?_
    obtain rfl := Option.some.inj hr2
    refine Ex.then_mk ?_
    exact hG1 _ _ _ _ (Ghost.rn [0] rfl rfl (FLe.same rfl FLe.nil) (HLe.live rfl (les_map (fun _ => rfl) _) (all_map (fun _ => rfl) _) HLe.nil) rfl) (J1 l0_1 hr)
set_option maxRecDepth 20000 in
set_option maxHeartbeats 1000000 in
theorem ref08_fault_ok (N : Nat) (o_Code : Int) (o_Data : List Int) (o_M : Int) (o_N : Int) (r : Int) (hr : ref08_fault N o_Code o_Data o_M o_N = some r) :
    Vm.Fn Tryd.prog 33 [] [(.agg [(eI .i64 o_Code), (.row none 1 (o_Data.map (eI .u8))), (eI .i64 o_M), (eI .i64 o_N)])] (eI .i64 r) [] := by
  refine fn_ab Tryd.func33 rfl (by kernel_rfl) Tryd.ntmps33 (Nat.le_of_ble_eq_true rfl) rfl (fr := [(0, (.agg [(eI .i64 o_Code), (.row none 1 (o_Data.map (eI .u8))), (eI .i64 o_M), (eI .i64 o_N)]))]) rfl ?_
  unfold ref08_fault at hr
  refine AB.seq ?_
  refine AB.rw ?_
  refine wS (v := (.ptr 0 0)) (h' := [some ⟨59, [(eI .i64 o_Code), (.row none 1 (o_Data.map (eI .u8))), (eI .i64 o_M), (eI .i64 o_N)]⟩]) (sv (d_box rfl rfl rfl rfl)) ?_
  refine wS (v := (eI .i64 0)) (sv (d_assign rfl)) ?_
  refine OpsW.nil ?_
  refine Ex.then_mk ?_
  refine AB.seq ?_
  refine AB.block ?_
  refine AB.seq_g fun K1 hK1 hG1 => ?_
  have J1 : ∀ (x3 : Bool), ref08_fault_J1 N o_Code o_Data o_M o_N x3 = some r → K1 (mkF 66 [(1, (.ptr 0 0)), (3, (eB x3))]) [some ⟨59, [(eI .i64 o_Code), (.row none 1 (o_Data.map (eI .u8))), (eI .i64 o_M), (eI .i64 o_N)]⟩] := by
    intro x3 hr
    unfold ref08_fault_J1 at hr
    refine hK1 _ _ ?_
    refine AB.cnd rfl (fun h1 => ?_) (fun h1 => ?_)
    · replace hr := iteT hr h1
      refine AB.seq ?_
      refine AB.rw ?_
      refine wS (v := (eI .i64 80)) (sv (d_assign rfl)) ?_
      refine OpsW.nil ?_
      refine Ex.then_mk ?_
      refine AB.ret ?_
      refine Ex.inBlock_ret_mk ?_
      refine Ex.then_ret_mk ?_
      obtain rfl := Option.some.inj hr
      exact done_ret (r1 := (eI .i64 80)) (res1 Tryd.results33 (rvT rfl)) (Ghost.rn [] rfl rfl (FLe.same rfl FLe.nil) HLe.nil rfl)
    · replace hr := iteF hr h1
      refine AB.seq_g fun K2 hK2 hG2 => ?_
      have J2 : ∀ (x12 : Bool), ref08_fault_J2 N o_Code o_Data o_M o_N x12 = some r → K2 (mkF 66 [(1, (.ptr 0 0)), (12, (eB x12))]) [some ⟨59, [(eI .i64 o_Code), (.row none 1 (o_Data.map (eI .u8))), (eI .i64 o_M), (eI .i64 o_N)]⟩] := by
        intro x12 hr
        unfold ref08_fault_J2 at hr
        refine hK2 _ _ ?_
        refine AB.cnd rfl (fun h2 => ?_) (fun h2 => ?_)
        · replace hr := iteT hr h2
          refine AB.seq ?_
          refine AB.rw ?_
          refine wS (v := (eI .i64 6)) (sv (d_assign rfl)) ?_
          refine OpsW.nil ?_
          refine Ex.then_mk ?_
          refine AB.ret ?_
          refine Ex.inBlock_ret_mk ?_
          refine Ex.then_ret_mk ?_
          obtain rfl := Option.some.inj hr
          exact done_ret (r1 := (eI .i64 6)) (res1 Tryd.results33 (rvT rfl)) (Ghost.rn [] rfl rfl (FLe.same rfl FLe.nil) HLe.nil rfl)
        · replace hr := iteF hr h2
          refine AB.seq ?_
          refine AB.rw ?_
          refine wS (v := (.ptr 0 1)) (sv (d_fa rfl (fap59_1 ..))) ?_
          refine wS (v := (.row none 1 (o_Data.map (eI .u8)))) (sv (d_load rfl (ldP rfl (part1 ti22 rfl rfl)))) ?_
          refine wS (v := (eI .i64 (o_Data.length : Int))) (sv (d_len rfl (lenR ti22))) ?_
          refine wS (v := (eB (decide (255 < (o_Data.length : Int))))) (sv (d_bin rfl rfl (bin_gtr ..))) ?_
          refine wS (v := (eB (decide (255 < (o_Data.length : Int))))) (sv (d_assign rfl)) ?_
          refine OpsW.nil ?_
          refine Ex.then_mk ?_
          refine AB.cnd rfl (fun h3 => ?_) (fun h3 => ?_)
          · replace hr := iteT hr h3
            refine AB.seq ?_
            refine AB.rw ?_
            refine wS (v := (eI .i64 4)) (sv (d_assign rfl)) ?_
            refine OpsW.nil ?_
            refine Ex.then_mk ?_
            refine AB.ret ?_
            refine Ex.inBlock_ret_mk ?_
            refine Ex.then_ret_mk ?_
            obtain rfl := Option.some.inj hr
            exact done_ret (r1 := (eI .i64 4)) (res1 Tryd.results33 (rvT rfl)) (Ghost.rn [] rfl rfl (FLe.same rfl FLe.nil) HLe.nil rfl)
          · replace hr := iteF hr h3
            refine AB.seq_g fun K3 hK3 hG3 => ?_
            have J3 : ∀ (x40 : Bool), ref08_fault_J3 N x40 = some r → K3 (mkF 66 [(40, (eB x40))]) [] := by
              intro x40 hr
              unfold ref08_fault_J3 at hr
              refine hK3 _ _ ?_
              refine AB.cnd rfl (fun h4 => ?_) (fun h4 => ?_)
              · replace hr := iteT hr h4
                refine AB.seq ?_
                refine AB.rw ?_
                refine wS (v := (eI .i64 5)) (sv (d_assign rfl)) ?_
                refine OpsW.nil ?_
                refine Ex.then_mk ?_
                refine AB.ret ?_
                refine Ex.inBlock_ret_mk ?_
                refine Ex.then_ret_mk ?_
                obtain rfl := Option.some.inj hr
                exact done_ret (r1 := (eI .i64 5)) (res1 Tryd.results33 (rvT rfl)) (Ghost.rn [] rfl rfl (FLe.same rfl FLe.nil) HLe.nil rfl)
              · replace hr := iteF hr h4
                refine AB.skip ?_
                refine Ex.inBlock_mk ?_
                refine Ex.then_mk ?_
                refine AB.seq ?_
                refine AB.rw ?_
                refine wS (v := (eI .i64 0)) (sv (d_assign rfl)) ?_
                refine OpsW.nil ?_
                refine Ex.then_mk ?_
                refine AB.ret ?_
                obtain rfl := Option.some.inj hr
                exact done_ret (r1 := (eI .i64 0)) (res1 Tryd.results33 (rvT rfl)) (Ghost.rn [] rfl rfl (FLe.same rfl FLe.nil) HLe.nil rfl)
            rcases Bool.eq_false_or_eq_true (o_Code == 11) with h5 | h5
            · replace hr := iteT hr h5
              rcases Bool.eq_false_or_eq_true (decide (o_N < 1)) with h6 | h6
              · replace hr := iteT hr h6
                refine AB.rw ?_
                refine wS (v := (.ptr 0 0)) (sv (d_fa rfl (fap59_0 ..))) ?_
                refine wS (v := (eI .i64 o_Code)) (sv (d_load rfl (ldP rfl (part1 ti3 rfl rfl)))) ?_
                refine wS (v := (eB (o_Code == 11))) (sv (d_bin rfl rfl (bin_eql ..))) ?_
                refine wS (v := (eB (o_Code == 11))) (sv (d_move rfl)) ?_
                refine wS (v := (.ptr 0 3)) (svG rfl rfl h5 (d_fa rfl (fap59_3 ..))) ?_
                refine wS (v := (eI .i64 o_N)) (svG rfl rfl h5 (d_load rfl (ldP rfl (part1 ti3 rfl rfl)))) ?_
                refine wS (v := (eB (decide (o_N < 1)))) (svG rfl rfl h5 (d_bin rfl rfl (bin_lss ..))) ?_
                refine wS (v := (eB (decide (o_N < 1)))) (svG rfl rfl h5 (d_move rfl)) ?_
                refine wS (svX rfl rfl h6) ?_
                refine wS (svX rfl rfl h6) ?_
                refine wS (svX rfl rfl h6) ?_
                refine wS (v := (eB true)) (svG rfl rfl h5 (d_pickT rfl h6 rfl)) ?_
                refine wS (v := (eB true)) (svG rfl rfl h5 (d_move rfl)) ?_
                refine wS (svX rfl rfl rfl) ?_
                refine wS (svX rfl rfl rfl) ?_
                refine wS (svX rfl rfl rfl) ?_
                refine wS (v := (eB true)) (svG rfl rfl h5 (d_pickT rfl rfl rfl)) ?_
                refine wS (v := (eB true)) (svG rfl rfl h5 (d_move rfl)) ?_
                refine wS (svX rfl rfl rfl) ?_
                refine wS (svX rfl rfl rfl) ?_
                refine wS (svX rfl rfl rfl) ?_
                refine wS (svX rfl rfl rfl) ?_
                refine wS (svX rfl rfl rfl) ?_
                refine wS (v := (eB true)) (svG rfl rfl h5 (d_pickT rfl rfl rfl)) ?_
                refine wS (v := (eB true)) (sv (d_pickT rfl h5 rfl)) ?_
                refine wS (v := (eB true)) (sv (d_assign rfl)) ?_
                refine OpsW.nil ?_
                refine Ex.then_mk ?_
                exact hG3 _ _ _ _ (Ghost.rn [] rfl rfl (FLe.same rfl FLe.nil) HLe.nil rfl) (J3 true hr)
              · replace hr := iteF hr h6
                rcases Bool.eq_false_or_eq_true (decide (15 < o_N)) with h7 | h7
                · replace hr := iteT hr h7
                  refine AB.rw ?_
                  refine wS (v := (.ptr 0 0)) (sv (d_fa rfl (fap59_0 ..))) ?_
                  refine wS (v := (eI .i64 o_Code)) (sv (d_load rfl (ldP rfl (part1 ti3 rfl rfl)))) ?_
                  refine wS (v := (eB (o_Code == 11))) (sv (d_bin rfl rfl (bin_eql ..))) ?_
                  refine wS (v := (eB (o_Code == 11))) (sv (d_move rfl)) ?_
                  refine wS (v := (.ptr 0 3)) (svG rfl rfl h5 (d_fa rfl (fap59_3 ..))) ?_
                  refine wS (v := (eI .i64 o_N)) (svG rfl rfl h5 (d_load rfl (ldP rfl (part1 ti3 rfl rfl)))) ?_
                  refine wS (v := (eB (decide (o_N < 1)))) (svG rfl rfl h5 (d_bin rfl rfl (bin_lss ..))) ?_
                  refine wS (v := (eB (decide (o_N < 1)))) (svG rfl rfl h5 (d_move rfl)) ?_
                  refine wS (v := (.ptr 0 3)) (svG rfl rfl h6 (d_fa rfl (fap59_3 ..))) ?_
                  refine wS (v := (eI .i64 o_N)) (svG rfl rfl h6 (d_load rfl (ldP rfl (part1 ti3 rfl rfl)))) ?_
                  refine wS (v := (eB (decide (15 < o_N)))) (svG rfl rfl h6 (d_bin rfl rfl (bin_gtr ..))) ?_
                  refine wS (v := (eB (decide (15 < o_N)))) (svG rfl rfl h5 (d_pickF rfl h6 rfl)) ?_
                  refine wS (v := (eB (decide (15 < o_N)))) (svG rfl rfl h5 (d_move rfl)) ?_
                  refine wS (svX rfl rfl h7) ?_
                  refine wS (svX rfl rfl h7) ?_
                  refine wS (svX rfl rfl h7) ?_
                  refine wS (v := (eB true)) (svG rfl rfl h5 (d_pickT rfl h7 rfl)) ?_
                  refine wS (v := (eB true)) (svG rfl rfl h5 (d_move rfl)) ?_
                  refine wS (svX rfl rfl rfl) ?_
                  refine wS (svX rfl rfl rfl) ?_
                  refine wS (svX rfl rfl rfl) ?_
                  refine wS (svX rfl rfl rfl) ?_
                  refine wS (svX rfl rfl rfl) ?_
                  refine wS (v := (eB true)) (svG rfl rfl h5 (d_pickT rfl rfl rfl)) ?_
                  refine wS (v := (eB true)) (sv (d_pickT rfl h5 rfl)) ?_
                  refine wS (v := (eB true)) (sv (d_assign rfl)) ?_
                  refine OpsW.nil ?_
                  refine Ex.then_mk ?_
                  exact hG3 _ _ _ _ (Ghost.rn [] rfl rfl (FLe.same rfl FLe.nil) HLe.nil rfl) (J3 true hr)
                · replace hr := iteF hr h7
                  rcases Bool.eq_false_or_eq_true (decide (o_M < 1)) with h8 | h8
                  · replace hr := iteT hr h8
                    refine AB.rw ?_
                    refine wS (v := (.ptr 0 0)) (sv (d_fa rfl (fap59_0 ..))) ?_
                    refine wS (v := (eI .i64 o_Code)) (sv (d_load rfl (ldP rfl (part1 ti3 rfl rfl)))) ?_
                    refine wS (v := (eB (o_Code == 11))) (sv (d_bin rfl rfl (bin_eql ..))) ?_
                    refine wS (v := (eB (o_Code == 11))) (sv (d_move rfl)) ?_
                    refine wS (v := (.ptr 0 3)) (svG rfl rfl h5 (d_fa rfl (fap59_3 ..))) ?_
                    refine wS (v := (eI .i64 o_N)) (svG rfl rfl h5 (d_load rfl (ldP rfl (part1 ti3 rfl rfl)))) ?_
                    refine wS (v := (eB (decide (o_N < 1)))) (svG rfl rfl h5 (d_bin rfl rfl (bin_lss ..))) ?_
                    refine wS (v := (eB (decide (o_N < 1)))) (svG rfl rfl h5 (d_move rfl)) ?_
                    refine wS (v := (.ptr 0 3)) (svG rfl rfl h6 (d_fa rfl (fap59_3 ..))) ?_
                    refine wS (v := (eI .i64 o_N)) (svG rfl rfl h6 (d_load rfl (ldP rfl (part1 ti3 rfl rfl)))) ?_
                    refine wS (v := (eB (decide (15 < o_N)))) (svG rfl rfl h6 (d_bin rfl rfl (bin_gtr ..))) ?_
                    refine wS (v := (eB (decide (15 < o_N)))) (svG rfl rfl h5 (d_pickF rfl h6 rfl)) ?_
                    refine wS (v := (eB (decide (15 < o_N)))) (svG rfl rfl h5 (d_move rfl)) ?_
                    refine wS (v := (.ptr 0 2)) (svG rfl rfl h7 (d_fa rfl (fap59_2 ..))) ?_
                    refine wS (v := (eI .i64 o_M)) (svG rfl rfl h7 (d_load rfl (ldP rfl (part1 ti3 rfl rfl)))) ?_
                    refine wS (v := (eB (decide (o_M < 1)))) (svG rfl rfl h7 (d_bin rfl rfl (bin_lss ..))) ?_
                    refine wS (v := (eB (decide (o_M < 1)))) (svG rfl rfl h5 (d_pickF rfl h7 rfl)) ?_
                    refine wS (v := (eB (decide (o_M < 1)))) (svG rfl rfl h5 (d_move rfl)) ?_
                    refine wS (svX rfl rfl h8) ?_
                    refine wS (svX rfl rfl h8) ?_
                    refine wS (svX rfl rfl h8) ?_
                    refine wS (svX rfl rfl h8) ?_
                    refine wS (svX rfl rfl h8) ?_
                    refine wS (v := (eB true)) (svG rfl rfl h5 (d_pickT rfl h8 rfl)) ?_
                    refine wS (v := (eB true)) (sv (d_pickT rfl h5 rfl)) ?_
                    refine wS (v := (eB true)) (sv (d_assign rfl)) ?_
                    refine OpsW.nil ?_
                    refine Ex.then_mk ?_
                    exact hG3 _ _ _ _ (Ghost.rn [] rfl rfl (FLe.same rfl FLe.nil) HLe.nil rfl) (J3 true hr)
                  · replace hr := iteF hr h8
                    refine AB.rw ?_
                    refine wS (v := (.ptr 0 0)) (sv (d_fa rfl (fap59_0 ..))) ?_
                    refine wS (v := (eI .i64 o_Code)) (sv (d_load rfl (ldP rfl (part1 ti3 rfl rfl)))) ?_
                    refine wS (v := (eB (o_Code == 11))) (sv (d_bin rfl rfl (bin_eql ..))) ?_
                    refine wS (v := (eB (o_Code == 11))) (sv (d_move rfl)) ?_
                    refine wS (v := (.ptr 0 3)) (svG rfl rfl h5 (d_fa rfl (fap59_3 ..))) ?_
                    refine wS (v := (eI .i64 o_N)) (svG rfl rfl h5 (d_load rfl (ldP rfl (part1 ti3 rfl rfl)))) ?_
                    refine wS (v := (eB (decide (o_N < 1)))) (svG rfl rfl h5 (d_bin rfl rfl (bin_lss ..))) ?_
                    refine wS (v := (eB (decide (o_N < 1)))) (svG rfl rfl h5 (d_move rfl)) ?_
                    refine wS (v := (.ptr 0 3)) (svG rfl rfl h6 (d_fa rfl (fap59_3 ..))) ?_
                    refine wS (v := (eI .i64 o_N)) (svG rfl rfl h6 (d_load rfl (ldP rfl (part1 ti3 rfl rfl)))) ?_
                    refine wS (v := (eB (decide (15 < o_N)))) (svG rfl rfl h6 (d_bin rfl rfl (bin_gtr ..))) ?_
                    refine wS (v := (eB (decide (15 < o_N)))) (svG rfl rfl h5 (d_pickF rfl h6 rfl)) ?_
                    refine wS (v := (eB (decide (15 < o_N)))) (svG rfl rfl h5 (d_move rfl)) ?_
                    refine wS (v := (.ptr 0 2)) (svG rfl rfl h7 (d_fa rfl (fap59_2 ..))) ?_
                    refine wS (v := (eI .i64 o_M)) (svG rfl rfl h7 (d_load rfl (ldP rfl (part1 ti3 rfl rfl)))) ?_
                    refine wS (v := (eB (decide (o_M < 1)))) (svG rfl rfl h7 (d_bin rfl rfl (bin_lss ..))) ?_
                    refine wS (v := (eB (decide (o_M < 1)))) (svG rfl rfl h5 (d_pickF rfl h7 rfl)) ?_
                    refine wS (v := (eB (decide (o_M < 1)))) (svG rfl rfl h5 (d_move rfl)) ?_
                    refine wS (v := (.ptr 0 2)) (svG rfl rfl h8 (d_fa rfl (fap59_2 ..))) ?_
                    refine wS (v := (eI .i64 o_M)) (svG rfl rfl h8 (d_load rfl (ldP rfl (part1 ti3 rfl rfl)))) ?_
                    refine wS (v := (.ptr 0 3)) (svG rfl rfl h8 (d_fa rfl (fap59_3 ..))) ?_
                    refine wS (v := (eI .i64 o_N)) (svG rfl rfl h8 (d_load rfl (ldP rfl (part1 ti3 rfl rfl)))) ?_
                    refine wS (v := (eB (decide (o_N < o_M)))) (svG rfl rfl h8 (d_bin rfl rfl (bin_gtr ..))) ?_
                    refine wS (v := (eB (decide (o_N < o_M)))) (svG rfl rfl h5 (d_pickF rfl h8 rfl)) ?_
                    refine wS (v := (eB (decide (o_N < o_M)))) (sv (d_pickT rfl h5 rfl)) ?_
                    refine wS (v := (eB (decide (o_N < o_M)))) (sv (d_assign rfl)) ?_
                    refine OpsW.nil ?_
                    refine Ex.then_mk ?_
                    exact hG3 _ _ _ _ (Ghost.rn [] rfl rfl (FLe.same rfl FLe.nil) HLe.nil rfl) (J3 (decide (o_N < o_M)) hr)
            · replace hr := iteF hr h5
              refine AB.rw ?_
              refine wS (v := (.ptr 0 0)) (sv (d_fa rfl (fap59_0 ..))) ?_
              refine wS (v := (eI .i64 o_Code)) (sv (d_load rfl (ldP rfl (part1 ti3 rfl rfl)))) ?_
              refine wS (v := (eB (o_Code == 11))) (sv (d_bin rfl rfl (bin_eql ..))) ?_
              refine wS (v := (eB (o_Code == 11))) (sv (d_move rfl)) ?_
              refine wS (svX rfl rfl h5) ?_
              refine wS (svX rfl rfl h5) ?_
              refine wS (svX rfl rfl h5) ?_
              refine wS (svX rfl rfl h5) ?_
              refine wS (svU rfl rfl) ?_
              refine wS (svU rfl rfl) ?_
              refine wS (svU rfl rfl) ?_
              refine wS (svX rfl rfl h5) ?_
              refine wS (svX rfl rfl h5) ?_
              refine wS (svU rfl rfl) ?_
              refine wS (svU rfl rfl) ?_
              refine wS (svU rfl rfl) ?_
              refine wS (svX rfl rfl h5) ?_
              refine wS (svX rfl rfl h5) ?_
              refine wS (svU rfl rfl) ?_
              refine wS (svU rfl rfl) ?_
              refine wS (svU rfl rfl) ?_
              refine wS (svU rfl rfl) ?_
              refine wS (svU rfl rfl) ?_
              refine wS (svX rfl rfl h5) ?_
              refine wS (v := (eB false)) (sv (d_pickF rfl h5 rfl)) ?_
              refine wS (v := (eB false)) (sv (d_assign rfl)) ?_
              refine OpsW.nil ?_
              refine Ex.then_mk ?_
              exact hG3 _ _ _ _ (Ghost.rn [] rfl rfl (FLe.same rfl FLe.nil) HLe.nil rfl) (J3 false hr)
      refine AB.seq_g fun K4 hK4 hG4 => ?_
      have J4 : ∀ (x12_1 : Bool), ref08_fault_J4 N o_Code o_Data o_M o_N x12_1 = some r → K4 (mkF 66 [(1, (.ptr 0 0)), (12, (eB x12_1))]) [some ⟨59, [(eI .i64 o_Code), (.row none 1 (o_Data.map (eI .u8))), (eI .i64 o_M), (eI .i64 o_N)]⟩] := by
        intro x12_1 hr
        unfold ref08_fault_J4 at hr
        refine hK4 _ _ ?_
        refine AB.cnd rfl (fun h9 => ?_) (fun h9 => ?_)
        · replace hr := iteT hr h9
          refine AB.skip ?_
          refine Ex.then_mk ?_
          exact hG2 _ _ _ _ (Ghost.rn [0] rfl rfl (FLe.same rfl (FLe.same rfl FLe.nil)) (HLe.live rfl (V.les_refl _ _) rfl HLe.nil) rfl) (J2 x12_1 hr)
        · replace hr := iteF hr h9
          rcases Bool.eq_false_or_eq_true (o_M != 0) with h10 | h10
          · replace hr := iteT hr h10
            refine AB.rw ?_
            refine wS (v := (.ptr 0 2)) (sv (d_fa rfl (fap59_2 ..))) ?_
            refine wS (v := (eI .i64 o_M)) (sv (d_load rfl (ldP rfl (part1 ti3 rfl rfl)))) ?_
            refine wS (v := (eB (o_M != 0))) (sv (d_bin rfl rfl (bin_neq ..))) ?_
            refine wS (v := (eB (o_M != 0))) (sv (d_move rfl)) ?_
            refine wS (svX rfl rfl h10) ?_
            refine wS (svX rfl rfl h10) ?_
            refine wS (svX rfl rfl h10) ?_
            refine wS (v := (eB true)) (sv (d_pickT rfl h10 rfl)) ?_
            refine wS (v := (eB true)) (sv (d_move rfl)) ?_
            refine wS (v := (.ptr 0 0)) (svG rfl rfl rfl (d_fa rfl (fap59_0 ..))) ?_
            refine wS (v := (eI .i64 o_Code)) (svG rfl rfl rfl (d_load rfl (ldP rfl (part1 ti3 rfl rfl)))) ?_
            refine wS (v := (eB (o_Code != 11))) (svG rfl rfl rfl (d_bin rfl rfl (bin_neq ..))) ?_
            refine wS (v := (eB (o_Code != 11))) (sv (d_pickT rfl rfl rfl)) ?_
            refine wS (v := (eB (o_Code != 11))) (sv (d_assign rfl)) ?_
            refine OpsW.nil ?_
            refine Ex.then_mk ?_
            exact hG2 _ _ _ _ (Ghost.rn [0] rfl rfl (FLe.same rfl (FLe.same rfl FLe.nil)) (HLe.live rfl (V.les_refl _ _) rfl HLe.nil) rfl) (J2 (o_Code != 11) hr)
          · replace hr := iteF hr h10
            rcases Bool.eq_false_or_eq_true (o_N != 0) with h11 | h11
            · replace hr := iteT hr h11
              refine AB.rw ?_
              refine wS (v := (.ptr 0 2)) (sv (d_fa rfl (fap59_2 ..))) ?_
              refine wS (v := (eI .i64 o_M)) (sv (d_load rfl (ldP rfl (part1 ti3 rfl rfl)))) ?_
              refine wS (v := (eB (o_M != 0))) (sv (d_bin rfl rfl (bin_neq ..))) ?_
              refine wS (v := (eB (o_M != 0))) (sv (d_move rfl)) ?_
              refine wS (v := (.ptr 0 3)) (svG rfl rfl h10 (d_fa rfl (fap59_3 ..))) ?_
              refine wS (v := (eI .i64 o_N)) (svG rfl rfl h10 (d_load rfl (ldP rfl (part1 ti3 rfl rfl)))) ?_
              refine wS (v := (eB (o_N != 0))) (svG rfl rfl h10 (d_bin rfl rfl (bin_neq ..))) ?_
              refine wS (v := (eB (o_N != 0))) (sv (d_pickF rfl h10 rfl)) ?_
              refine wS (v := (eB (o_N != 0))) (sv (d_move rfl)) ?_
              refine wS (v := (.ptr 0 0)) (svG rfl rfl h11 (d_fa rfl (fap59_0 ..))) ?_
              refine wS (v := (eI .i64 o_Code)) (svG rfl rfl h11 (d_load rfl (ldP rfl (part1 ti3 rfl rfl)))) ?_
              refine wS (v := (eB (o_Code != 11))) (svG rfl rfl h11 (d_bin rfl rfl (bin_neq ..))) ?_
              refine wS (v := (eB (o_Code != 11))) (sv (d_pickT rfl h11 rfl)) ?_
              refine wS (v := (eB (o_Code != 11))) (sv (d_assign rfl)) ?_
              refine OpsW.nil ?_
              refine Ex.then_mk ?_
              exact hG2 _ _ _ _ (Ghost.rn [0] rfl rfl (FLe.same rfl (FLe.same rfl FLe.nil)) (HLe.live rfl (V.les_refl _ _) rfl HLe.nil) rfl) (J2 (o_Code != 11) hr)
            · replace hr := iteF hr h11
              refine AB.rw ?_
              refine wS (v := (.ptr 0 2)) (sv (d_fa rfl (fap59_2 ..))) ?_
              refine wS (v := (eI .i64 o_M)) (sv (d_load rfl (ldP rfl (part1 ti3 rfl rfl)))) ?_
              refine wS (v := (eB (o_M != 0))) (sv (d_bin rfl rfl (bin_neq ..))) ?_
              refine wS (v := (eB (o_M != 0))) (sv (d_move rfl)) ?_
              refine wS (v := (.ptr 0 3)) (svG rfl rfl h10 (d_fa rfl (fap59_3 ..))) ?_
              refine wS (v := (eI .i64 o_N)) (svG rfl rfl h10 (d_load rfl (ldP rfl (part1 ti3 rfl rfl)))) ?_
              refine wS (v := (eB (o_N != 0))) (svG rfl rfl h10 (d_bin rfl rfl (bin_neq ..))) ?_
              refine wS (v := (eB (o_N != 0))) (sv (d_pickF rfl h10 rfl)) ?_
              refine wS (v := (eB (o_N != 0))) (sv (d_move rfl)) ?_
              refine wS (svX rfl rfl h11) ?_
              refine wS (svX rfl rfl h11) ?_
              refine wS (svX rfl rfl h11) ?_
              refine wS (v := (eB false)) (sv (d_pickF rfl h11 rfl)) ?_
              refine wS (v := (eB false)) (sv (d_assign rfl)) ?_
              refine OpsW.nil ?_
              refine Ex.then_mk ?_
              exact hG2 _ _ _ _ (Ghost.rn [0] rfl rfl (FLe.same rfl (FLe.same rfl FLe.nil)) (HLe.live rfl (V.les_refl _ _) rfl HLe.nil) rfl) (J2 false hr)
      rcases Bool.eq_false_or_eq_true (decide (0 < (o_Data.length : Int))) with h12 | h12
      · replace hr := iteT hr h12
        refine AB.rw ?_
        refine wS (v := (.ptr 0 1)) (sv (d_fa rfl (fap59_1 ..))) ?_
        refine wS (v := (.row none 1 (o_Data.map (eI .u8)))) (sv (d_load rfl (ldP rfl (part1 ti22 rfl rfl)))) ?_
        refine wS (v := (eI .i64 (o_Data.length : Int))) (sv (d_len rfl (lenR ti22))) ?_
        refine wS (v := (eB (decide (0 < (o_Data.length : Int))))) (sv (d_bin rfl rfl (bin_gtr ..))) ?_
        refine wS (v := (eB (decide (0 < (o_Data.length : Int))))) (sv (d_move rfl)) ?_
        refine wS (v := (.ptr 0 0)) (svG rfl rfl h12 (d_fa rfl (fap59_0 ..))) ?_
        refine wS (v := (eI .i64 o_Code)) (svG rfl rfl h12 (d_load rfl (ldP rfl (part1 ti3 rfl rfl)))) ?_
        refine wS (v := (eB (o_Code != 1))) (svG rfl rfl h12 (d_bin rfl rfl (bin_neq ..))) ?_
        refine wS (v := (eB (o_Code != 1))) (sv (d_pickT rfl h12 rfl)) ?_
        refine wS (v := (eB (o_Code != 1))) (sv (d_assign rfl)) ?_
        refine OpsW.nil ?_
        refine Ex.then_mk ?_
        exact hG4 _ _ _ _ (Ghost.rn [0] rfl rfl (FLe.same rfl (FLe.same rfl FLe.nil)) (HLe.live rfl (V.les_refl _ _) rfl HLe.nil) rfl) (J4 (o_Code != 1) hr)
      · replace hr := iteF hr h12
        refine AB.rw ?_
        refine wS (v := (.ptr 0 1)) (sv (d_fa rfl (fap59_1 ..))) ?_
        refine wS (v := (.row none 1 (o_Data.map (eI .u8)))) (sv (d_load rfl (ldP rfl (part1 ti22 rfl rfl)))) ?_
        refine wS (v := (eI .i64 (o_Data.length : Int))) (sv (d_len rfl (lenR ti22))) ?_
        refine wS (v := (eB (decide (0 < (o_Data.length : Int))))) (sv (d_bin rfl rfl (bin_gtr ..))) ?_
        refine wS (v := (eB (decide (0 < (o_Data.length : Int))))) (sv (d_move rfl)) ?_
        refine wS (svX rfl rfl h12) ?_
        refine wS (svX rfl rfl h12) ?_
        refine wS (svX rfl rfl h12) ?_
        refine wS (v := (eB false)) (sv (d_pickF rfl h12 rfl)) ?_
        refine wS (v := (eB false)) (sv (d_assign rfl)) ?_
        refine OpsW.nil ?_
        refine Ex.then_mk ?_
        exact hG4 _ _ _ _ (Ghost.rn [0] rfl rfl (FLe.same rfl (FLe.same rfl FLe.nil)) (HLe.live rfl (V.les_refl _ _) rfl HLe.nil) rfl) (J4 false hr)
  rcases Bool.eq_false_or_eq_true (decide (o_Code < 1)) with h13 | h13
  · replace hr := iteT hr h13
    refine AB.rw ?_
    refine wS (v := (.ptr 0 0)) (sv (d_fa rfl (fap59_0 ..))) ?_
    refine wS (v := (eI .i64 o_Code)) (sv (d_load rfl (ldP rfl (part1 ti3 rfl rfl)))) ?_
    refine wS (v := (eB (decide (o_Code < 1)))) (sv (d_bin rfl rfl (bin_lss ..))) ?_
    refine wS (v := (eB (decide (o_Code < 1)))) (sv (d_move rfl)) ?_
    refine wS (svX rfl rfl h13) ?_
    refine wS (svX rfl rfl h13) ?_
    refine wS (svX rfl rfl h13) ?_
    refine wS (v := (eB true)) (sv (d_pickT rfl h13 rfl)) ?_
    refine wS (v := (eB true)) (sv (d_assign rfl)) ?_
    refine OpsW.nil ?_
    refine Ex.then_mk ?_
    exact hG1 _ _ _ _ (Ghost.rn [0] rfl rfl (FLe.same rfl (FLe.same rfl FLe.nil)) (HLe.live rfl (V.les_refl _ _) rfl HLe.nil) rfl) (J1 true hr)
  · replace hr := iteF hr h13
    refine AB.rw ?_
    refine wS (v := (.ptr 0 0)) (sv (d_fa rfl (fap59_0 ..))) ?_
    refine wS (v := (eI .i64 o_Code)) (sv (d_load rfl (ldP rfl (part1 ti3 rfl rfl)))) ?_
    refine wS (v := (eB (decide (o_Code < 1)))) (sv (d_bin rfl rfl (bin_lss ..))) ?_
    refine wS (v := (eB (decide (o_Code < 1)))) (sv (d_move rfl)) ?_
    refine wS (v := (.ptr 0 0)) (svG rfl rfl h13 (d_fa rfl (fap59_0 ..))) ?_
    refine wS (v := (eI .i64 o_Code)) (svG rfl rfl h13 (d_load rfl (ldP rfl (part1 ti3 rfl rfl)))) ?_
    refine wS (v := (eB (decide (17 < o_Code)))) (svG rfl rfl h13 (d_bin rfl rfl (bin_gtr ..))) ?_
    refine wS (v := (eB (decide (17 < o_Code)))) (sv (d_pickF rfl h13 rfl)) ?_
    refine wS (v := (eB (decide (17 < o_Code)))) (sv (d_assign rfl)) ?_
    refine OpsW.nil ?_
    refine Ex.then_mk ?_
    exact hG1 _ _ _ _ (Ghost.rn [0] rfl rfl (FLe.same rfl (FLe.same rfl FLe.nil)) (HLe.live rfl (V.les_refl _ _) rfl HLe.nil) rfl) (J1 (decide (17 < o_Code)) hr)
set_option maxRecDepth 20000 in
set_option maxHeartbeats 1000000 in
theorem ref01_joined_ok (N : Nat) (va : List Int) (b : List Int) (r : (List Int)) (hr : ref01_joined N va b = some r) :
    Vm.Fn Tryd.prog 49 [] [(.row none 1 (va.map (eI .u8))), (.row none 1 (b.map (eI .u8)))] (.sl 0 0 r.length 1 false) [some ⟨5, r.map (eI .u8)⟩] := by
  refine fn_ab Tryd.func49 rfl (by kernel_rfl) Tryd.ntmps49 (Nat.le_of_ble_eq_true rfl) rfl (fr := [(0, (.row none 1 (va.map (eI .u8)))), (1, (.row none 1 (b.map (eI .u8))))]) rfl ?_
  unfold ref01_joined at hr
  refine AB.seq ?_
  refine AB.rw ?_
  refine wS (v := (.row (some true) 1 [])) (sv (d_assign rfl)) ?_
  refine OpsW.nil ?_
  refine Ex.then_mk ?_
  refine AB.seq ?_
  replace hr := bnd hr; obtain ⟨x11, h_1, hr⟩ := hr
  refine AB.rw ?_
  refine wS (v := (.row none 1 (va.map (eI .u8)))) (sv (d_move rfl)) ?_
  refine wS (v := (eI .i64 (va.length : Int))) (sv (d_len rfl (lenR ti22))) ?_
  refine wS (v := (.row none 1 (b.map (eI .u8)))) (sv (d_move rfl)) ?_
  refine wS (v := (eI .i64 (b.length : Int))) (sv (d_len rfl (lenR ti22))) ?_
  refine wS (v := (eI .i64 (IntKind.i64.wrap ((va.length : Int) + (b.length : Int))))) (sv (d_bin rfl rfl (bin_add ..))) ?_
  refine wS (v := (.sl 0 0 0 1 false)) (h' := [some ⟨5, x11.map (eI .u8)⟩]) (sv (d_mk rfl rfl (mkC (E := (eI .u8)) (y := 0) ti22 ti5 ⟨Nat.le_of_ble_eq_true rfl, rfl, rfl⟩ rfl rfl rfl h_1 rfl rfl))) ?_
  refine wS (v := (.sl 0 0 0 1 false)) (sv (d_assign rfl)) ?_
  refine OpsW.nil ?_
  refine Ex.then_mk ?_
  refine AB.seq ?_
  replace hr := bnd hr; obtain ⟨x14, h_2, hr⟩ := hr
  replace hr := bnd hr; obtain ⟨x16, h_3, hr⟩ := hr
  refine AB.rw ?_
  refine wS (v := (.sl 0 0 0 1 false)) (sv (d_move rfl)) ?_
  refine wS (v := (.row none 1 (va.map (eI .u8)))) (sv (d_move rfl)) ?_
  refine wS (v := (.sl 1 0 x14.length 1 false)) (h' := [none, some ⟨5, x14.map (eI .u8)⟩]) (sv (d_append rfl rfl (appP (E := (eI .u8)) (Nat.zero_le _) ti22 ti5 ⟨rfl, rfl, Nat.le_of_ble_eq_true rfl⟩ rfl (srcR (fun _ => rfl)) h_2 rfl rfl))) ?_
  refine wS (v := (.row none 1 (b.map (eI .u8)))) (sv (d_move rfl)) ?_
  refine wS (v := (.sl 2 0 x16.length 1 false)) (h' := [none, none, some ⟨5, x16.map (eI .u8)⟩]) (sv (d_append rfl rfl (appS (E := (eI .u8)) rfl ti22 ti5 ⟨rfl, rfl, Nat.le_of_ble_eq_true rfl⟩ rfl (srcR (fun _ => rfl)) h_3 rfl rfl))) ?_
  refine wS (v := (.sl 2 0 x16.length 1 false)) (sv (d_assign rfl)) ?_
  refine OpsW.nil ?_
  refine Ex.then_mk ?_
  refine AB.ret ?_
  obtain rfl := Option.some.inj hr
  exact done_ret (r1 := (.sl 2 0 x16.length 1 false)) (res1 Tryd.results49 (rvT rfl)) (Ghost.rn [2] rfl rfl (FLe.same rfl FLe.nil) (HLe.live rfl (les_map (fun _ => rfl) _) (all_map (fun _ => rfl) _) HLe.nil) rfl)
set_option maxRecDepth 20000 in
set_option maxHeartbeats 1000000 in
theorem ref01_Join_ok (N : Nat) (l : List (List Int)) (r : (List Int)) (hr : ref01_Join N l = some r) :
    Vm.Fn Tryd.prog 40 [] [(.row none 1 (l.map (eL 1 (eI .u8))))] (.sl 0 0 r.length 1 false) [some ⟨5, r.map (eI .u8)⟩] := by
  refine fn_ab Tryd.func40 rfl (by kernel_rfl) Tryd.ntmps40 (Nat.le_of_ble_eq_true rfl) rfl (fr := [(0, (.row none 1 (l.map (eL 1 (eI .u8)))))]) rfl ?_
  unfold ref01_Join at hr
  refine AB.seq ?_
  refine AB.rw ?_
  refine wS (v := (.row (some true) 1 [])) (sv (d_assign rfl)) ?_
  refine OpsW.nil ?_
  refine Ex.then_mk ?_
  refine AB.seq ?_
  refine AB.rw ?_
  refine wS (v := (.row (some true) 1 [])) (sv (d_assign rfl)) ?_
  refine OpsW.nil ?_
  refine Ex.then_mk ?_
  refine AB.seq_g fun K1 hK1 hG1 => ?_
  have J1 : ∀ (l0 : List Int), ref01_Join_J1 N l0 = some r → K1 (mkF 17 [(3, (.sl 0 0 l0.length 1 false))]) [some ⟨5, l0.map (eI .u8)⟩] := by
    intro l0 hr
    unfold ref01_Join_J1 at hr
    refine hK1 _ _ ?_
    refine AB.seq ?_
    refine AB.rw ?_
    refine wS (v := (.sl 0 0 l0.length 1 false)) (sv (d_move rfl)) ?_
    refine wS (v := (.sl 0 0 l0.length 1 false)) (sv (d_assign rfl)) ?_
    refine OpsW.nil ?_
    refine Ex.then_mk ?_
    refine AB.ret ?_
    obtain rfl := Option.some.inj hr
    exact done_ret (r1 := (.sl 0 0 l0.length 1 false)) (res1 Tryd.results40 (rvT rfl)) (Ghost.rn [0] rfl rfl (FLe.same rfl FLe.nil) (HLe.live rfl (les_map (fun _ => rfl) _) (all_map (fun _ => rfl) _) HLe.nil) rfl)
  refine AB.seq ?_
  refine AB.rw ?_
  refine wS (v := (.row none 1 (l.map (eL 1 (eI .u8))))) (sv (d_move rfl)) ?_
  refine wS (v := (eI .i64 (l.length : Int))) (sv (d_len rfl (lenR ti52))) ?_
  refine wS (v := (eI .i64 0)) (sv (d_move rfl)) ?_
  refine OpsW.nil ?_
  refine Ex.then_mk ?_
  replace hr := bnd hr; obtain ⟨res2, hL2, hr⟩ := hr
  refine AB.block ?_
  refine AB.loopN (fun m s h => ∃ (x8 : Int) (l0_1 : List Int), ref01_Join_L2 N l m x8 l0_1 = some res2 ∧ Ghost 0 s h (mkF 17 [(3, (.sl 0 0 l0_1.length 1 false)), (6, (.row none 1 (l.map (eL 1 (eI .u8))))), (7, (eI .i64 (l.length : Int))), (8, (eI .i64 x8))]) [some ⟨5, l0_1.map (eI .u8)⟩]) (n := N) ⟨0, [], hL2, (Ghost.trans (Ghost.virt (fr' := [(3, (.sl 0 0 0 1 false)), (6, (.row none 1 (l.map (eL 1 (eI .u8))))), (7, (eI .i64 (l.length : Int))), (8, (eI .i64 0))]) (h1 := []) 5 (FLe.le rfl (V.le_virt rfl) (FLe.same rfl (FLe.same rfl (FLe.same rfl FLe.nil)))) HLv.nil) (Ghost.rn [0] rfl rfl (FLe.le rfl (by first | exact V.le_refl _ _ | (simp only [len_set, len_cpy]; exact V.le_refl _ _)) (FLe.same rfl (FLe.same rfl (FLe.same rfl FLe.nil)))) (HLe.live rfl V.les_nil rfl HLe.nil) rfl))⟩ (by rintro s h ⟨_, _, h0, _⟩; simp [ref01_Join_L2] at h0) ?_
  rintro m2 s h ⟨x8, l0_1, hr2, hg⟩
  refine AB.ghost hg ?_
  clear hg hL2
  rw [ref01_Join_L2] at hr2
  refine AB.seq ?_
  refine AB.rw ?_
  refine wS (v := (eB (decide (x8 < (l.length : Int))))) (sv (d_bin rfl rfl (bin_lss ..))) ?_
  refine OpsW.nil ?_
  refine Ex.then_mk ?_
  refine AB.seq ?_
  refine AB.cnd rfl (fun h1 => ?_) (fun h1 => ?_)
  · replace hr2 := iteT hr2 h1
    refine AB.skip ?_
    refine Ex.then_mk ?_
    refine AB.seq ?_
    refine AB.block ?_
    refine AB.seq ?_
    replace hr2 := bnd hr2; obtain ⟨x10, h_2, hr2⟩ := hr2
    refine AB.rw ?_
    refine wS (sv (d_ia rfl rfl (iaR ti52 ti22 h_2))) ?_
    refine wS (v := (.row none 1 (x10.map (eI .u8)))) (sv (d_load rfl (ldR h_2 (part1 ti22 rfl rfl)))) ?_
    refine wS (v := (.row none 1 (x10.map (eI .u8)))) (sv (d_assign rfl)) ?_
    refine OpsW.nil ?_
    refine Ex.then_mk ?_
    replace hr2 := bnd hr2; obtain ⟨x14, h_3, hr2⟩ := hr2
    refine AB.rw ?_
    refine wS (v := (.sl 0 0 l0_1.length 1 false)) (sv (d_move rfl)) ?_
    refine wS (v := (.row none 1 (x10.map (eI .u8)))) (sv (d_move rfl)) ?_
    refine wC (v := (.sl 1 0 x14.length 1 false)) (h' := [some ⟨5, l0_1.map (eI .u8)⟩, some ⟨5, x14.map (eI .u8)⟩]) rfl (Vm.Fn.lendR (ref01_joined_ok N l0_1 x10 x14 h_3) [] [0] (by decide) rfl (by decide) Lend.nil (Brw.row (exp_slT rfl rfl (fun _ => rfl)) (Brw.same rfl Brw.nil)) rfl (rfB.live (rfs_map (fun _ => rfl) _) rfB.nil) rfl (by simp only [lent, lendSet, lendSet_nil, rnH, Blk.rn, V.rns, V.rn, sg, List.map_cons, List.map_nil, Option.map_some, Option.map_none, List.drop_succ_cons, List.drop_zero, List.drop_nil, List.set_cons_zero, List.set_cons_succ, List.cons_append, List.nil_append, List.append_nil, rns_eI, rns_eB, rns_eS, rns_eL, rns_C_api_Op, List.getElem?_cons_zero, List.getElem?_cons_succ, List.getElem?_nil, List.length_cons, List.length_nil, Nat.reduceAdd, Nat.reduceSub, Nat.add_zero, Nat.zero_add, Nat.sub_self, Nat.sub_zero])) ?_
    refine wS (v := (.sl 1 0 x14.length 1 false)) (sv (d_assign rfl)) ?_
    refine OpsW.nil ?_
    refine Ex.inBlock_mk ?_
    refine Ex.then_mk ?_
    refine AB.rw ?_
    refine wS (v := (eI .i64 (IntKind.i64.wrap (x8 + 1)))) (sv (d_bin rfl rfl (bin_add ..))) ?_
    refine wS (v := (eI .i64 (IntKind.i64.wrap (x8 + 1)))) (sv (d_move rfl)) ?_
    refine OpsW.nil ?_
    refine Ex.then_mk ?_
    exact ⟨IntKind.i64.wrap (x8 + 1), x14, hr2, (Ghost.rn [1] rfl rfl (FLe.same rfl (FLe.same rfl (FLe.same rfl (FLe.same rfl FLe.nil)))) (HLe.live rfl (les_map (fun _ => rfl) _) (all_map (fun _ => rfl) _) HLe.nil) rfl)⟩
  · replace hr2 := iteF hr2 h1
    refine AB.exit ?_
    refine Ex.then_exit_mk ?_
    refine Ex.then_exit_mk ?_
    refine Ex.inBlock_same_mk ?_
    obtain rfl := Option.some.inj hr2
    refine Ex.then_mk ?_
    exact hG1 _ _ _ _ (Ghost.rn [0] rfl rfl (FLe.same rfl FLe.nil) (HLe.live rfl (les_map (fun _ => rfl) _) (all_map (fun _ => rfl) _) HLe.nil) rfl) (J1 l0_1 hr)
set_option maxRecDepth 20000 in
set_option maxHeartbeats 1000000 in
theorem ref08_encode_ok (N : Nat) (o_Code : Int) (o_Data : List Int) (o_M : Int) (o_N : Int) (r : (List Int)) (hr : ref08_encode N o_Code o_Data o_M o_N = some r) :
    Vm.Fn Tryd.prog 34 [] [(.agg [(eI .i64 o_Code), (.row none 1 (o_Data.map (eI .u8))), (eI .i64 o_M), (eI .i64 o_N)])] (.sl 0 0 r.length 1 false) [some ⟨5, r.map (eI .u8)⟩] := by
  refine fn_ab Tryd.func34 rfl (by kernel_rfl) Tryd.ntmps34 (Nat.le_of_ble_eq_true rfl) rfl (fr := [(0, (.agg [(eI .i64 o_Code), (.row none 1 (o_Data.map (eI .u8))), (eI .i64 o_M), (eI .i64 o_N)]))]) rfl ?_
  unfold ref08_encode at hr
  refine AB.seq ?_
  refine AB.rw ?_
  refine wS (v := (.ptr 0 0)) (h' := [some ⟨59, [(eI .i64 o_Code), (.row none 1 (o_Data.map (eI .u8))), (eI .i64 o_M), (eI .i64 o_N)]⟩]) (sv (d_box rfl rfl rfl rfl)) ?_
  refine wS (v := (.row (some true) 1 [])) (sv (d_assign rfl)) ?_
  refine OpsW.nil ?_
  refine Ex.then_mk ?_
  refine AB.seq ?_
  refine AB.seq ?_
  refine AB.rw ?_
  refine wS (v := (.ptr 0 0)) (sv (d_fa rfl (fap59_0 ..))) ?_
  refine wS (v := (eI .i64 o_Code)) (sv (d_load rfl (ldP rfl (part1 ti3 rfl rfl)))) ?_
  refine OpsW.nil ?_
  refine Ex.then_mk ?_
  refine AB.block ?_
  refine AB.seq ?_
  refine AB.rw ?_
  refine wS (v := (eB (o_Code == 1))) (sv (d_bin rfl rfl (bin_eql ..))) ?_
  refine wS (v := (eB (o_Code == 1))) (sv (d_assign rfl)) ?_
  refine OpsW.nil ?_
  refine Ex.then_mk ?_
  refine AB.cnd rfl (fun h1 => ?_) (fun h1 => ?_)
  · replace hr := iteT hr h1
    refine AB.seq ?_
    replace hr := bnd hr; obtain ⟨x15, h_2, hr⟩ := hr
    refine AB.rw ?_
    refine wS (v := (.ptr 0 1)) (sv (d_fa rfl (fap59_1 ..))) ?_
    refine wS (v := (.row none 1 (o_Data.map (eI .u8)))) (sv (d_load rfl (ldP rfl (part1 ti22 rfl rfl)))) ?_
    refine wS (v := (eI .i64 (o_Data.length : Int))) (sv (d_len rfl (lenR ti22))) ?_
    refine wS (v := (eI .u8 (IntKind.u8.wrap (o_Data.length : Int)))) (sv (d_conv rfl (conv_int _ ⟨_, ti3⟩ ti5 rfl))) ?_
    refine wS (v := (.sl 1 0 2 1 false)) (h' := [some ⟨59, [(eI .i64 o_Code), (.row none 1 (o_Data.map (eI .u8))), (eI .i64 o_M), (eI .i64 o_N)]⟩, some ⟨5, [1, IntKind.u8.wrap (o_Data.length : Int)].map (eI .u8)⟩]) (sv (d_buildS rfl (bldL1 (xs := [1, IntKind.u8.wrap (o_Data.length : Int)].map (eI .u8)) ti22 ti5 (Nat.le_of_ble_eq_true rfl) (Nat.le_of_ble_eq_true rfl) rfl rfl rfl rfl rfl rfl rfl))) ?_
    refine wS (v := (.ptr 0 1)) (sv (d_fa rfl (fap59_1 ..))) ?_
    refine wS (v := (.row none 1 (o_Data.map (eI .u8)))) (sv (d_load rfl (ldP rfl (part1 ti22 rfl rfl)))) ?_
    refine OpsW.ghost (Ghost.conv (fr' := [(0, (.agg [(eI .i64 o_Code), (.row none 1 (o_Data.map (eI .u8))), (eI .i64 o_M), (eI .i64 o_N)])), (1, (.ptr 0 0)), (2, (.row (some true) 1 [])), (3, (.ptr 0 0)), (4, (eI .i64 o_Code)), (5, (eB (o_Code == 1))), (6, (eB (o_Code == 1))), (7, (.ptr 0 1)), (8, (.row none 1 (o_Data.map (eI .u8)))), (9, (eI .i64 (o_Data.length : Int))), (10, (eI .u8 (IntKind.u8.wrap (o_Data.length : Int)))), (11, (.row none 1 ([1, IntKind.u8.wrap (o_Data.length : Int)].map (eI .u8)))), (12, (.ptr 0 1)), (13, (.row none 1 (o_Data.map (eI .u8))))]) (h' := [some ⟨59, [(eI .i64 o_Code), (.row none 1 (o_Data.map (eI .u8))), (eI .i64 o_M), (eI .i64 o_N)]⟩, none]) (FCv.cons rfl (Conv.same (subB_sub rfl)) (FCv.cons rfl (Conv.same (subB_sub rfl)) (FCv.cons rfl (Conv.same (subB_sub rfl)) (FCv.cons rfl (Conv.same (subB_sub rfl)) (FCv.cons rfl (Conv.same (subB_sub rfl)) (FCv.cons rfl (Conv.same (subB_sub rfl)) (FCv.cons rfl (Conv.same (subB_sub rfl)) (FCv.cons rfl (Conv.same (subB_sub rfl)) (FCv.cons rfl (Conv.same (subB_sub rfl)) (FCv.cons rfl (Conv.same (subB_sub rfl)) (FCv.cons rfl (Conv.same (subB_sub rfl)) (FCv.cons rfl (Conv.row (subB_sub rfl) rfl rfl (all_mapE (fun _ => rfl)) (by first | rfl | (simp only [List.length_map, len_set, len_cpy]; done) | (rw [List.length_map]; exact Eq.symm rfl))) (FCv.cons rfl (Conv.same (subB_sub rfl)) (FCv.cons rfl (Conv.same (subB_sub rfl)) FCv.nil)))))))))))))) (HCv.live (Convs.same (subB_sub rfl)) rfl (HCv.dead HCv.nil))) ?_
    refine wS (v := (.sl 2 0 2 1 false)) (h' := [some ⟨59, [(eI .i64 o_Code), (.row none 1 (o_Data.map (eI .u8))), (eI .i64 o_M), (eI .i64 o_N)]⟩, none, some ⟨22, [[1, IntKind.u8.wrap (o_Data.length : Int)], o_Data].map (eL 1 (eI .u8))⟩]) (sv (d_buildS rfl (bldL1 (xs := [[1, IntKind.u8.wrap (o_Data.length : Int)], o_Data].map (eL 1 (eI .u8))) ti52 ti22 (Nat.le_of_ble_eq_true rfl) (Nat.le_of_ble_eq_true rfl) rfl rfl rfl rfl rfl rfl rfl))) ?_
    refine wC (v := (.sl 3 0 x15.length 1 false)) (h' := [some ⟨59, [(eI .i64 o_Code), (.row none 1 (o_Data.map (eI .u8))), (eI .i64 o_M), (eI .i64 o_N)]⟩, none, some ⟨22, [[1, IntKind.u8.wrap (o_Data.length : Int)], o_Data].map (eL 1 (eI .u8))⟩, some ⟨5, x15.map (eI .u8)⟩]) rfl (Vm.Fn.lendR (ref01_Join_ok N [[1, IntKind.u8.wrap (o_Data.length : Int)], o_Data] x15 h_2) [] [2] (by decide) rfl (by decide) Lend.nil (Brw.row (exp_slT rfl rfl (fun _ => rfl)) Brw.nil) rfl (rfB.live (rfs_map (fun _ => rfl) _) rfB.nil) rfl (by simp only [lent, lendSet, lendSet_nil, rnH, Blk.rn, V.rns, V.rn, sg, List.map_cons, List.map_nil, Option.map_some, Option.map_none, List.drop_succ_cons, List.drop_zero, List.drop_nil, List.set_cons_zero, List.set_cons_succ, List.cons_append, List.nil_append, List.append_nil, rns_eI, rns_eB, rns_eS, rns_eL, rns_C_api_Op, List.getElem?_cons_zero, List.getElem?_cons_succ, List.getElem?_nil, List.length_cons, List.length_nil, Nat.reduceAdd, Nat.reduceSub, Nat.add_zero, Nat.zero_add, Nat.sub_self, Nat.sub_zero])) ?_
    refine wS (v := (.sl 3 0 x15.length 1 false)) (sv (d_assign rfl)) ?_
    refine OpsW.nil ?_
    refine Ex.then_mk ?_
    refine AB.ret ?_
    refine Ex.inBlock_ret_mk ?_
    refine Ex.then_ret_mk ?_
    obtain rfl := Option.some.inj hr
    exact done_ret (r1 := (.sl 3 0 x15.length 1 false)) (res1 Tryd.results34 (rvT rfl)) (Ghost.rn [3] rfl rfl (FLe.same rfl FLe.nil) (HLe.live rfl (les_map (fun _ => rfl) _) (all_map (fun _ => rfl) _) HLe.nil) rfl)
  · replace hr := iteF hr h1
    refine AB.seq ?_
    refine AB.rw ?_
    refine wS (v := (eB (o_Code == 11))) (sv (d_bin rfl rfl (bin_eql ..))) ?_
    refine wS (v := (eB (o_Code == 11))) (sv (d_assign rfl)) ?_
    refine OpsW.nil ?_
    refine Ex.then_mk ?_
    refine AB.cnd rfl (fun h3 => ?_) (fun h3 => ?_)
    · replace hr := iteT hr h3
      refine AB.seq ?_
      refine AB.rw ?_
      refine wS (v := (.ptr 0 2)) (sv (d_fa rfl (fap59_2 ..))) ?_
      refine wS (v := (eI .i64 o_M)) (sv (d_load rfl (ldP rfl (part1 ti3 rfl rfl)))) ?_
      refine wS (v := (eI .u8 (IntKind.u8.wrap o_M))) (sv (d_conv rfl (conv_int _ ⟨_, ti3⟩ ti5 rfl))) ?_
      refine wS (v := (.ptr 0 3)) (sv (d_fa rfl (fap59_3 ..))) ?_
      refine wS (v := (eI .i64 o_N)) (sv (d_load rfl (ldP rfl (part1 ti3 rfl rfl)))) ?_
      refine wS (v := (eI .u8 (IntKind.u8.wrap o_N))) (sv (d_conv rfl (conv_int _ ⟨_, ti3⟩ ti5 rfl))) ?_
      refine wS (v := (.sl 1 0 3 1 false)) (h' := [some ⟨59, [(eI .i64 o_Code), (.row none 1 (o_Data.map (eI .u8))), (eI .i64 o_M), (eI .i64 o_N)]⟩, some ⟨5, [11, IntKind.u8.wrap o_M, IntKind.u8.wrap o_N].map (eI .u8)⟩]) (sv (d_buildS rfl (bldL1 (xs := [11, IntKind.u8.wrap o_M, IntKind.u8.wrap o_N].map (eI .u8)) ti22 ti5 (Nat.le_of_ble_eq_true rfl) (Nat.le_of_ble_eq_true rfl) rfl rfl rfl rfl rfl rfl rfl))) ?_
      refine wS (v := (.sl 1 0 3 1 false)) (sv (d_assign rfl)) ?_
      refine OpsW.nil ?_
      refine Ex.then_mk ?_
      refine AB.ret ?_
      refine Ex.inBlock_ret_mk ?_
      refine Ex.then_ret_mk ?_
      obtain rfl := Option.some.inj hr
      exact done_ret (r1 := (.sl 1 0 3 1 false)) (res1 Tryd.results34 (rvT rfl)) (Ghost.rn [1] rfl rfl (FLe.le rfl (by first | exact V.le_refl _ _ | (simp only [len_set, len_cpy]; exact V.le_refl _ _)) FLe.nil) (HLe.live rfl (les_map (fun _ => rfl) _) (all_map (fun _ => rfl) _) HLe.nil) rfl)
    · replace hr := iteF hr h3
      refine AB.skip ?_
      refine Ex.inBlock_mk ?_
      refine Ex.then_mk ?_
      refine AB.seq ?_
      refine AB.rw ?_
      refine wS (v := (.ptr 0 0)) (sv (d_fa rfl (fap59_0 ..))) ?_
      refine wS (v := (eI .i64 o_Code)) (sv (d_load rfl (ldP rfl (part1 ti3 rfl rfl)))) ?_
      refine wS (v := (eI .u8 (IntKind.u8.wrap o_Code))) (sv (d_conv rfl (conv_int _ ⟨_, ti3⟩ ti5 rfl))) ?_
      refine wS (v := (.sl 1 0 1 1 false)) (h' := [some ⟨59, [(eI .i64 o_Code), (.row none 1 (o_Data.map (eI .u8))), (eI .i64 o_M), (eI .i64 o_N)]⟩, some ⟨5, [IntKind.u8.wrap o_Code].map (eI .u8)⟩]) (sv (d_buildS rfl (bldL1 (xs := [IntKind.u8.wrap o_Code].map (eI .u8)) ti22 ti5 (Nat.le_of_ble_eq_true rfl) (Nat.le_of_ble_eq_true rfl) rfl rfl rfl rfl rfl rfl rfl))) ?_
      refine wS (v := (.sl 1 0 1 1 false)) (sv (d_assign rfl)) ?_
      refine OpsW.nil ?_
      refine Ex.then_mk ?_
      refine AB.ret ?_
      obtain rfl := Option.some.inj hr
      exact done_ret (r1 := (.sl 1 0 1 1 false)) (res1 Tryd.results34 (rvT rfl)) (Ghost.rn [1] rfl rfl (FLe.le rfl (by first | exact V.le_refl _ _ | (simp only [len_set, len_cpy]; exact V.le_refl _ _)) FLe.nil) (HLe.live rfl (les_map (fun _ => rfl) _) (all_map (fun _ => rfl) _) HLe.nil) rfl)
set_option maxRecDepth 20000 in
set_option maxHeartbeats 1000000 in
theorem ref08_Assemble_ok (N : Nat) (l : List S_api_Op) (r : (List Int) × Int) (hr : ref08_Assemble N l = some r) :
    Vm.Fn Tryd.prog 15 [] [(.row none 4 (l.map E_api_Op))] (.tup [(.sl 0 0 r.1.length 1 false), (eI .i64 r.2)]) [some ⟨5, r.1.map (eI .u8)⟩] := by
  refine fn_ab Tryd.func15 rfl (by kernel_rfl) Tryd.ntmps15 (Nat.le_of_ble_eq_true rfl) rfl (fr := [(0, (.row none 4 (l.map E_api_Op)))]) rfl ?_
  unfold ref08_Assemble at hr
  refine AB.seq ?_
  refine AB.rw ?_
  refine wS (v := (.row (some true) 1 [])) (sv (d_assign rfl)) ?_
  refine wS (v := (eI .i64 0)) (sv (d_assign rfl)) ?_
  refine OpsW.nil ?_
  refine Ex.then_mk ?_
  refine AB.seq_g fun K1 hK1 hG1 => ?_
  have J1 : ref08_Assemble_J1 N l = some r → K1 (mkF 37 [(0, (.row none 4 (l.map E_api_Op)))]) [] := by
    intro hr
    unfold ref08_Assemble_J1 at hr
    refine hK1 _ _ ?_
    refine AB.seq ?_
    refine AB.rw ?_
    refine wS (v := (.row (some true) 1 [])) (sv (d_assign rfl)) ?_
    refine OpsW.nil ?_
    refine Ex.then_mk ?_
    refine AB.seq_g fun K2 hK2 hG2 => ?_
    have J2 : ∀ (l0 : List Int), ref08_Assemble_J2 N l0 = some r → K2 (mkF 37 [(7, (.sl 0 0 l0.length 1 false))]) [some ⟨5, l0.map (eI .u8)⟩] := by
      intro l0 hr
      unfold ref08_Assemble_J2 at hr
      refine hK2 _ _ ?_
      refine AB.seq ?_
      refine AB.rw ?_
      refine wS (v := (.sl 0 0 l0.length 1 false)) (sv (d_move rfl)) ?_
      refine wS (v := (.sl 0 0 l0.length 1 false)) (sv (d_assign rfl)) ?_
      refine wS (v := (eI .i64 0)) (sv (d_assign rfl)) ?_
      refine OpsW.nil ?_
      refine Ex.then_mk ?_
      refine AB.ret ?_
      obtain rfl := Option.some.inj hr
      exact done_ret (r1 := (.tup [(.sl 0 0 l0.length 1 false), (eI .i64 0)])) (res2 Tryd.results15 (rvT rfl) (rvT rfl)) (Ghost.rn [0] rfl rfl (FLe.same rfl FLe.nil) (HLe.live rfl (les_map (fun _ => rfl) _) (all_map (fun _ => rfl) _) HLe.nil) rfl)
    refine AB.seq ?_
    refine AB.rw ?_
    refine wS (v := (.row none 4 (l.map E_api_Op))) (sv (d_move rfl)) ?_
    refine wS (v := (eI .i64 (l.length : Int))) (sv (d_len rfl (lenR ti31))) ?_
    refine wS (v := (eI .i64 0)) (sv (d_move rfl)) ?_
    refine OpsW.nil ?_
    refine Ex.then_mk ?_
    replace hr := bnd hr; obtain ⟨res3, hL3, hr⟩ := hr
    refine AB.block ?_
    refine AB.loopN (fun m s h => ∃ (x24 : Int) (l0_1 : List Int), ref08_Assemble_L3 N l m x24 l0_1 = some res3 ∧ Ghost 0 s h (mkF 37 [(7, (.sl 0 0 l0_1.length 1 false)), (22, (.row none 4 (l.map E_api_Op))), (23, (eI .i64 (l.length : Int))), (24, (eI .i64 x24))]) [some ⟨5, l0_1.map (eI .u8)⟩]) (n := N) ⟨0, [], hL3, (Ghost.trans (Ghost.virt (fr' := [(7, (.sl 0 0 0 1 false)), (22, (.row none 4 (l.map E_api_Op))), (23, (eI .i64 (l.length : Int))), (24, (eI .i64 0))]) (h1 := []) 5 (FLe.le rfl (V.le_virt rfl) (FLe.same rfl (FLe.same rfl (FLe.same rfl FLe.nil)))) HLv.nil) (Ghost.rn [0] rfl rfl (FLe.le rfl (by first | exact V.le_refl _ _ | (simp only [len_set, len_cpy]; exact V.le_refl _ _)) (FLe.same rfl (FLe.same rfl (FLe.same rfl FLe.nil)))) (HLe.live rfl V.les_nil rfl HLe.nil) rfl))⟩ (by rintro s h ⟨_, _, h0, _⟩; simp [ref08_Assemble_L3] at h0) ?_
    rintro m3 s h ⟨x24, l0_1, hr3, hg⟩
    refine AB.ghost hg ?_
    clear hg hL3
    rw [ref08_Assemble_L3] at hr3
    refine AB.seq ?_
    refine AB.rw ?_
    refine wS (v := (eB (decide (x24 < (l.length : Int))))) (sv (d_bin rfl rfl (bin_lss ..))) ?_
    refine OpsW.nil ?_
    refine Ex.then_mk ?_
    refine AB.seq ?_
    refine AB.cnd rfl (fun h1 => ?_) (fun h1 => ?_)
    · replace hr3 := iteT hr3 h1
      refine AB.skip ?_
      refine Ex.then_mk ?_
      refine AB.seq ?_
      refine AB.block ?_
      refine AB.seq ?_
      replace hr3 := bnd hr3; obtain ⟨x26, h_2, hr3⟩ := hr3
      refine AB.rw ?_
      refine wS (sv (d_ia rfl rfl (iaR ti31 ti59 h_2))) ?_
      refine wS (v := (.agg [(eI .i64 x26.Code), (.row none 1 (x26.Data.map (eI .u8))), (eI .i64 x26.M), (eI .i64 x26.N)])) (sv (d_load rfl (ldR h_2 (partN (ds := [(eI .i64 x26.Code), (.row none 1 (x26.Data.map (eI .u8))), (eI .i64 x26.M), (eI .i64 x26.N)]) ti59 rfl (Nat.le_of_ble_eq_true rfl) rfl)))) ?_
      refine wS (v := (.ptr 1 0)) (h' := [some ⟨5, l0_1.map (eI .u8)⟩, some ⟨59, [(eI .i64 0), (.row (some true) 1 []), (eI .i64 0), (eI .i64 0)]⟩]) (sv (d_alloc ti59 rfl rfl rfl)) ?_
      refine wN (h' := [some ⟨5, l0_1.map (eI .u8)⟩, some ⟨59, [(eI .i64 x26.Code), (.row none 1 (x26.Data.map (eI .u8))), (eI .i64 x26.M), (eI .i64 x26.N)]⟩]) (sv (d_store rfl rfl (stP ti59 rfl rfl rfl (Nat.le_of_ble_eq_true rfl) rfl))) ?_
      refine OpsW.nil ?_
      refine Ex.then_mk ?_
      refine AB.seq ?_
      replace hr3 := bnd hr3; obtain ⟨x30, h_3, hr3⟩ := hr3
      replace hr3 := bnd hr3; obtain ⟨x31, h_4, hr3⟩ := hr3
      refine AB.rw ?_
      refine wS (v := (.sl 0 0 l0_1.length 1 false)) (sv (d_move rfl)) ?_
      refine wS (v := (.agg [(eI .i64 x26.Code), (.row none 1 (x26.Data.map (eI .u8))), (eI .i64 x26.M), (eI .i64 x26.N)])) (sv (d_load rfl (ldP rfl (partN (ds := [(eI .i64 x26.Code), (.row none 1 (x26.Data.map (eI .u8))), (eI .i64 x26.M), (eI .i64 x26.N)]) ti59 rfl (Nat.le_of_ble_eq_true rfl) rfl)))) ?_
      refine wC (v := (.sl 2 0 x30.length 1 false)) (h' := [some ⟨5, l0_1.map (eI .u8)⟩, some ⟨59, [(eI .i64 x26.Code), (.row none 1 (x26.Data.map (eI .u8))), (eI .i64 x26.M), (eI .i64 x26.N)]⟩, some ⟨5, x30.map (eI .u8)⟩]) rfl (Vm.Fn.lendB (ref08_encode_ok N x26.Code x26.Data x26.M x26.N x30 h_3) [] (by decide) rfl Lend.nil rfl rfl (by simp only [lent, lendSet, lendSet_nil, rnH, Blk.rn, V.rns, V.rn, sg, List.map_cons, List.map_nil, Option.map_some, Option.map_none, List.drop_succ_cons, List.drop_zero, List.drop_nil, List.set_cons_zero, List.set_cons_succ, List.cons_append, List.nil_append, List.append_nil, rns_eI, rns_eB, rns_eS, rns_eL, rns_C_api_Op, List.getElem?_cons_zero, List.getElem?_cons_succ, List.getElem?_nil, List.length_cons, List.length_nil, Nat.reduceAdd, Nat.reduceSub, Nat.add_zero, Nat.zero_add, Nat.sub_self, Nat.sub_zero])) ?_
      refine wS (v := (.sl 3 0 x31.length 1 false)) (h' := [none, some ⟨59, [(eI .i64 x26.Code), (.row none 1 (x26.Data.map (eI .u8))), (eI .i64 x26.M), (eI .i64 x26.N)]⟩, some ⟨5, x30.map (eI .u8)⟩, some ⟨5, x31.map (eI .u8)⟩]) (sv (d_append rfl rfl (appS (E := (eI .u8)) rfl ti22 ti5 ⟨rfl, rfl, Nat.le_of_ble_eq_true rfl⟩ rfl (srcS rfl rfl) h_4 rfl rfl))) ?_
      refine wS (v := (.sl 3 0 x31.length 1 false)) (sv (d_assign rfl)) ?_
      refine OpsW.nil ?_
      refine Ex.then_mk ?_
      refine AB.seq ?_
      refine AB.rw ?_
      refine wS (v := (.sl 3 0 x31.length 1 false)) (sv (d_move rfl)) ?_
      refine wS (v := (eI .i64 (x31.length : Int))) (sv (d_len rfl (lenS ti22))) ?_
      refine wS (v := (eB (decide (520 < (x31.length : Int))))) (sv (d_bin rfl rfl (bin_gtr ..))) ?_
      refine OpsW.nil ?_
      refine Ex.then_mk ?_
      refine AB.cnd rfl (fun h5 => ?_) (fun h5 => ?_)
      · replace hr3 := iteT hr3 h5
        refine AB.seq ?_
        refine AB.rw ?_
        refine wS (v := (.row (some true) 1 [])) (sv (d_assign rfl)) ?_
        refine wS (v := (eI .i64 4)) (sv (d_assign rfl)) ?_
        refine OpsW.nil ?_
        refine Ex.then_mk ?_
        refine AB.ret ?_
        refine Ex.inBlock_ret_mk ?_
        refine Ex.then_ret_mk ?_
        refine Ex.then_ret_mk ?_
        refine Ex.inBlock_ret_mk ?_
        refine Ex.then_ret_mk ?_
        obtain rfl := Option.some.inj hr3
        obtain rfl := Option.some.inj hr
        exact done_ret (r1 := (.tup [(.row (some true) 1 []), (eI .i64 4)])) (res2 Tryd.results15 (rvT rfl) (rvT rfl)) (Ghost.trans (Ghost.virt (fr' := [(0, (.tup [(.sl 4 0 0 1 false), (eI .i64 4)]))]) (h1 := [none, some ⟨59, [(eI .i64 x26.Code), (.row none 1 (x26.Data.map (eI .u8))), (eI .i64 x26.M), (eI .i64 x26.N)]⟩, some ⟨5, x30.map (eI .u8)⟩, some ⟨5, x31.map (eI .u8)⟩]) 5 (FLe.le rfl (V.le_tup (V.les_cons (V.le_virt rfl) (V.les_cons (V.le_refl _ _) V.les_nil))) FLe.nil) (HLv.dead (HLv.live (V.les_refl _ _) rfl (HLv.live (V.les_refl _ _) (all_map (fun _ => rfl) _) (HLv.live (V.les_refl _ _) (all_map (fun _ => rfl) _) HLv.nil))))) (Ghost.rn [4] rfl rfl (FLe.le rfl (V.le_tup (V.les_cons (by first | exact V.le_refl _ _ | (simp only [len_set, len_cpy]; exact V.le_refl _ _)) (V.les_cons (V.le_refl _ _) V.les_nil))) FLe.nil) (HLe.live rfl V.les_nil rfl HLe.nil) rfl))
      · replace hr3 := iteF hr3 h5
        refine AB.skip ?_
        refine Ex.inBlock_mk ?_
        refine Ex.then_mk ?_
        refine AB.rw ?_
        refine wS (v := (eI .i64 (IntKind.i64.wrap (x24 + 1)))) (sv (d_bin rfl rfl (bin_add ..))) ?_
        refine wS (v := (eI .i64 (IntKind.i64.wrap (x24 + 1)))) (sv (d_move rfl)) ?_
        refine OpsW.nil ?_
        refine Ex.then_mk ?_
        exact ⟨IntKind.i64.wrap (x24 + 1), x31, hr3, (Ghost.rn [3] rfl rfl (FLe.same rfl (FLe.same rfl (FLe.same rfl (FLe.same rfl FLe.nil)))) (HLe.live rfl (les_map (fun _ => rfl) _) (all_map (fun _ => rfl) _) HLe.nil) rfl)⟩
    · replace hr3 := iteF hr3 h1
      refine AB.exit ?_
      refine Ex.then_exit_mk ?_
      refine Ex.then_exit_mk ?_
      refine Ex.inBlock_same_mk ?_
      obtain rfl := Option.some.inj hr3
      refine Ex.then_mk ?_
      exact hG2 _ _ _ _ (Ghost.rn [0] rfl rfl (FLe.same rfl FLe.nil) (HLe.live rfl (les_map (fun _ => rfl) _) (all_map (fun _ => rfl) _) HLe.nil) rfl) (J2 l0_1 hr)
  refine AB.seq ?_
  refine AB.rw ?_
  refine wS (v := (.row none 4 (l.map E_api_Op))) (sv (d_move rfl)) ?_
  refine wS (v := (eI .i64 (l.length : Int))) (sv (d_len rfl (lenR ti31))) ?_
  refine wS (v := (eI .i64 0)) (sv (d_move rfl)) ?_
  refine OpsW.nil ?_
  refine Ex.then_mk ?_
  replace hr := bnd hr; obtain ⟨res4, hL4, hr⟩ := hr
  refine AB.block ?_
  refine AB.loopN (fun m s h => ∃ (x12 : Int), ref08_Assemble_L4 N l m x12 = some res4 ∧ Ghost 0 s h (mkF 37 [(0, (.row none 4 (l.map E_api_Op))), (10, (.row none 4 (l.map E_api_Op))), (11, (eI .i64 (l.length : Int))), (12, (eI .i64 x12))]) []) (n := N) ⟨0, hL4, (Ghost.rn [] rfl rfl (FLe.same rfl (FLe.same rfl (FLe.same rfl (FLe.same rfl FLe.nil)))) HLe.nil rfl)⟩ (by rintro s h ⟨_, h0, _⟩; simp [ref08_Assemble_L4] at h0) ?_
  rintro m4 s h ⟨x12, hr4, hg⟩
  refine AB.ghost hg ?_
  clear hg hL4
  rw [ref08_Assemble_L4] at hr4
  refine AB.seq ?_
  refine AB.rw ?_
  refine wS (v := (eB (decide (x12 < (l.length : Int))))) (sv (d_bin rfl rfl (bin_lss ..))) ?_
  refine OpsW.nil ?_
  refine Ex.then_mk ?_
  refine AB.seq ?_
  refine AB.cnd rfl (fun h6 => ?_) (fun h6 => ?_)
  · replace hr4 := iteT hr4 h6
    refine AB.skip ?_
    refine Ex.then_mk ?_
    refine AB.seq ?_
    refine AB.block ?_
    refine AB.seq ?_
    replace hr4 := bnd hr4; obtain ⟨x14, h_7, hr4⟩ := hr4
    refine AB.rw ?_
    refine wS (sv (d_ia rfl rfl (iaR ti31 ti59 h_7))) ?_
    refine wS (v := (.agg [(eI .i64 x14.Code), (.row none 1 (x14.Data.map (eI .u8))), (eI .i64 x14.M), (eI .i64 x14.N)])) (sv (d_load rfl (ldR h_7 (partN (ds := [(eI .i64 x14.Code), (.row none 1 (x14.Data.map (eI .u8))), (eI .i64 x14.M), (eI .i64 x14.N)]) ti59 rfl (Nat.le_of_ble_eq_true rfl) rfl)))) ?_
    refine wS (v := (.ptr 0 0)) (h' := [some ⟨59, [(eI .i64 0), (.row (some true) 1 []), (eI .i64 0), (eI .i64 0)]⟩]) (sv (d_alloc ti59 rfl rfl rfl)) ?_
    refine wN (h' := [some ⟨59, [(eI .i64 x14.Code), (.row none 1 (x14.Data.map (eI .u8))), (eI .i64 x14.M), (eI .i64 x14.N)]⟩]) (sv (d_store rfl rfl (stP ti59 rfl rfl rfl (Nat.le_of_ble_eq_true rfl) rfl))) ?_
    refine OpsW.nil ?_
    refine Ex.then_mk ?_
    refine AB.seq ?_
    replace hr4 := bnd hr4; obtain ⟨x17, h_8, hr4⟩ := hr4
    refine AB.rw ?_
    refine wS (v := (.agg [(eI .i64 x14.Code), (.row none 1 (x14.Data.map (eI .u8))), (eI .i64 x14.M), (eI .i64 x14.N)])) (sv (d_load rfl (ldP rfl (partN (ds := [(eI .i64 x14.Code), (.row none 1 (x14.Data.map (eI .u8))), (eI .i64 x14.M), (eI .i64 x14.N)]) ti59 rfl (Nat.le_of_ble_eq_true rfl) rfl)))) ?_
    refine wC (v := (eI .i64 x17)) (h' := [some ⟨59, [(eI .i64 x14.Code), (.row none 1 (x14.Data.map (eI .u8))), (eI .i64 x14.M), (eI .i64 x14.N)]⟩]) rfl (Vm.Fn.pure (ref08_fault_ok N x14.Code x14.Data x14.M x14.N x17 h_8) rfl rfl) ?_
    refine wS (v := (eI .i64 x17)) (sv (d_assign rfl)) ?_
    refine OpsW.nil ?_
    refine Ex.then_mk ?_
    refine AB.seq ?_
    refine AB.rw ?_
    refine wS (v := (eI .i64 x17)) (sv (d_move rfl)) ?_
    refine wS (v := (eB (x17 != 0))) (sv (d_bin rfl rfl (bin_neq ..))) ?_
    refine OpsW.nil ?_
    refine Ex.then_mk ?_
    refine AB.cnd rfl (fun h9 => ?_) (fun h9 => ?_)
    · replace hr4 := iteT hr4 h9
      refine AB.seq ?_
      refine AB.rw ?_
      refine wS (v := (eI .i64 x17)) (sv (d_move rfl)) ?_
      refine wS (v := (.row (some true) 1 [])) (sv (d_assign rfl)) ?_
      refine wS (v := (eI .i64 x17)) (sv (d_assign rfl)) ?_
      refine OpsW.nil ?_
      refine Ex.then_mk ?_
      refine AB.ret ?_
      refine Ex.inBlock_ret_mk ?_
      refine Ex.then_ret_mk ?_
      refine Ex.then_ret_mk ?_
      refine Ex.inBlock_ret_mk ?_
      refine Ex.then_ret_mk ?_
      obtain rfl := Option.some.inj hr4
      obtain rfl := Option.some.inj hr
      exact done_ret (r1 := (.tup [(.row (some true) 1 []), (eI .i64 x17)])) (res2 Tryd.results15 (rvT rfl) (rvT rfl)) (Ghost.trans (Ghost.virt (fr' := [(0, (.tup [(.sl 1 0 0 1 false), (eI .i64 x17)]))]) (h1 := [some ⟨59, [(eI .i64 x14.Code), (.row none 1 (x14.Data.map (eI .u8))), (eI .i64 x14.M), (eI .i64 x14.N)]⟩]) 5 (FLe.le rfl (V.le_tup (V.les_cons (V.le_virt rfl) (V.les_cons (V.le_refl _ _) V.les_nil))) FLe.nil) (HLv.live (V.les_refl _ _) rfl HLv.nil)) (Ghost.rn [1] rfl rfl (FLe.le rfl (V.le_tup (V.les_cons (by first | exact V.le_refl _ _ | (simp only [len_set, len_cpy]; exact V.le_refl _ _)) (V.les_cons (V.le_refl _ _) V.les_nil))) FLe.nil) (HLe.live rfl V.les_nil rfl HLe.nil) rfl))
    · replace hr4 := iteF hr4 h9
      refine AB.skip ?_
      refine Ex.inBlock_mk ?_
      refine Ex.then_mk ?_
      refine AB.rw ?_
      refine wS (v := (eI .i64 (IntKind.i64.wrap (x12 + 1)))) (sv (d_bin rfl rfl (bin_add ..))) ?_
      refine wS (v := (eI .i64 (IntKind.i64.wrap (x12 + 1)))) (sv (d_move rfl)) ?_
      refine OpsW.nil ?_
      refine Ex.then_mk ?_
      exact ⟨IntKind.i64.wrap (x12 + 1), hr4, (Ghost.rn [] rfl rfl (FLe.same rfl (FLe.same rfl (FLe.same rfl (FLe.same rfl FLe.nil)))) HLe.nil rfl)⟩
  · replace hr4 := iteF hr4 h6
    refine AB.exit ?_
    refine Ex.then_exit_mk ?_
    refine Ex.then_exit_mk ?_
    refine Ex.inBlock_same_mk ?_
    obtain rfl := Option.some.inj hr4
    refine Ex.then_mk ?_
    exact hG1 _ _ _ _ (Ghost.rn [] rfl rfl (FLe.same rfl FLe.nil) HLe.nil rfl) (J1 hr)
set_option maxRecDepth 20000 in
set_option maxHeartbeats 1000000 in
theorem law08_ScriptAssembles_ok (N : Nat) (l : List S_api_Op) (r : Bool) (hr : law08_ScriptAssembles N l = some r) :
    Vm.Fn Tryd.prog 4 [] [(.row none 4 (l.map E_api_Op))] (eB r) [] := by
  refine fn_ab Tryd.func4 rfl (by kernel_rfl) Tryd.ntmps4 (Nat.le_of_ble_eq_true rfl) rfl (fr := [(0, (.row none 4 (l.map E_api_Op)))]) rfl ?_
  unfold law08_ScriptAssembles at hr
  refine AB.seq ?_
  refine AB.rw ?_
  refine wS (v := (eB false)) (sv (d_assign rfl)) ?_
  refine OpsW.nil ?_
  refine Ex.then_mk ?_
  refine AB.seq ?_
  refine AB.seq ?_
  replace hr := bnd hr; obtain ⟨x7, h_1, hr⟩ := hr
  refine AB.rw ?_
  refine wC (v := (eB x7)) (h' := []) rfl (Vm.Fn.pure (law08_sane_ok N x7 h_1) rfl rfl) ?_
  refine wS (v := (eB (!x7))) (sv (d_un rfl (un_not _ _))) ?_
  refine OpsW.nil ?_
  refine Ex.then_mk ?_
  refine AB.cnd rfl (fun h2 => ?_) (fun h2 => ?_)
  · replace hr := iteT hr h2
    refine AB.seq ?_
    refine AB.rw ?_
    refine wS (v := (eB false)) (sv (d_assign rfl)) ?_
    refine OpsW.nil ?_
    refine Ex.then_mk ?_
    refine AB.ret ?_
    refine Ex.then_ret_mk ?_
    obtain rfl := Option.some.inj hr
    exact done_ret (r1 := (eB false)) (res1 Tryd.results4 (rvT rfl)) (Ghost.rn [] rfl rfl (FLe.same rfl FLe.nil) HLe.nil rfl)
  · replace hr := iteF hr h2
    refine AB.skip ?_
    refine Ex.then_mk ?_
    refine AB.seq ?_
    refine AB.seq ?_
    replace hr := bnd hr; obtain ⟨x10, h_3, hr⟩ := hr
    refine AB.rw ?_
    refine wS (v := (.row none 4 (l.map E_api_Op))) (sv (d_move rfl)) ?_
    refine wC (v := (eB x10)) (h' := []) rfl (Vm.Fn.pure (keep_Ops_ok N l 40 x10 h_3) rfl rfl) ?_
    refine wS (v := (eB (!x10))) (sv (d_un rfl (un_not _ _))) ?_
    refine OpsW.nil ?_
    refine Ex.then_mk ?_
    refine AB.cnd rfl (fun h4 => ?_) (fun h4 => ?_)
    · replace hr := iteT hr h4
      refine AB.seq ?_
      refine AB.rw ?_
      refine wS (v := (eB true)) (sv (d_assign rfl)) ?_
      refine OpsW.nil ?_
      refine Ex.then_mk ?_
      refine AB.ret ?_
      refine Ex.then_ret_mk ?_
      obtain rfl := Option.some.inj hr
      exact done_ret (r1 := (eB true)) (res1 Tryd.results4 (rvT rfl)) (Ghost.rn [] rfl rfl (FLe.same rfl FLe.nil) HLe.nil rfl)
    · replace hr := iteF hr h4
      refine AB.skip ?_
      refine Ex.then_mk ?_
      refine AB.seq ?_
      replace hr := bnd hr; obtain ⟨x14, h_5, hr⟩ := hr
      refine AB.rw ?_
      refine wS (v := (.row none 4 (l.map E_api_Op))) (sv (d_move rfl)) ?_
      refine wC (v := (.tup [(.sl 0 0 x14.1.length 1 false), (eI .i64 x14.2)])) (h' := [some ⟨5, x14.1.map (eI .u8)⟩]) rfl (Vm.Fn.lendB (script_Assemble_ok N l x14 h_5) [] (by decide) rfl Lend.nil rfl rfl (by simp only [lent, lendSet, lendSet_nil, rnH, Blk.rn, V.rns, V.rn, sg, List.map_cons, List.map_nil, Option.map_some, Option.map_none, List.drop_succ_cons, List.drop_zero, List.drop_nil, List.set_cons_zero, List.set_cons_succ, List.cons_append, List.nil_append, List.append_nil, rns_eI, rns_eB, rns_eS, rns_eL, rns_C_api_Op, List.getElem?_cons_zero, List.getElem?_cons_succ, List.getElem?_nil, List.length_cons, List.length_nil, Nat.reduceAdd, Nat.reduceSub, Nat.add_zero, Nat.zero_add, Nat.sub_self, Nat.sub_zero])) ?_
      refine wS (v := (.tup [(.sl 0 0 x14.1.length 1 false), (eI .i64 x14.2)])) (sv (d_move rfl)) ?_
      refine wS (v := (.sl 0 0 x14.1.length 1 false)) (sv (d_ext rfl rfl)) ?_
      refine wS (v := (eI .i64 x14.2)) (sv (d_ext rfl rfl)) ?_
      refine wS (v := (.sl 0 0 x14.1.length 1 false)) (sv (d_assign rfl)) ?_
      refine wS (v := (eI .i64 x14.2)) (sv (d_assign rfl)) ?_
      refine OpsW.nil ?_
      refine Ex.then_mk ?_
      refine AB.seq ?_
      replace hr := bnd hr; obtain ⟨x19, h_6, hr⟩ := hr
      refine AB.rw ?_
      refine wS (v := (.row none 4 (l.map E_api_Op))) (sv (d_move rfl)) ?_
      refine wC (v := (.tup [(.sl 1 0 x19.1.length 1 false), (eI .i64 x19.2)])) (h' := [some ⟨5, x14.1.map (eI .u8)⟩, some ⟨5, x19.1.map (eI .u8)⟩]) rfl (Vm.Fn.lendB (ref08_Assemble_ok N l x19 h_6) [] (by decide) rfl Lend.nil rfl rfl (by simp only [lent, lendSet, lendSet_nil, rnH, Blk.rn, V.rns, V.rn, sg, List.map_cons, List.map_nil, Option.map_some, Option.map_none, List.drop_succ_cons, List.drop_zero, List.drop_nil, List.set_cons_zero, List.set_cons_succ, List.cons_append, List.nil_append, List.append_nil, rns_eI, rns_eB, rns_eS, rns_eL, rns_C_api_Op, List.getElem?_cons_zero, List.getElem?_cons_succ, List.getElem?_nil, List.length_cons, List.length_nil, Nat.reduceAdd, Nat.reduceSub, Nat.add_zero, Nat.zero_add, Nat.sub_self, Nat.sub_zero])) ?_
      refine wS (v := (.tup [(.sl 1 0 x19.1.length 1 false), (eI .i64 x19.2)])) (sv (d_move rfl)) ?_
      refine wS (v := (.sl 1 0 x19.1.length 1 false)) (sv (d_ext rfl rfl)) ?_
      refine wS (v := (eI .i64 x19.2)) (sv (d_ext rfl rfl)) ?_
      refine wS (v := (.sl 1 0 x19.1.length 1 false)) (sv (d_assign rfl)) ?_
      refine wS (v := (eI .i64 x19.2)) (sv (d_assign rfl)) ?_
      refine OpsW.nil ?_
      refine Ex.then_mk ?_
      refine AB.seq_g fun K1 hK1 hG1 => ?_
      have J1 : ∀ (x2 : Bool), law08_ScriptAssembles_J1 N x2 = some r → K1 (mkF 30 [(2, (eB x2))]) [] := by
        intro x2 hr
        unfold law08_ScriptAssembles_J1 at hr
        refine hK1 _ _ ?_
        refine AB.ret ?_
        obtain rfl := Option.some.inj hr
        exact done_ret (r1 := (eB x2)) (res1 Tryd.results4 (rvT rfl)) (Ghost.rn [] rfl rfl (FLe.same rfl FLe.nil) HLe.nil rfl)
      rcases Bool.eq_false_or_eq_true (x14.2 == x19.2) with h7 | h7
      · replace hr := iteT hr h7
        replace hr := bnd hr; obtain ⟨x28, h_8, hr⟩ := hr
        refine AB.rw ?_
        refine wS (v := (eI .i64 x14.2)) (sv (d_move rfl)) ?_
        refine wS (v := (eI .i64 x19.2)) (sv (d_move rfl)) ?_
        refine wS (v := (eB (x14.2 == x19.2))) (sv (d_bin rfl rfl (bin_eql ..))) ?_
        refine wS (v := (eB (x14.2 == x19.2))) (sv (d_move rfl)) ?_
        refine wS (v := (.sl 0 0 x14.1.length 1 false)) (svG rfl rfl h7 (d_move rfl)) ?_
        refine wS (v := (.sl 1 0 x19.1.length 1 false)) (svG rfl rfl h7 (d_move rfl)) ?_
        refine wCG (v := (eB x28)) (h' := [some ⟨5, x14.1.map (eI .u8)⟩, some ⟨5, x19.1.map (eI .u8)⟩]) rfl rfl h7 rfl (Vm.Fn.lendR (ref01_Same_ok N x14.1 x19.1 x28 h_8) [] [0, 1] (by decide) rfl (by decide) Lend.nil (Brw.row (exp_slT rfl rfl (fun _ => rfl)) (Brw.row (exp_slT rfl rfl (fun _ => rfl)) Brw.nil)) rfl rfB.nil rfl (by simp only [lent, lendSet, lendSet_nil, rnH, Blk.rn, V.rns, V.rn, sg, List.map_cons, List.map_nil, Option.map_some, Option.map_none, List.drop_succ_cons, List.drop_zero, List.drop_nil, List.set_cons_zero, List.set_cons_succ, List.cons_append, List.nil_append, List.append_nil, rns_eI, rns_eB, rns_eS, rns_eL, rns_C_api_Op, List.getElem?_cons_zero, List.getElem?_cons_succ, List.getElem?_nil, List.length_cons, List.length_nil, Nat.reduceAdd, Nat.reduceSub, Nat.add_zero, Nat.zero_add, Nat.sub_self, Nat.sub_zero])) ?_
        refine wS (v := (eB x28)) (sv (d_pickT rfl h7 rfl)) ?_
        refine wS (v := (eB x28)) (sv (d_assign rfl)) ?_
        refine OpsW.nil ?_
        refine Ex.then_mk ?_
        exact hG1 _ _ _ _ (Ghost.rn [] rfl rfl (FLe.same rfl FLe.nil) HLe.nil rfl) (J1 x28 hr)
      · replace hr := iteF hr h7
        refine AB.rw ?_
        refine wS (v := (eI .i64 x14.2)) (sv (d_move rfl)) ?_
        refine wS (v := (eI .i64 x19.2)) (sv (d_move rfl)) ?_
        refine wS (v := (eB (x14.2 == x19.2))) (sv (d_bin rfl rfl (bin_eql ..))) ?_
        refine wS (v := (eB (x14.2 == x19.2))) (sv (d_move rfl)) ?_
        refine wS (svX rfl rfl h7) ?_
        refine wS (svX rfl rfl h7) ?_
        refine wS (svX rfl rfl h7) ?_
        refine wS (v := (eB false)) (sv (d_pickF rfl h7 rfl)) ?_
        refine wS (v := (eB false)) (sv (d_assign rfl)) ?_
        refine OpsW.nil ?_
        refine Ex.then_mk ?_
        exact hG1 _ _ _ _ (Ghost.rn [] rfl rfl (FLe.same rfl FLe.nil) HLe.nil rfl) (J1 false hr)
end Go.Proofs.YtheekineakjhdaaDoor
