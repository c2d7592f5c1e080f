/- Walks printed by a program of ours (gen.py): each Go function of the list does what its shallow function says. -/
import Derived.Test.YtbcmdojknonpgaaSh
import Derived.Test.YtbcmdojknonpgaaTyF
set_option linter.unusedVariables false
set_option linter.unusedSimpArgs false
namespace Go.Proofs.Ytbcmdojknonpgaa
open Go Go.Vm
set_option maxRecDepth 20000 in
set_option maxHeartbeats 1000000 in
theorem bits_Valid_ok (N : Nat) (b_Data : List Int) (b_N : Int) (r : Bool) (hr : bits_Valid N b_Data b_N = some r) :
    Vm.Fn Try.prog 14 [] [(.agg [(.row none 1 (b_Data.map (eI .u8))), (eI .i64 b_N)])] (eB r) [] := by
  refine fn_ab Try.func14 rfl (by kernel_rfl) Try.ntmps14 (Nat.le_of_ble_eq_true rfl) rfl (fr := [(0, (.agg [(.row none 1 (b_Data.map (eI .u8))), (eI .i64 b_N)]))]) rfl ?_
  unfold bits_Valid at hr
  refine AB.seq ?_
  refine AB.rw ?_
  refine wS (v := (.ptr 0 0)) (h' := [some ⟨24, [(.row none 1 (b_Data.map (eI .u8))), (eI .i64 b_N)]⟩]) (sv (d_box rfl rfl rfl rfl)) ?_
  refine wS (v := (eB false)) (sv (d_assign rfl)) ?_
  refine OpsW.nil ?_
  refine Ex.then_mk ?_
  refine AB.seq ?_
  refine AB.seq_g fun K1 hK1 hG1 => ?_
  have J1 : ∀ (x20 : Bool), bits_Valid_J1 N b_Data b_N x20 = some r → K1 (mkF 41 [(1, (.ptr 0 0)), (20, (eB x20))]) [some ⟨24, [(.row none 1 (b_Data.map (eI .u8))), (eI .i64 b_N)]⟩] := by
    intro x20 hr
    unfold bits_Valid_J1 at hr
    refine hK1 _ _ ?_
    refine AB.cnd rfl (fun h1 => ?_) (fun h1 => ?_)
    · replace hr := iteT hr h1
      refine AB.seq ?_
      refine AB.rw ?_
      refine wS (v := (eB false)) (sv (d_assign rfl)) ?_
      refine OpsW.nil ?_
      refine Ex.then_mk ?_
      refine AB.ret ?_
      refine Ex.then_ret_mk ?_
      obtain rfl := Option.some.inj hr
      exact done_ret (r1 := (eB false)) (res1 Try.results14 (rvT rfl)) (Ghost.rn [] rfl rfl (FLe.same rfl FLe.nil) HLe.nil rfl)
    · replace hr := iteF hr h1
      refine AB.skip ?_
      refine Ex.then_mk ?_
      refine AB.seq_g fun K2 hK2 hG2 => ?_
      have J2 : ∀ (x2 : Bool), bits_Valid_J2 N x2 = some r → K2 (mkF 41 [(2, (eB x2))]) [] := by
        intro x2 hr
        unfold bits_Valid_J2 at hr
        refine hK2 _ _ ?_
        refine AB.ret ?_
        obtain rfl := Option.some.inj hr
        exact done_ret (r1 := (eB x2)) (res1 Try.results14 (rvT rfl)) (Ghost.rn [] rfl rfl (FLe.same rfl FLe.nil) HLe.nil rfl)
      rcases Bool.eq_false_or_eq_true ((Int.tmod b_N 8) == 0) with h2 | h2
      · replace hr := iteT hr h2
        refine AB.rg E0 (fun _ => by show drawOk (fun _ => false) _ = true; decide +kernel) ?_
        refine tS (v := (.ptr 0 1)) (sv (d_fa rfl (fap24_1 ..))) ?_
        refine tS (v := (eI .i64 b_N)) (sv (d_load rfl (ldP rfl (part1 ti3 rfl rfl)))) ?_
        refine tS (v := (eI .i64 (Int.tmod b_N 8))) (sv (d_bin rfl rfl (bin_rem' _ _ _ _ rfl))) ?_
        refine tS (v := (eB ((Int.tmod b_N 8) == 0))) (sv (d_bin rfl rfl (bin_eql ..))) ?_
        refine tS (v := (eB ((Int.tmod b_N 8) == 0))) (sv (d_move rfl)) ?_
        refine tS (svX rfl rfl h2) ?_
        refine tS (svX rfl rfl h2) ?_
        refine tS (svX rfl rfl h2) ?_
        refine tS (svX rfl rfl h2) ?_
        refine tS (svX rfl rfl h2) ?_
        refine tS (svX rfl rfl h2) ?_
        refine tS (svX rfl rfl h2) ?_
        refine tS (svX rfl rfl h2) ?_
        refine tS (svX rfl rfl h2) ?_
        refine tS (svX rfl rfl h2) ?_
        refine tS (svX rfl rfl h2) ?_
        refine tS (svX rfl rfl h2) ?_
        refine tS (svX rfl rfl h2) ?_
        refine tS (svX rfl rfl h2) ?_
        refine tS (v := (eB true)) (sv (d_pickT rfl h2 rfl)) ?_
        refine tS (v := (eB true)) (sv (d_assign rfl)) ?_
        refine OpsTo.nil ?_
        refine Ex.then_mk ?_
        exact hG2 _ _ _ _ (Ghost.rn [] rfl rfl (FLe.same rfl FLe.nil) HLe.nil rfl) (J2 true hr)
      · replace hr := iteF hr h2
        replace hr := bnd hr; obtain ⟨x32, h_3, hr⟩ := hr
        replace hr := bnd hr; obtain ⟨x37, h_4, hr⟩ := hr
        refine AB.rg E0 (fun _ => by show drawOk (fun _ => false) _ = true; decide +kernel) ?_
        refine tS (v := (.ptr 0 1)) (sv (d_fa rfl (fap24_1 ..))) ?_
        refine tS (v := (eI .i64 b_N)) (sv (d_load rfl (ldP rfl (part1 ti3 rfl rfl)))) ?_
        refine tS (v := (eI .i64 (Int.tmod b_N 8))) (sv (d_bin rfl rfl (bin_rem' _ _ _ _ rfl))) ?_
        refine tS (v := (eB ((Int.tmod b_N 8) == 0))) (sv (d_bin rfl rfl (bin_eql ..))) ?_
        refine tS (v := (eB ((Int.tmod b_N 8) == 0))) (sv (d_move rfl)) ?_
        refine tS (v := (.ptr 0 0)) (svG rfl rfl h2 (d_fa rfl (fap24_0 ..))) ?_
        refine tS (v := (.row none 1 (b_Data.map (eI .u8)))) (svG rfl rfl h2 (d_load rfl (ldP rfl (part1 ti22 rfl rfl)))) ?_
        refine tS (v := (.ptr 0 0)) (svG rfl rfl h2 (d_fa rfl (fap24_0 ..))) ?_
        refine tS (v := (.row none 1 (b_Data.map (eI .u8)))) (svG rfl rfl h2 (d_load rfl (ldP rfl (part1 ti22 rfl rfl)))) ?_
        refine tS (v := (eI .i64 (b_Data.length : Int))) (svG rfl rfl h2 (d_len rfl (lenR ti22))) ?_
        refine tS (v := (eI .i64 (IntKind.i64.wrap ((b_Data.length : Int) - 1)))) (svG rfl rfl h2 (d_bin rfl rfl (bin_sub ..))) ?_
        refine tS (svG rfl rfl h2 (d_ia rfl rfl (iaR ti22 ti5 h_3))) ?_
        refine tS (v := (eI .u8 x32)) (svG rfl rfl h2 (d_load rfl (ldR h_3 (part1 ti5 rfl rfl)))) ?_
        refine tS (v := (.ptr 0 1)) (svG rfl rfl h2 (d_fa rfl (fap24_1 ..))) ?_
        refine tS (v := (eI .i64 b_N)) (svG rfl rfl h2 (d_load rfl (ldP rfl (part1 ti3 rfl rfl)))) ?_
        refine tS (v := (eI .i64 (Int.tmod b_N 8))) (svG rfl rfl h2 (d_bin rfl rfl (bin_rem' _ _ _ _ rfl))) ?_
        refine tS (v := (eI .u8 x37)) (svG rfl rfl h2 (d_bin rfl rfl (bin_shr' _ _ _ _ h_4))) ?_
        refine tS (v := (eI .u8 (bits .and .u8 x32 x37))) (svG rfl rfl h2 (d_bin rfl rfl (bin_and ..))) ?_
        refine tS (v := (eB ((bits .and .u8 x32 x37) == 0))) (svG rfl rfl h2 (d_bin rfl rfl (bin_eql ..))) ?_
        refine tS (v := (eB ((bits .and .u8 x32 x37) == 0))) (sv (d_pickF rfl h2 rfl)) ?_
        refine tS (v := (eB ((bits .and .u8 x32 x37) == 0))) (sv (d_assign rfl)) ?_
        refine OpsTo.nil ?_
        refine Ex.then_mk ?_
        exact hG2 _ _ _ _ (Ghost.rn [] rfl rfl (FLe.same rfl FLe.nil) HLe.nil rfl) (J2 ((bits .and .u8 x32 x37) == 0) hr)
  rcases Bool.eq_false_or_eq_true (decide (b_N < 0)) with h5 | h5
  · replace hr := iteT hr h5
    refine AB.rw ?_
    refine wS (v := (.ptr 0 1)) (sv (d_fa rfl (fap24_1 ..))) ?_
    refine wS (v := (eI .i64 b_N)) (sv (d_load rfl (ldP rfl (part1 ti3 rfl rfl)))) ?_
    refine wS (v := (eB (decide (b_N < 0)))) (sv (d_bin rfl rfl (bin_lss ..))) ?_
    refine wS (v := (eB (decide (b_N < 0)))) (sv (d_move rfl)) ?_
    refine wS (svX rfl rfl h5) ?_
    refine wS (svX rfl rfl h5) ?_
    refine wS (svX rfl rfl h5) ?_
    refine wS (v := (eB true)) (sv (d_pickT rfl h5 rfl)) ?_
    refine wS (v := (eB true)) (sv (d_move rfl)) ?_
    refine wS (svX rfl rfl rfl) ?_
    refine wS (svX rfl rfl rfl) ?_
    refine wS (svX rfl rfl rfl) ?_
    refine wS (svX rfl rfl rfl) ?_
    refine wS (svX rfl rfl rfl) ?_
    refine wS (svX rfl rfl rfl) ?_
    refine wS (svX rfl rfl rfl) ?_
    refine wS (svX rfl rfl rfl) ?_
    refine wS (v := (eB true)) (sv (d_pickT rfl rfl rfl)) ?_
    refine OpsW.nil ?_
    refine Ex.then_mk ?_
    exact hG1 _ _ _ _ (Ghost.rn [0] rfl rfl (FLe.same rfl (FLe.same rfl FLe.nil)) (HLe.live rfl (V.les_refl _ _) rfl HLe.nil) rfl) (J1 true hr)
  · replace hr := iteF hr h5
    rcases Bool.eq_false_or_eq_true (decide (1600000 < b_N)) with h6 | h6
    · replace hr := iteT hr h6
      refine AB.rw ?_
      refine wS (v := (.ptr 0 1)) (sv (d_fa rfl (fap24_1 ..))) ?_
      refine wS (v := (eI .i64 b_N)) (sv (d_load rfl (ldP rfl (part1 ti3 rfl rfl)))) ?_
      refine wS (v := (eB (decide (b_N < 0)))) (sv (d_bin rfl rfl (bin_lss ..))) ?_
      refine wS (v := (eB (decide (b_N < 0)))) (sv (d_move rfl)) ?_
      refine wS (v := (.ptr 0 1)) (svG rfl rfl h5 (d_fa rfl (fap24_1 ..))) ?_
      refine wS (v := (eI .i64 b_N)) (svG rfl rfl h5 (d_load rfl (ldP rfl (part1 ti3 rfl rfl)))) ?_
      refine wS (v := (eB (decide (1600000 < b_N)))) (svG rfl rfl h5 (d_bin rfl rfl (bin_gtr ..))) ?_
      refine wS (v := (eB (decide (1600000 < b_N)))) (sv (d_pickF rfl h5 rfl)) ?_
      refine wS (v := (eB (decide (1600000 < b_N)))) (sv (d_move rfl)) ?_
      refine wS (svX rfl rfl h6) ?_
      refine wS (svX rfl rfl h6) ?_
      refine wS (svX rfl rfl h6) ?_
      refine wS (svX rfl rfl h6) ?_
      refine wS (svX rfl rfl h6) ?_
      refine wS (svX rfl rfl h6) ?_
      refine wS (svX rfl rfl h6) ?_
      refine wS (svX rfl rfl h6) ?_
      refine wS (v := (eB true)) (sv (d_pickT rfl h6 rfl)) ?_
      refine OpsW.nil ?_
      refine Ex.then_mk ?_
      exact hG1 _ _ _ _ (Ghost.rn [0] rfl rfl (FLe.same rfl (FLe.same rfl FLe.nil)) (HLe.live rfl (V.les_refl _ _) rfl HLe.nil) rfl) (J1 true hr)
    · replace hr := iteF hr h6
      refine AB.rw ?_
      refine wS (v := (.ptr 0 1)) (sv (d_fa rfl (fap24_1 ..))) ?_
      refine wS (v := (eI .i64 b_N)) (sv (d_load rfl (ldP rfl (part1 ti3 rfl rfl)))) ?_
      refine wS (v := (eB (decide (b_N < 0)))) (sv (d_bin rfl rfl (bin_lss ..))) ?_
      refine wS (v := (eB (decide (b_N < 0)))) (sv (d_move rfl)) ?_
      refine wS (v := (.ptr 0 1)) (svG rfl rfl h5 (d_fa rfl (fap24_1 ..))) ?_
      refine wS (v := (eI .i64 b_N)) (svG rfl rfl h5 (d_load rfl (ldP rfl (part1 ti3 rfl rfl)))) ?_
      refine wS (v := (eB (decide (1600000 < b_N)))) (svG rfl rfl h5 (d_bin rfl rfl (bin_gtr ..))) ?_
      refine wS (v := (eB (decide (1600000 < b_N)))) (sv (d_pickF rfl h5 rfl)) ?_
      refine wS (v := (eB (decide (1600000 < b_N)))) (sv (d_move rfl)) ?_
      refine wS (v := (.ptr 0 0)) (svG rfl rfl h6 (d_fa rfl (fap24_0 ..))) ?_
      refine wS (v := (.row none 1 (b_Data.map (eI .u8)))) (svG rfl rfl h6 (d_load rfl (ldP rfl (part1 ti22 rfl rfl)))) ?_
      refine wS (v := (eI .i64 (b_Data.length : Int))) (svG rfl rfl h6 (d_len rfl (lenR ti22))) ?_
      refine wS (v := (.ptr 0 1)) (svG rfl rfl h6 (d_fa rfl (fap24_1 ..))) ?_
      refine wS (v := (eI .i64 b_N)) (svG rfl rfl h6 (d_load rfl (ldP rfl (part1 ti3 rfl rfl)))) ?_
      refine wS (v := (eI .i64 (IntKind.i64.wrap (b_N + 7)))) (svG rfl rfl h6 (d_bin rfl rfl (bin_add ..))) ?_
      refine wS (v := (eI .i64 (IntKind.i64.wrap (Int.tdiv (IntKind.i64.wrap (b_N + 7)) 8)))) (svG rfl rfl h6 (d_bin rfl rfl (bin_quo' _ _ _ _ rfl))) ?_
      refine wS (v := (eB ((b_Data.length : Int) != (IntKind.i64.wrap (Int.tdiv (IntKind.i64.wrap (b_N + 7)) 8))))) (svG rfl rfl h6 (d_bin rfl rfl (bin_neq ..))) ?_
      refine wS (v := (eB ((b_Data.length : Int) != (IntKind.i64.wrap (Int.tdiv (IntKind.i64.wrap (b_N + 7)) 8))))) (sv (d_pickF rfl h6 rfl)) ?_
      refine OpsW.nil ?_
      refine Ex.then_mk ?_
      exact hG1 _ _ _ _ (Ghost.rn [0] rfl rfl (FLe.same rfl (FLe.same rfl FLe.nil)) (HLe.live rfl (V.les_refl _ _) rfl HLe.nil) rfl) (J1 ((b_Data.length : Int) != (IntKind.i64.wrap (Int.tdiv (IntKind.i64.wrap (b_N + 7)) 8))) hr)
set_option maxRecDepth 20000 in
set_option maxHeartbeats 1000000 in
theorem bits_begin_ok (N : Nat) (b_Data : List Int) (b_N : Int) (r : (List Int) × Int) (hr : bits_begin N b_Data b_N = some r) :
    Vm.Fn Try.prog 23 [] [(.agg [(.row none 1 (b_Data.map (eI .u8))), (eI .i64 b_N)])] (.ptr 0 0) [some ⟨45, [(.sl 1 0 r.1.length 1 false), (eI .i64 r.2)]⟩, some ⟨5, r.1.map (eI .u8)⟩] := by
  refine fn_ab Try.func23 rfl (by kernel_rfl) Try.ntmps23 (Nat.le_of_ble_eq_true rfl) rfl (fr := [(0, (.agg [(.row none 1 (b_Data.map (eI .u8))), (eI .i64 b_N)]))]) rfl ?_
  unfold bits_begin at hr
  refine AB.seq ?_
  refine AB.rw ?_
  refine wS (v := (.ptr 0 0)) (h' := [some ⟨24, [(.row none 1 (b_Data.map (eI .u8))), (eI .i64 b_N)]⟩]) (sv (d_box rfl rfl rfl rfl)) ?_
  refine wS (v := (.sc (.pointer none))) (sv (d_assign rfl)) ?_
  refine OpsW.nil ?_
  refine Ex.then_mk ?_
  refine AB.seq ?_
  replace hr := bnd hr; obtain ⟨x7, h_1, hr⟩ := hr
  refine AB.rg E0 (fun _ => by show drawOk (fun _ => false) _ = true; decide +kernel) ?_
  refine tS (v := (.ptr 0 0)) (sv (d_fa rfl (fap24_0 ..))) ?_
  refine tS (v := (.row none 1 (b_Data.map (eI .u8)))) (sv (d_load rfl (ldP rfl (part1 ti22 rfl rfl)))) ?_
  refine tS (v := (eI .i64 (b_Data.length : Int))) (sv (d_len rfl (lenR ti22))) ?_
  refine tS (v := (.sl 1 0 x7.length 1 false)) (h' := [some ⟨24, [(.row none 1 (b_Data.map (eI .u8))), (eI .i64 b_N)]⟩, some ⟨5, x7.map (eI .u8)⟩]) (sv (d_mk rfl rfl (mkS (E := (eI .u8)) (y := 0) ti22 ti5 ⟨Nat.le_of_ble_eq_true rfl, rfl, rfl⟩ rfl rfl rfl h_1 rfl rfl))) ?_
  refine tS (v := (.ptr 0 1)) (sv (d_fa rfl (fap24_1 ..))) ?_
  refine tS (v := (eI .i64 b_N)) (sv (d_load rfl (ldP rfl (part1 ti3 rfl rfl)))) ?_
  refine tS (v := (.agg [(.sl 1 0 x7.length 1 false), (eI .i64 b_N)])) (sv (d_build rfl (bldS ti24 pl24 rfl))) ?_
  refine tS (v := (.agg [(.sl 1 0 x7.length 1 false), (eI .i64 b_N)])) (sv (d_build rfl (bldS ti45 pl45 rfl))) ?_
  refine tS (v := (.ptr 2 0)) (h' := [some ⟨24, [(.row none 1 (b_Data.map (eI .u8))), (eI .i64 b_N)]⟩, some ⟨5, x7.map (eI .u8)⟩, some ⟨45, [(.sl 1 0 x7.length 1 false), (eI .i64 b_N)]⟩]) (sv (d_box rfl rfl rfl rfl)) ?_
  refine tS (v := (.ptr 2 0)) (sv (d_assign rfl)) ?_
  refine OpsTo.nil ?_
  refine Ex.then_mk ?_
  refine AB.seq ?_
  refine AB.rg E0 (fun _ => by show drawOk (fun _ => false) _ = true; decide +kernel) ?_
  refine tS (v := (.ptr 2 0)) (sv (d_move rfl)) ?_
  refine tS (v := (.ptr 2 0)) (sv (d_nilP rfl)) ?_
  refine tS (v := (.ptr 2 0)) (sv (d_fa rfl (fap45_0 ..))) ?_
  refine tS (v := (.ptr 2 0)) (sv (d_fa rfl (fap24_0 ..))) ?_
  refine tS (v := (.sl 1 0 x7.length 1 false)) (sv (d_load rfl (ldP rfl (part1 ti22 rfl rfl)))) ?_
  refine tS (v := (.ptr 0 0)) (sv (d_fa rfl (fap24_0 ..))) ?_
  refine tS (v := (.row none 1 (b_Data.map (eI .u8)))) (sv (d_load rfl (ldP rfl (part1 ti22 rfl rfl)))) ?_
  refine tS (v := (eI .i64 ((min b_Data.length x7.length : Nat) : Int))) (h' := [some ⟨24, [(.row none 1 (b_Data.map (eI .u8))), (eI .i64 b_N)]⟩, some ⟨5, (cpy x7 b_Data).map (eI .u8)⟩, some ⟨45, [(.sl 1 0 x7.length 1 false), (eI .i64 b_N)]⟩]) (sv (d_copy rfl rfl (cpyS (E := (eI .u8)) rfl ti22 ti5 rfl rfl (srcR (fun _ => rfl)) rfl))) ?_
  refine OpsTo.nil ?_
  refine Ex.then_mk ?_
  refine AB.seq ?_
  refine AB.rw ?_
  refine wS (v := (.ptr 2 0)) (sv (d_move rfl)) ?_
  refine wS (v := (.ptr 2 0)) (sv (d_assign rfl)) ?_
  refine OpsW.nil ?_
  refine Ex.then_mk ?_
  refine AB.ret ?_
  obtain rfl := Option.some.inj hr
  exact done_ret (r1 := (.ptr 2 0)) (res1 Try.results23 (rvT rfl)) (Ghost.rn [2, 1] rfl rfl (FLe.same rfl FLe.nil) (HLe.live rfl (V.les_cons (by first | exact V.le_refl _ _ | (simp only [len_set, len_cpy]; exact V.le_refl _ _)) (V.les_cons (V.le_refl _ _) V.les_nil)) rfl (HLe.live rfl (les_map (fun _ => rfl) _) (all_map (fun _ => rfl) _) HLe.nil)) rfl)
set_option maxRecDepth 20000 in
set_option maxHeartbeats 1000000 in
theorem bits_writer_put_ok (N : Nat) (w_Bits_Data : List Int) (w_Bits_N : Int) (one : Bool) (r : (List Int) × Int) (hr : bits_writer_put N w_Bits_Data w_Bits_N one = some r) :
    Vm.Fn Try.prog 29 [some ⟨45, [(.sl 1 0 w_Bits_Data.length 1 false), (eI .i64 w_Bits_N)]⟩, some ⟨5, w_Bits_Data.map (eI .u8)⟩] [(.ptr 0 0), (eB one)] (.tup []) [some ⟨45, [(.sl 2 0 r.1.length 1 false), (eI .i64 r.2)]⟩, none, some ⟨5, r.1.map (eI .u8)⟩] := by
  refine fn_ab Try.func29 rfl (by kernel_rfl) Try.ntmps29 (Nat.le_of_ble_eq_true rfl) rfl (fr := [(0, (.ptr 0 0)), (1, (eB one))]) rfl ?_
  unfold bits_writer_put at hr
  refine AB.seq_g fun K1 hK1 hG1 => ?_
  have J1 : ∀ (l2 : List Int), bits_writer_put_J1 N w_Bits_N one l2 = some r → K1 (mkF 54 [(0, (.ptr 0 0)), (1, (eB one))]) [some ⟨45, [(.sl 2 0 l2.length 1 false), (eI .i64 w_Bits_N)]⟩, none, some ⟨5, l2.map (eI .u8)⟩] := by
    intro l2 hr
    unfold bits_writer_put_J1 at hr
    refine hK1 _ _ ?_
    refine AB.seq_g fun K2 hK2 hG2 => ?_
    have J2 : ∀ (l2_1 : List Int), bits_writer_put_J2 N w_Bits_N l2_1 = some r → K2 (mkF 54 [(0, (.ptr 0 0))]) [some ⟨45, [(.sl 2 0 l2_1.length 1 false), (eI .i64 w_Bits_N)]⟩, none, some ⟨5, l2_1.map (eI .u8)⟩] := by
      intro l2_1 hr
      unfold bits_writer_put_J2 at hr
      refine hK2 _ _ ?_
      refine AB.rw ?_
      refine wS (v := (.ptr 0 0)) (sv (d_move rfl)) ?_
      refine wS (v := (.ptr 0 0)) (sv (d_nilP rfl)) ?_
      refine wS (v := (.ptr 0 0)) (sv (d_fa rfl (fap45_0 ..))) ?_
      refine wS (v := (.ptr 0 1)) (sv (d_fa rfl (fap24_1 ..))) ?_
      refine wS (v := (eI .i64 w_Bits_N)) (sv (d_load rfl (ldP rfl (part1 ti3 rfl rfl)))) ?_
      refine wS (v := (eI .i64 (IntKind.i64.wrap (w_Bits_N + 1)))) (sv (d_bin rfl rfl (bin_add ..))) ?_
      refine wS (v := (.ptr 0 0)) (sv (d_nilP rfl)) ?_
      refine wS (v := (.ptr 0 0)) (sv (d_fa rfl (fap45_0 ..))) ?_
      refine wS (v := (.ptr 0 1)) (sv (d_fa rfl (fap24_1 ..))) ?_
      refine wN (h' := [some ⟨45, [(.sl 2 0 l2_1.length 1 false), (eI .i64 (IntKind.i64.wrap (w_Bits_N + 1)))]⟩, none, some ⟨5, l2_1.map (eI .u8)⟩]) (sv (d_store rfl rfl (stP ti3 rfl rfl rfl (Nat.le_of_ble_eq_true rfl) rfl))) ?_
      refine OpsW.nil ?_
      obtain rfl := Option.some.inj hr
      exact done_norm (r1 := (.tup [])) (res0 Try.results29) (Ghost.rn [0, 1, 2] rfl rfl (FLe.same rfl FLe.nil) (HLe.live rfl (V.les_refl _ _) rfl (HLe.dead (HLe.live rfl (les_map (fun _ => rfl) _) (all_map (fun _ => rfl) _) HLe.nil))) rfl)
    refine AB.seq ?_
    refine AB.rw ?_
    refine wS (v := (eB one)) (sv (d_move rfl)) ?_
    refine OpsW.nil ?_
    refine Ex.then_mk ?_
    refine AB.cnd rfl (fun h1 => ?_) (fun h1 => ?_)
    · replace hr := iteT hr h1
      replace hr := bnd hr; obtain ⟨x34, h_2, hr⟩ := hr
      replace hr := bnd hr; obtain ⟨x42, h_3, hr⟩ := hr
      refine AB.rg E0 (fun _ => by show drawOk (fun _ => false) _ = true; decide +kernel) ?_
      refine tS (v := (.ptr 0 0)) (sv (d_move rfl)) ?_
      refine tS (v := (.ptr 0 0)) (sv (d_nilP rfl)) ?_
      refine tS (v := (.ptr 0 0)) (sv (d_fa rfl (fap45_0 ..))) ?_
      refine tS (v := (.ptr 0 0)) (sv (d_fa rfl (fap24_0 ..))) ?_
      refine tS (v := (.sl 2 0 l2.length 1 false)) (sv (d_load rfl (ldP rfl (part1 ti22 rfl rfl)))) ?_
      refine tS (v := (.ptr 0 0)) (sv (d_move rfl)) ?_
      refine tS (v := (.ptr 0 0)) (sv (d_nilP rfl)) ?_
      refine tS (v := (.ptr 0 0)) (sv (d_fa rfl (fap45_0 ..))) ?_
      refine tS (v := (.ptr 0 1)) (sv (d_fa rfl (fap24_1 ..))) ?_
      refine tS (v := (eI .i64 w_Bits_N)) (sv (d_load rfl (ldP rfl (part1 ti3 rfl rfl)))) ?_
      refine tS (v := (eI .i64 (IntKind.i64.wrap (Int.tdiv w_Bits_N 8)))) (sv (d_bin rfl rfl (bin_quo' _ _ _ _ rfl))) ?_
      refine tS (v := (.ptr 2 (Int.toNat (IntKind.i64.wrap (Int.tdiv w_Bits_N 8))))) (sv (d_ia rfl rfl (iaS rfl ti22 ti5 rfl h_2))) ?_
      refine tS (v := (eI .u8 x34)) (sv (d_load rfl (ldX ti5 rfl rfl h_2))) ?_
      refine tS (v := (.ptr 0 0)) (sv (d_move rfl)) ?_
      refine tS (v := (.ptr 0 0)) (sv (d_nilP rfl)) ?_
      refine tS (v := (.ptr 0 0)) (sv (d_fa rfl (fap45_0 ..))) ?_
      refine tS (v := (.ptr 0 1)) (sv (d_fa rfl (fap24_1 ..))) ?_
      refine tS (v := (eI .i64 w_Bits_N)) (sv (d_load rfl (ldP rfl (part1 ti3 rfl rfl)))) ?_
      refine tS (v := (eI .i64 (Int.tmod w_Bits_N 8))) (sv (d_bin rfl rfl (bin_rem' _ _ _ _ rfl))) ?_
      refine tS (v := (eI .u8 x42)) (sv (d_bin rfl rfl (bin_shr' _ _ _ _ h_3))) ?_
      refine tS (v := (eI .u8 (bits .or .u8 x34 x42))) (sv (d_bin rfl rfl (bin_or ..))) ?_
      refine tS (v := (.ptr 2 (Int.toNat (IntKind.i64.wrap (Int.tdiv w_Bits_N 8))))) (sv (d_ia rfl rfl (iaS rfl ti22 ti5 rfl h_2))) ?_
      refine tN (h' := [some ⟨45, [(.sl 2 0 l2.length 1 false), (eI .i64 w_Bits_N)]⟩, none, some ⟨5, (l2.set (Int.toNat (IntKind.i64.wrap (Int.tdiv w_Bits_N 8))) (bits .or .u8 x34 x42)).map (eI .u8)⟩]) (sv (d_store rfl rfl (stXe (E := (eI .u8)) (y := bits .or .u8 x34 x42) ti5 rfl rfl h_2 rfl rfl rfl))) ?_
      refine OpsTo.nil ?_
      refine Ex.then_mk ?_
      exact hG2 _ _ _ _ (Ghost.rn [0, 1, 2] rfl rfl (FLe.same rfl FLe.nil) (HLe.live rfl (V.les_cons (by first | exact V.le_refl _ _ | (simp only [len_set, len_cpy]; exact V.le_refl _ _)) (V.les_cons (V.le_refl _ _) V.les_nil)) rfl (HLe.dead (HLe.live rfl (les_map (fun _ => rfl) _) (all_map (fun _ => rfl) _) HLe.nil))) rfl) (J2 (l2.set (Int.toNat (IntKind.i64.wrap (Int.tdiv w_Bits_N 8))) (bits .or .u8 x34 x42)) hr)
    · replace hr := iteF hr h1
      refine AB.skip ?_
      refine Ex.then_mk ?_
      exact hG2 _ _ _ _ (Ghost.rn [0, 1, 2] rfl rfl (FLe.same rfl FLe.nil) (HLe.live rfl (V.les_refl _ _) rfl (HLe.dead (HLe.live rfl (les_map (fun _ => rfl) _) (all_map (fun _ => rfl) _) HLe.nil))) rfl) (J2 l2 hr)
  refine AB.seq ?_
  refine AB.rw ?_
  refine wS (v := (.ptr 0 0)) (sv (d_move rfl)) ?_
  refine wS (v := (.ptr 0 0)) (sv (d_nilP rfl)) ?_
  refine wS (v := (.ptr 0 0)) (sv (d_fa rfl (fap45_0 ..))) ?_
  refine wS (v := (.ptr 0 1)) (sv (d_fa rfl (fap24_1 ..))) ?_
  refine wS (v := (eI .i64 w_Bits_N)) (sv (d_load rfl (ldP rfl (part1 ti3 rfl rfl)))) ?_
  refine wS (v := (eI .i64 (Int.tmod w_Bits_N 8))) (sv (d_bin rfl rfl (bin_rem' _ _ _ _ rfl))) ?_
  refine wS (v := (eB ((Int.tmod w_Bits_N 8) == 0))) (sv (d_bin rfl rfl (bin_eql ..))) ?_
  refine OpsW.nil ?_
  refine Ex.then_mk ?_
  refine AB.cnd rfl (fun h4 => ?_) (fun h4 => ?_)
  · replace hr := iteT hr h4
    replace hr := bnd hr; obtain ⟨x18, h_5, hr⟩ := hr
    refine AB.rw ?_
    refine wS (v := (.ptr 0 0)) (sv (d_move rfl)) ?_
    refine wS (v := (.ptr 0 0)) (sv (d_move rfl)) ?_
    refine wS (v := (.ptr 0 0)) (sv (d_nilP rfl)) ?_
    refine wS (v := (.ptr 0 0)) (sv (d_fa rfl (fap45_0 ..))) ?_
    refine wS (v := (.ptr 0 0)) (sv (d_fa rfl (fap24_0 ..))) ?_
    refine wS (v := (.sl 1 0 w_Bits_Data.length 1 false)) (sv (d_load rfl (ldP rfl (part1 ti22 rfl rfl)))) ?_
    refine wS (v := (.sl 2 0 1 1 false)) (h' := [some ⟨45, [(.sl 1 0 w_Bits_Data.length 1 false), (eI .i64 w_Bits_N)]⟩, some ⟨5, w_Bits_Data.map (eI .u8)⟩, some ⟨5, [0].map (eI .u8)⟩]) (sv (d_buildS rfl (bldL1 (xs := [0].map (eI .u8)) ti22 ti5 (Nat.le_of_ble_eq_true rfl) (Nat.le_of_ble_eq_true rfl) rfl rfl rfl rfl rfl rfl rfl))) ?_
    refine wS (v := (.sl 3 0 x18.length 1 false)) (h' := [some ⟨45, [(.sl 1 0 w_Bits_Data.length 1 false), (eI .i64 w_Bits_N)]⟩, none, some ⟨5, [0].map (eI .u8)⟩, some ⟨5, x18.map (eI .u8)⟩]) (sv (d_append rfl rfl (appS (E := (eI .u8)) rfl ti22 ti5 ⟨rfl, rfl, Nat.le_of_ble_eq_true rfl⟩ rfl (srcS rfl rfl) h_5 rfl rfl))) ?_
    refine wS (v := (.ptr 0 0)) (sv (d_nilP rfl)) ?_
    refine wS (v := (.ptr 0 0)) (sv (d_fa rfl (fap45_0 ..))) ?_
    refine wS (v := (.ptr 0 0)) (sv (d_fa rfl (fap24_0 ..))) ?_
    refine wN (h' := [some ⟨45, [(.sl 3 0 x18.length 1 false), (eI .i64 w_Bits_N)]⟩, none, some ⟨5, [0].map (eI .u8)⟩, some ⟨5, x18.map (eI .u8)⟩]) (sv (d_store rfl rfl (stP ti22 rfl rfl rfl (Nat.le_of_ble_eq_true rfl) rfl))) ?_
    refine OpsW.nil ?_
    refine Ex.then_mk ?_
    exact hG1 _ _ _ _ (Ghost.rn [0, 1, 3] rfl rfl (FLe.same rfl (FLe.same rfl FLe.nil)) (HLe.live rfl (V.les_refl _ _) rfl (HLe.dead (HLe.live rfl (les_map (fun _ => rfl) _) (all_map (fun _ => rfl) _) HLe.nil))) rfl) (J1 x18 hr)
  · replace hr := iteF hr h4
    refine AB.skip ?_
    refine Ex.then_mk ?_
    exact hG1 _ _ _ _ (Ghost.rn [0, 1, 1] rfl rfl (FLe.same rfl (FLe.same rfl FLe.nil)) (HLe.live rfl (V.les_refl _ _) rfl (HLe.dead (HLe.live rfl (les_map (fun _ => rfl) _) (all_map (fun _ => rfl) _) HLe.nil))) rfl) (J1 w_Bits_Data hr)
set_option maxRecDepth 20000 in
set_option maxHeartbeats 1000000 in
theorem bits_writer_number_ok (N : Nat) (w_Bits_Data : List Int) (w_Bits_N : Int) (v : Int) (vn : Int) (r : (List Int) × Int) (hr : bits_writer_number N w_Bits_Data w_Bits_N v vn = some r) :
    Vm.Fn Try.prog 24 [some ⟨45, [(.sl 1 0 w_Bits_Data.length 1 false), (eI .i64 w_Bits_N)]⟩, some ⟨5, w_Bits_Data.map (eI .u8)⟩] [(.ptr 0 0), (eI .u64 v), (eI .i64 vn)] (.tup []) [some ⟨45, [(.sl 2 0 r.1.length 1 false), (eI .i64 r.2)]⟩, none, some ⟨5, r.1.map (eI .u8)⟩] := by
  refine fn_ab Try.func24 rfl (by kernel_rfl) Try.ntmps24 (Nat.le_of_ble_eq_true rfl) rfl (fr := [(0, (.ptr 0 0)), (1, (eI .u64 v)), (2, (eI .i64 vn))]) rfl ?_
  unfold bits_writer_number at hr
  refine AB.seq ?_
  refine AB.rw ?_
  refine wS (v := (eI .i64 vn)) (sv (d_move rfl)) ?_
  refine wS (v := (eI .i64 0)) (sv (d_move rfl)) ?_
  refine OpsW.nil ?_
  refine Ex.then_mk ?_
  replace hr := bnd hr; obtain ⟨res1, hL1, hr⟩ := hr
  refine AB.block ?_
  refine AB.loopN (fun m s h => ∃ (x8 : Int) (c0 : Int) (l2 : List Int), bits_writer_number_L1 N v vn m x8 c0 l2 = some res1 ∧ Ghost 2 s h (mkF 22 [(0, (.ptr 0 0)), (1, (eI .u64 v)), (2, (eI .i64 vn)), (7, (eI .i64 vn)), (8, (eI .i64 x8))]) [some ⟨45, [(.sl 2 0 l2.length 1 false), (eI .i64 c0)]⟩, none, some ⟨5, l2.map (eI .u8)⟩]) (n := N) ⟨0, w_Bits_N, w_Bits_Data, hL1, (Ghost.rn [0, 1, 1] rfl rfl (FLe.same rfl (FLe.same rfl (FLe.same rfl (FLe.same rfl (FLe.same rfl FLe.nil))))) (HLe.live rfl (V.les_refl _ _) rfl (HLe.dead (HLe.live rfl (les_map (fun _ => rfl) _) (all_map (fun _ => rfl) _) HLe.nil))) rfl)⟩ (by rintro s h ⟨_, _, _, h0, _⟩; simp [bits_writer_number_L1] at h0) ?_
  rintro m1 s h ⟨x8, c0, l2, hr1, hg⟩
  refine AB.ghost hg ?_
  clear hg hL1
  rw [bits_writer_number_L1] at hr1
  refine AB.seq ?_
  refine AB.rw ?_
  refine wS (v := (eB (decide (x8 < vn)))) (sv (d_bin rfl rfl (bin_lss ..))) ?_
  refine OpsW.nil ?_
  refine Ex.then_mk ?_
  refine AB.seq ?_
  refine AB.cnd rfl (fun h1 => ?_) (fun h1 => ?_)
  · replace hr1 := iteT hr1 h1
    refine AB.skip ?_
    refine Ex.then_mk ?_
    refine AB.seq ?_
    refine AB.block ?_
    refine AB.seq ?_
    refine AB.rw ?_
    refine wS (v := (eI .i64 x8)) (sv (d_move rfl)) ?_
    refine wS (v := (eI .i64 x8)) (sv (d_assign rfl)) ?_
    refine OpsW.nil ?_
    refine Ex.then_mk ?_
    replace hr1 := bnd hr1; obtain ⟨x17, h_2, hr1⟩ := hr1
    replace hr1 := bnd hr1; obtain ⟨x20, h_3, hr1⟩ := hr1
    refine AB.rw ?_
    refine wS (v := (.ptr 0 0)) (sv (d_move rfl)) ?_
    refine wS (v := (eI .u64 v)) (sv (d_move rfl)) ?_
    refine wS (v := (eI .i64 vn)) (sv (d_move rfl)) ?_
    refine wS (v := (eI .i64 (IntKind.i64.wrap (vn - 1)))) (sv (d_bin rfl rfl (bin_sub ..))) ?_
    refine wS (v := (eI .i64 x8)) (sv (d_move rfl)) ?_
    refine wS (v := (eI .i64 (IntKind.i64.wrap ((IntKind.i64.wrap (vn - 1)) - x8)))) (sv (d_bin rfl rfl (bin_sub ..))) ?_
    refine wS (v := (eI .u64 x17)) (sv (d_bin rfl rfl (bin_shr' _ _ _ _ h_2))) ?_
    refine wS (v := (eI .u64 (bits .and .u64 x17 1))) (sv (d_bin rfl rfl (bin_and ..))) ?_
    refine wS (v := (eB ((bits .and .u64 x17 1) == 1))) (sv (d_bin rfl rfl (bin_eql ..))) ?_
    refine wC (v := (.tup [])) (h' := [some ⟨45, [(.sl 3 0 x20.1.length 1 false), (eI .i64 x20.2)]⟩, none, none, some ⟨5, x20.1.map (eI .u8)⟩]) rfl (Vm.Fn.lendB (bits_writer_put_ok N l2 c0 ((bits .and .u64 x17 1) == 1) x20 h_3) [0, 2] (by decide) rfl (Lend.cons rfl rfl (Lend.cons rfl (rns_map (fun _ => rfl) _) Lend.nil)) rfl rfl (by simp only [lent, lendSet, lendSet_nil, rnH, Blk.rn, V.rns, V.rn, sg, List.map_cons, List.map_nil, Option.map_some, Option.map_none, List.drop_succ_cons, List.drop_zero, List.drop_nil, List.set_cons_zero, List.set_cons_succ, List.cons_append, List.nil_append, List.append_nil, rns_eI, rns_eB, rns_eS, rns_eL, List.getElem?_cons_zero, List.getElem?_cons_succ, List.getElem?_nil, List.length_cons, List.length_nil, Nat.reduceAdd, Nat.reduceSub, Nat.add_zero, Nat.zero_add, Nat.sub_self, Nat.sub_zero])) ?_
    refine OpsW.nil ?_
    refine Ex.inBlock_mk ?_
    refine Ex.then_mk ?_
    refine AB.rw ?_
    refine wS (v := (eI .i64 (IntKind.i64.wrap (x8 + 1)))) (sv (d_bin rfl rfl (bin_add ..))) ?_
    refine wS (v := (eI .i64 (IntKind.i64.wrap (x8 + 1)))) (sv (d_move rfl)) ?_
    refine OpsW.nil ?_
    refine Ex.then_mk ?_
    exact ⟨IntKind.i64.wrap (x8 + 1), x20.2, x20.1, hr1, (Ghost.rn [0, 1, 3] rfl rfl (FLe.same rfl (FLe.same rfl (FLe.same rfl (FLe.same rfl (FLe.same rfl FLe.nil))))) (HLe.live rfl (V.les_refl _ _) rfl (HLe.dead (HLe.live rfl (les_map (fun _ => rfl) _) (all_map (fun _ => rfl) _) HLe.nil))) rfl)⟩
  · replace hr1 := iteF hr1 h1
    refine AB.exit ?_
    refine Ex.then_exit_mk ?_
    refine Ex.then_exit_mk ?_
    refine Ex.inBlock_same_mk ?_
    obtain rfl := Option.some.inj hr1
    obtain rfl := Option.some.inj hr
    exact done_norm (r1 := (.tup [])) (res0 Try.results24) (Ghost.rn [0, 1, 2] rfl rfl (FLe.same rfl FLe.nil) (HLe.live rfl (V.les_refl _ _) rfl (HLe.dead (HLe.live rfl (les_map (fun _ => rfl) _) (all_map (fun _ => rfl) _) HLe.nil))) rfl)
set_option maxRecDepth 20000 in
set_option maxHeartbeats 1000000 in
theorem bits_Append_ok (N : Nat) (b_Data : List Int) (b_N : Int) (v : Int) (vn : Int) (r : (List Int) × Int × Int) (hr : bits_Append N b_Data b_N v vn = some r) :
    Vm.Fn Try.prog 12 [] [(.agg [(.row none 1 (b_Data.map (eI .u8))), (eI .i64 b_N)]), (eI .u64 v), (eI .i64 vn)] (.tup [(.agg [(.sl 0 0 r.1.length 1 false), (eI .i64 r.2.1)]), (eI .i64 r.2.2)]) [some ⟨5, r.1.map (eI .u8)⟩] := by
  refine fn_ab Try.func12 rfl (by kernel_rfl) Try.ntmps12 (Nat.le_of_ble_eq_true rfl) rfl (fr := [(0, (.agg [(.row none 1 (b_Data.map (eI .u8))), (eI .i64 b_N)])), (1, (eI .u64 v)), (2, (eI .i64 vn))]) rfl ?_
  unfold bits_Append at hr
  refine AB.seq ?_
  refine AB.rw ?_
  refine wS (v := (.ptr 0 0)) (h' := [some ⟨24, [(.row none 1 (b_Data.map (eI .u8))), (eI .i64 b_N)]⟩]) (sv (d_box rfl rfl rfl rfl)) ?_
  refine wS (v := (.ptr 1 0)) (h' := [some ⟨24, [(.row none 1 (b_Data.map (eI .u8))), (eI .i64 b_N)]⟩, some ⟨24, [(.row (some true) 1 []), (eI .i64 0)]⟩]) (sv (d_alloc ti24 rfl rfl rfl)) ?_
  refine wS (v := (eI .i64 0)) (sv (d_assign rfl)) ?_
  refine OpsW.nil ?_
  refine Ex.then_mk ?_
  refine AB.seq ?_
  refine AB.seq ?_
  replace hr := bnd hr; obtain ⟨x10, h_1, hr⟩ := hr
  refine AB.rw ?_
  refine wS (v := (.agg [(.row none 1 (b_Data.map (eI .u8))), (eI .i64 b_N)])) (sv (d_load rfl (ldP rfl (partN (ds := [(.row none 1 (b_Data.map (eI .u8))), (eI .i64 b_N)]) ti24 rfl (Nat.le_of_ble_eq_true rfl) rfl)))) ?_
  refine wC (v := (eB x10)) (h' := [some ⟨24, [(.row none 1 (b_Data.map (eI .u8))), (eI .i64 b_N)]⟩, some ⟨24, [(.row (some true) 1 []), (eI .i64 0)]⟩]) rfl (Vm.Fn.pure (bits_Valid_ok N b_Data b_N x10 h_1) rfl rfl) ?_
  refine wS (v := (eB (!x10))) (sv (d_un rfl (un_not _ _))) ?_
  refine OpsW.nil ?_
  refine Ex.then_mk ?_
  refine AB.cnd rfl (fun h2 => ?_) (fun h2 => ?_)
  · replace hr := iteT hr h2
    refine AB.seq ?_
    refine AB.rw ?_
    refine wS (v := (.agg [(.row (some true) 1 []), (eI .i64 0)])) (sv (d_build rfl (bldS ti24 pl24 rfl))) ?_
    refine wN (h' := [some ⟨24, [(.row none 1 (b_Data.map (eI .u8))), (eI .i64 b_N)]⟩, some ⟨24, [(.row (some true) 1 []), (eI .i64 0)]⟩]) (sv (d_store rfl rfl (stP ti24 rfl rfl rfl (Nat.le_of_ble_eq_true rfl) rfl))) ?_
    refine wS (v := (eI .i64 6)) (sv (d_assign rfl)) ?_
    refine OpsW.nil ?_
    refine Ex.then_mk ?_
    refine AB.ret ?_
    refine Ex.then_ret_mk ?_
    obtain rfl := Option.some.inj hr
    exact done_ret (r1 := (.tup [(.agg [(.row (some true) 1 []), (eI .i64 0)]), (eI .i64 6)])) (res2 Try.results12 (rvC rfl (ldP rfl (partN (ds := [(.row (some true) 1 []), (eI .i64 0)]) ti24 rfl (Nat.le_of_ble_eq_true rfl) rfl))) (rvT rfl)) (Ghost.trans (Ghost.virt (fr' := [(0, (.tup [(.agg [(.sl 2 0 0 1 false), (eI .i64 0)]), (eI .i64 6)]))]) (h1 := [some ⟨24, [(.row none 1 (b_Data.map (eI .u8))), (eI .i64 b_N)]⟩, some ⟨24, [(.row (some true) 1 []), (eI .i64 0)]⟩]) 5 (FLe.le rfl (V.le_tup (V.les_cons (V.le_agg (V.les_cons (V.le_virt rfl) (V.les_cons (V.le_refl _ _) V.les_nil))) (V.les_cons (V.le_refl _ _) V.les_nil))) FLe.nil) (HLv.live (V.les_refl _ _) rfl (HLv.live (V.les_refl _ _) rfl HLv.nil))) (Ghost.rn [2] rfl rfl (FLe.le rfl (V.le_tup (V.les_cons (V.le_agg (V.les_cons (by first | exact V.le_refl _ _ | (simp only [len_set, len_cpy]; exact V.le_refl _ _)) (V.les_cons (V.le_refl _ _) V.les_nil))) (V.les_cons (V.le_refl _ _) V.les_nil))) FLe.nil) (HLe.live rfl V.les_nil rfl HLe.nil) rfl))
  · replace hr := iteF hr h2
    refine AB.skip ?_
    refine Ex.then_mk ?_
    refine AB.seq ?_
    refine AB.seq_g fun K1 hK1 hG1 => ?_
    have J1 : ∀ (x18 : Bool), bits_Append_J1 N b_Data b_N v vn x18 = some r → K1 (mkF 36 [(1, (eI .u64 v)), (2, (eI .i64 vn)), (3, (.ptr 0 0)), (6, (.ptr 1 0)), (18, (eB x18))]) [some ⟨24, [(.row none 1 (b_Data.map (eI .u8))), (eI .i64 b_N)]⟩, some ⟨24, [(.row (some true) 1 []), (eI .i64 0)]⟩] := by
      intro x18 hr
      unfold bits_Append_J1 at hr
      refine hK1 _ _ ?_
      refine AB.cnd rfl (fun h3 => ?_) (fun h3 => ?_)
      · replace hr := iteT hr h3
        refine AB.seq ?_
        refine AB.rw ?_
        refine wS (v := (.agg [(.row (some true) 1 []), (eI .i64 0)])) (sv (d_build rfl (bldS ti24 pl24 rfl))) ?_
        refine wN (h' := [some ⟨24, [(.row none 1 (b_Data.map (eI .u8))), (eI .i64 b_N)]⟩, some ⟨24, [(.row (some true) 1 []), (eI .i64 0)]⟩]) (sv (d_store rfl rfl (stP ti24 rfl rfl rfl (Nat.le_of_ble_eq_true rfl) rfl))) ?_
        refine wS (v := (eI .i64 5)) (sv (d_assign rfl)) ?_
        refine OpsW.nil ?_
        refine Ex.then_mk ?_
        refine AB.ret ?_
        refine Ex.then_ret_mk ?_
        obtain rfl := Option.some.inj hr
        exact done_ret (r1 := (.tup [(.agg [(.row (some true) 1 []), (eI .i64 0)]), (eI .i64 5)])) (res2 Try.results12 (rvC rfl (ldP rfl (partN (ds := [(.row (some true) 1 []), (eI .i64 0)]) ti24 rfl (Nat.le_of_ble_eq_true rfl) rfl))) (rvT rfl)) (Ghost.trans (Ghost.virt (fr' := [(0, (.tup [(.agg [(.sl 2 0 0 1 false), (eI .i64 0)]), (eI .i64 5)]))]) (h1 := [some ⟨24, [(.row none 1 (b_Data.map (eI .u8))), (eI .i64 b_N)]⟩, some ⟨24, [(.row (some true) 1 []), (eI .i64 0)]⟩]) 5 (FLe.le rfl (V.le_tup (V.les_cons (V.le_agg (V.les_cons (V.le_virt rfl) (V.les_cons (V.le_refl _ _) V.les_nil))) (V.les_cons (V.le_refl _ _) V.les_nil))) FLe.nil) (HLv.live (V.les_refl _ _) rfl (HLv.live (V.les_refl _ _) rfl HLv.nil))) (Ghost.rn [2] rfl rfl (FLe.le rfl (V.le_tup (V.les_cons (V.le_agg (V.les_cons (by first | exact V.le_refl _ _ | (simp only [len_set, len_cpy]; exact V.le_refl _ _)) (V.les_cons (V.le_refl _ _) V.les_nil))) (V.les_cons (V.le_refl _ _) V.les_nil))) FLe.nil) (HLe.live rfl V.les_nil rfl HLe.nil) rfl))
      · replace hr := iteF hr h3
        refine AB.skip ?_
        refine Ex.then_mk ?_
        refine AB.seq ?_
        refine AB.seq ?_
        refine AB.rw ?_
        refine wS (v := (.ptr 0 1)) (sv (d_fa rfl (fap24_1 ..))) ?_
        refine wS (v := (eI .i64 b_N)) (sv (d_load rfl (ldP rfl (part1 ti3 rfl rfl)))) ?_
        refine wS (v := (eI .i64 vn)) (sv (d_move rfl)) ?_
        refine wS (v := (eI .i64 (IntKind.i64.wrap (b_N + vn)))) (sv (d_bin rfl rfl (bin_add ..))) ?_
        refine wS (v := (eB (decide (1600000 < (IntKind.i64.wrap (b_N + vn)))))) (sv (d_bin rfl rfl (bin_gtr ..))) ?_
        refine OpsW.nil ?_
        refine Ex.then_mk ?_
        refine AB.cnd rfl (fun h4 => ?_) (fun h4 => ?_)
        · replace hr := iteT hr h4
          refine AB.seq ?_
          refine AB.rw ?_
          refine wS (v := (.agg [(.row (some true) 1 []), (eI .i64 0)])) (sv (d_build rfl (bldS ti24 pl24 rfl))) ?_
          refine wN (h' := [some ⟨24, [(.row none 1 (b_Data.map (eI .u8))), (eI .i64 b_N)]⟩, some ⟨24, [(.row (some true) 1 []), (eI .i64 0)]⟩]) (sv (d_store rfl rfl (stP ti24 rfl rfl rfl (Nat.le_of_ble_eq_true rfl) rfl))) ?_
          refine wS (v := (eI .i64 4)) (sv (d_assign rfl)) ?_
          refine OpsW.nil ?_
          refine Ex.then_mk ?_
          refine AB.ret ?_
          refine Ex.then_ret_mk ?_
          obtain rfl := Option.some.inj hr
          exact done_ret (r1 := (.tup [(.agg [(.row (some true) 1 []), (eI .i64 0)]), (eI .i64 4)])) (res2 Try.results12 (rvC rfl (ldP rfl (partN (ds := [(.row (some true) 1 []), (eI .i64 0)]) ti24 rfl (Nat.le_of_ble_eq_true rfl) rfl))) (rvT rfl)) (Ghost.trans (Ghost.virt (fr' := [(0, (.tup [(.agg [(.sl 2 0 0 1 false), (eI .i64 0)]), (eI .i64 4)]))]) (h1 := [some ⟨24, [(.row none 1 (b_Data.map (eI .u8))), (eI .i64 b_N)]⟩, some ⟨24, [(.row (some true) 1 []), (eI .i64 0)]⟩]) 5 (FLe.le rfl (V.le_tup (V.les_cons (V.le_agg (V.les_cons (V.le_virt rfl) (V.les_cons (V.le_refl _ _) V.les_nil))) (V.les_cons (V.le_refl _ _) V.les_nil))) FLe.nil) (HLv.live (V.les_refl _ _) rfl (HLv.live (V.les_refl _ _) rfl HLv.nil))) (Ghost.rn [2] rfl rfl (FLe.le rfl (V.le_tup (V.les_cons (V.le_agg (V.les_cons (by first | exact V.le_refl _ _ | (simp only [len_set, len_cpy]; exact V.le_refl _ _)) (V.les_cons (V.le_refl _ _) V.les_nil))) (V.les_cons (V.le_refl _ _) V.les_nil))) FLe.nil) (HLe.live rfl V.les_nil rfl HLe.nil) rfl))
        · replace hr := iteF hr h4
          refine AB.skip ?_
          refine Ex.then_mk ?_
          refine AB.seq ?_
          replace hr := bnd hr; obtain ⟨x27, h_5, hr⟩ := hr
          refine AB.rw ?_
          refine wS (v := (.agg [(.row none 1 (b_Data.map (eI .u8))), (eI .i64 b_N)])) (sv (d_load rfl (ldP rfl (partN (ds := [(.row none 1 (b_Data.map (eI .u8))), (eI .i64 b_N)]) ti24 rfl (Nat.le_of_ble_eq_true rfl) rfl)))) ?_
          refine wC (v := (.ptr 2 0)) (h' := [some ⟨24, [(.row none 1 (b_Data.map (eI .u8))), (eI .i64 b_N)]⟩, some ⟨24, [(.row (some true) 1 []), (eI .i64 0)]⟩, some ⟨45, [(.sl 3 0 x27.1.length 1 false), (eI .i64 x27.2)]⟩, some ⟨5, x27.1.map (eI .u8)⟩]) rfl (Vm.Fn.lendB (bits_begin_ok N b_Data b_N x27 h_5) [] (by decide) rfl Lend.nil rfl rfl (by simp only [lent, lendSet, lendSet_nil, rnH, Blk.rn, V.rns, V.rn, sg, List.map_cons, List.map_nil, Option.map_some, Option.map_none, List.drop_succ_cons, List.drop_zero, List.drop_nil, List.set_cons_zero, List.set_cons_succ, List.cons_append, List.nil_append, List.append_nil, rns_eI, rns_eB, rns_eS, rns_eL, List.getElem?_cons_zero, List.getElem?_cons_succ, List.getElem?_nil, List.length_cons, List.length_nil, Nat.reduceAdd, Nat.reduceSub, Nat.add_zero, Nat.zero_add, Nat.sub_self, Nat.sub_zero])) ?_
          refine wS (v := (.ptr 2 0)) (sv (d_assign rfl)) ?_
          refine OpsW.nil ?_
          refine Ex.then_mk ?_
          refine AB.seq ?_
          replace hr := bnd hr; obtain ⟨x31, h_6, hr⟩ := hr
          refine AB.rw ?_
          refine wS (v := (.ptr 2 0)) (sv (d_move rfl)) ?_
          refine wS (v := (eI .u64 v)) (sv (d_move rfl)) ?_
          refine wS (v := (eI .i64 vn)) (sv (d_move rfl)) ?_
          refine wC (v := (.tup [])) (h' := [some ⟨24, [(.row none 1 (b_Data.map (eI .u8))), (eI .i64 b_N)]⟩, some ⟨24, [(.row (some true) 1 []), (eI .i64 0)]⟩, some ⟨45, [(.sl 4 0 x31.1.length 1 false), (eI .i64 x31.2)]⟩, none, some ⟨5, x31.1.map (eI .u8)⟩]) rfl (Vm.Fn.lendB (bits_writer_number_ok N x27.1 x27.2 v vn x31 h_6) [2, 3] (by decide) rfl (Lend.cons rfl rfl (Lend.cons rfl (rns_map (fun _ => rfl) _) Lend.nil)) rfl rfl (by simp only [lent, lendSet, lendSet_nil, rnH, Blk.rn, V.rns, V.rn, sg, List.map_cons, List.map_nil, Option.map_some, Option.map_none, List.drop_succ_cons, List.drop_zero, List.drop_nil, List.set_cons_zero, List.set_cons_succ, List.cons_append, List.nil_append, List.append_nil, rns_eI, rns_eB, rns_eS, rns_eL, List.getElem?_cons_zero, List.getElem?_cons_succ, List.getElem?_nil, List.length_cons, List.length_nil, Nat.reduceAdd, Nat.reduceSub, Nat.add_zero, Nat.zero_add, Nat.sub_self, Nat.sub_zero])) ?_
          refine OpsW.nil ?_
          refine Ex.then_mk ?_
          refine AB.seq ?_
          refine AB.rw ?_
          refine wS (v := (.ptr 2 0)) (sv (d_move rfl)) ?_
          refine wS (v := (.ptr 2 0)) (sv (d_nilP rfl)) ?_
          refine wS (v := (.ptr 2 0)) (sv (d_fa rfl (fap45_0 ..))) ?_
          refine wS (v := (.agg [(.sl 4 0 x31.1.length 1 false), (eI .i64 x31.2)])) (sv (d_load rfl (ldP rfl (partN (ds := [(.sl 4 0 x31.1.length 1 false), (eI .i64 x31.2)]) ti24 rfl (Nat.le_of_ble_eq_true rfl) rfl)))) ?_
          refine wN (h' := [some ⟨24, [(.row none 1 (b_Data.map (eI .u8))), (eI .i64 b_N)]⟩, some ⟨24, [(.sl 4 0 x31.1.length 1 false), (eI .i64 x31.2)]⟩, some ⟨45, [(.sl 4 0 x31.1.length 1 false), (eI .i64 x31.2)]⟩, none, some ⟨5, x31.1.map (eI .u8)⟩]) (sv (d_store rfl rfl (stP ti24 rfl rfl rfl (Nat.le_of_ble_eq_true rfl) rfl))) ?_
          refine wS (v := (eI .i64 0)) (sv (d_assign rfl)) ?_
          refine OpsW.nil ?_
          refine Ex.then_mk ?_
          refine AB.ret ?_
          obtain rfl := Option.some.inj hr
          exact done_ret (r1 := (.tup [(.agg [(.sl 4 0 x31.1.length 1 false), (eI .i64 x31.2)]), (eI .i64 0)])) (res2 Try.results12 (rvC rfl (ldP rfl (partN (ds := [(.sl 4 0 x31.1.length 1 false), (eI .i64 x31.2)]) ti24 rfl (Nat.le_of_ble_eq_true rfl) rfl))) (rvT rfl)) (Ghost.rn [4] rfl rfl (FLe.same rfl FLe.nil) (HLe.live rfl (les_map (fun _ => rfl) _) (all_map (fun _ => rfl) _) HLe.nil) rfl)
    rcases Bool.eq_false_or_eq_true (decide (vn < 0)) with h7 | h7
    · replace hr := iteT hr h7
      refine AB.rw ?_
      refine wS (v := (eI .i64 vn)) (sv (d_move rfl)) ?_
      refine wS (v := (eB (decide (vn < 0)))) (sv (d_bin rfl rfl (bin_lss ..))) ?_
      refine wS (v := (eB (decide (vn < 0)))) (sv (d_move rfl)) ?_
      refine wS (svX rfl rfl h7) ?_
      refine wS (svX rfl rfl h7) ?_
      refine wS (v := (eB true)) (sv (d_pickT rfl h7 rfl)) ?_
      refine OpsW.nil ?_
      refine Ex.then_mk ?_
      exact hG1 _ _ _ _ (Ghost.rn [0, 1] rfl rfl (FLe.same rfl (FLe.same rfl (FLe.same rfl (FLe.same rfl (FLe.same rfl FLe.nil))))) (HLe.live rfl (V.les_refl _ _) rfl (HLe.live rfl (V.les_refl _ _) rfl HLe.nil)) rfl) (J1 true hr)
    · replace hr := iteF hr h7
      refine AB.rw ?_
      refine wS (v := (eI .i64 vn)) (sv (d_move rfl)) ?_
      refine wS (v := (eB (decide (vn < 0)))) (sv (d_bin rfl rfl (bin_lss ..))) ?_
      refine wS (v := (eB (decide (vn < 0)))) (sv (d_move rfl)) ?_
      refine wS (v := (eI .i64 vn)) (svG rfl rfl h7 (d_move rfl)) ?_
      refine wS (v := (eB (decide (64 < vn)))) (svG rfl rfl h7 (d_bin rfl rfl (bin_gtr ..))) ?_
      refine wS (v := (eB (decide (64 < vn)))) (sv (d_pickF rfl h7 rfl)) ?_
      refine OpsW.nil ?_
      refine Ex.then_mk ?_
      exact hG1 _ _ _ _ (Ghost.rn [0, 1] rfl rfl (FLe.same rfl (FLe.same rfl (FLe.same rfl (FLe.same rfl (FLe.same rfl FLe.nil))))) (HLe.live rfl (V.les_refl _ _) rfl (HLe.live rfl (V.les_refl _ _) rfl HLe.nil)) rfl) (J1 (decide (64 < vn)) hr)
set_option maxRecDepth 20000 in
set_option maxHeartbeats 1000000 in
theorem bits_AppendRice_ok (N : Nat) (b_Data : List Int) (b_N : Int) (v : Int) (p : Int) (r : (List Int) × Int × Int) (hr : bits_AppendRice N b_Data b_N v p = some r) :
    Vm.Fn Try.prog 17 [] [(.agg [(.row none 1 (b_Data.map (eI .u8))), (eI .i64 b_N)]), (eI .u64 v), (eI .i64 p)] (.tup [(.agg [(.sl 0 0 r.1.length 1 false), (eI .i64 r.2.1)]), (eI .i64 r.2.2)]) [some ⟨5, r.1.map (eI .u8)⟩] := by
  refine fn_ab Try.func17 rfl (by kernel_rfl) Try.ntmps17 (Nat.le_of_ble_eq_true rfl) rfl (fr := [(0, (.agg [(.row none 1 (b_Data.map (eI .u8))), (eI .i64 b_N)])), (1, (eI .u64 v)), (2, (eI .i64 p))]) rfl ?_
  unfold bits_AppendRice at hr
  refine AB.seq ?_
  refine AB.rw ?_
  refine wS (v := (.ptr 0 0)) (h' := [some ⟨24, [(.row none 1 (b_Data.map (eI .u8))), (eI .i64 b_N)]⟩]) (sv (d_box rfl rfl rfl rfl)) ?_
  refine wS (v := (.ptr 1 0)) (h' := [some ⟨24, [(.row none 1 (b_Data.map (eI .u8))), (eI .i64 b_N)]⟩, some ⟨24, [(.row (some true) 1 []), (eI .i64 0)]⟩]) (sv (d_alloc ti24 rfl rfl rfl)) ?_
  refine wS (v := (eI .i64 0)) (sv (d_assign rfl)) ?_
  refine OpsW.nil ?_
  refine Ex.then_mk ?_
  refine AB.seq ?_
  refine AB.seq ?_
  replace hr := bnd hr; obtain ⟨x11, h_1, hr⟩ := hr
  refine AB.rw ?_
  refine wS (v := (.agg [(.row none 1 (b_Data.map (eI .u8))), (eI .i64 b_N)])) (sv (d_load rfl (ldP rfl (partN (ds := [(.row none 1 (b_Data.map (eI .u8))), (eI .i64 b_N)]) ti24 rfl (Nat.le_of_ble_eq_true rfl) rfl)))) ?_
  refine wC (v := (eB x11)) (h' := [some ⟨24, [(.row none 1 (b_Data.map (eI .u8))), (eI .i64 b_N)]⟩, some ⟨24, [(.row (some true) 1 []), (eI .i64 0)]⟩]) rfl (Vm.Fn.pure (bits_Valid_ok N b_Data b_N x11 h_1) rfl rfl) ?_
  refine wS (v := (eB (!x11))) (sv (d_un rfl (un_not _ _))) ?_
  refine OpsW.nil ?_
  refine Ex.then_mk ?_
  refine AB.cnd rfl (fun h2 => ?_) (fun h2 => ?_)
  · replace hr := iteT hr h2
    refine AB.seq ?_
    refine AB.rw ?_
    refine wS (v := (.agg [(.row (some true) 1 []), (eI .i64 0)])) (sv (d_build rfl (bldS ti24 pl24 rfl))) ?_
    refine wN (h' := [some ⟨24, [(.row none 1 (b_Data.map (eI .u8))), (eI .i64 b_N)]⟩, some ⟨24, [(.row (some true) 1 []), (eI .i64 0)]⟩]) (sv (d_store rfl rfl (stP ti24 rfl rfl rfl (Nat.le_of_ble_eq_true rfl) rfl))) ?_
    refine wS (v := (eI .i64 6)) (sv (d_assign rfl)) ?_
    refine OpsW.nil ?_
    refine Ex.then_mk ?_
    refine AB.ret ?_
    refine Ex.then_ret_mk ?_
    obtain rfl := Option.some.inj hr
    exact done_ret (r1 := (.tup [(.agg [(.row (some true) 1 []), (eI .i64 0)]), (eI .i64 6)])) (res2 Try.results17 (rvC rfl (ldP rfl (partN (ds := [(.row (some true) 1 []), (eI .i64 0)]) ti24 rfl (Nat.le_of_ble_eq_true rfl) rfl))) (rvT rfl)) (Ghost.trans (Ghost.virt (fr' := [(0, (.tup [(.agg [(.sl 2 0 0 1 false), (eI .i64 0)]), (eI .i64 6)]))]) (h1 := [some ⟨24, [(.row none 1 (b_Data.map (eI .u8))), (eI .i64 b_N)]⟩, some ⟨24, [(.row (some true) 1 []), (eI .i64 0)]⟩]) 5 (FLe.le rfl (V.le_tup (V.les_cons (V.le_agg (V.les_cons (V.le_virt rfl) (V.les_cons (V.le_refl _ _) V.les_nil))) (V.les_cons (V.le_refl _ _) V.les_nil))) FLe.nil) (HLv.live (V.les_refl _ _) rfl (HLv.live (V.les_refl _ _) rfl HLv.nil))) (Ghost.rn [2] rfl rfl (FLe.le rfl (V.le_tup (V.les_cons (V.le_agg (V.les_cons (by first | exact V.le_refl _ _ | (simp only [len_set, len_cpy]; exact V.le_refl _ _)) (V.les_cons (V.le_refl _ _) V.les_nil))) (V.les_cons (V.le_refl _ _) V.les_nil))) FLe.nil) (HLe.live rfl V.les_nil rfl HLe.nil) rfl))
  · replace hr := iteF hr h2
    refine AB.skip ?_
    refine Ex.then_mk ?_
    refine AB.seq ?_
    refine AB.seq_g fun K1 hK1 hG1 => ?_
    have J1 : ∀ (x19 : Bool), bits_AppendRice_J1 N b_Data b_N v p x19 = some r → K1 (mkF 56 [(1, (eI .u64 v)), (2, (eI .i64 p)), (3, (.ptr 0 0)), (6, (.ptr 1 0)), (19, (eB x19))]) [some ⟨24, [(.row none 1 (b_Data.map (eI .u8))), (eI .i64 b_N)]⟩, some ⟨24, [(.row (some true) 1 []), (eI .i64 0)]⟩] := by
      intro x19 hr
      unfold bits_AppendRice_J1 at hr
      refine hK1 _ _ ?_
      refine AB.cnd rfl (fun h3 => ?_) (fun h3 => ?_)
      · replace hr := iteT hr h3
        refine AB.seq ?_
        refine AB.rw ?_
        refine wS (v := (.agg [(.row (some true) 1 []), (eI .i64 0)])) (sv (d_build rfl (bldS ti24 pl24 rfl))) ?_
        refine wN (h' := [some ⟨24, [(.row none 1 (b_Data.map (eI .u8))), (eI .i64 b_N)]⟩, some ⟨24, [(.row (some true) 1 []), (eI .i64 0)]⟩]) (sv (d_store rfl rfl (stP ti24 rfl rfl rfl (Nat.le_of_ble_eq_true rfl) rfl))) ?_
        refine wS (v := (eI .i64 5)) (sv (d_assign rfl)) ?_
        refine OpsW.nil ?_
        refine Ex.then_mk ?_
        refine AB.ret ?_
        refine Ex.then_ret_mk ?_
        obtain rfl := Option.some.inj hr
        exact done_ret (r1 := (.tup [(.agg [(.row (some true) 1 []), (eI .i64 0)]), (eI .i64 5)])) (res2 Try.results17 (rvC rfl (ldP rfl (partN (ds := [(.row (some true) 1 []), (eI .i64 0)]) ti24 rfl (Nat.le_of_ble_eq_true rfl) rfl))) (rvT rfl)) (Ghost.trans (Ghost.virt (fr' := [(0, (.tup [(.agg [(.sl 2 0 0 1 false), (eI .i64 0)]), (eI .i64 5)]))]) (h1 := [some ⟨24, [(.row none 1 (b_Data.map (eI .u8))), (eI .i64 b_N)]⟩, some ⟨24, [(.row (some true) 1 []), (eI .i64 0)]⟩]) 5 (FLe.le rfl (V.le_tup (V.les_cons (V.le_agg (V.les_cons (V.le_virt rfl) (V.les_cons (V.le_refl _ _) V.les_nil))) (V.les_cons (V.le_refl _ _) V.les_nil))) FLe.nil) (HLv.live (V.les_refl _ _) rfl (HLv.live (V.les_refl _ _) rfl HLv.nil))) (Ghost.rn [2] rfl rfl (FLe.le rfl (V.le_tup (V.les_cons (V.le_agg (V.les_cons (by first | exact V.le_refl _ _ | (simp only [len_set, len_cpy]; exact V.le_refl _ _)) (V.les_cons (V.le_refl _ _) V.les_nil))) (V.les_cons (V.le_refl _ _) V.les_nil))) FLe.nil) (HLe.live rfl V.les_nil rfl HLe.nil) rfl))
      · replace hr := iteF hr h3
        refine AB.skip ?_
        refine Ex.then_mk ?_
        refine AB.seq ?_
        replace hr := bnd hr; obtain ⟨x23, h_4, hr⟩ := hr
        refine AB.rw ?_
        refine wS (v := (eI .u64 v)) (sv (d_move rfl)) ?_
        refine wS (v := (eI .i64 p)) (sv (d_move rfl)) ?_
        refine wS (v := (eI .u64 x23)) (sv (d_bin rfl rfl (bin_shr' _ _ _ _ h_4))) ?_
        refine wS (v := (eI .u64 x23)) (sv (d_assign rfl)) ?_
        refine OpsW.nil ?_
        refine Ex.then_mk ?_
        refine AB.seq ?_
        refine AB.seq_g fun K2 hK2 hG2 => ?_
        have J2 : ∀ (x36 : Bool), bits_AppendRice_J2 N b_Data b_N v p x23 x36 = some r → K2 (mkF 56 [(1, (eI .u64 v)), (2, (eI .i64 p)), (3, (.ptr 0 0)), (6, (.ptr 1 0)), (8, (eI .u64 x23)), (36, (eB x36))]) [some ⟨24, [(.row none 1 (b_Data.map (eI .u8))), (eI .i64 b_N)]⟩, some ⟨24, [(.row (some true) 1 []), (eI .i64 0)]⟩] := by
          intro x36 hr
          unfold bits_AppendRice_J2 at hr
          refine hK2 _ _ ?_
          refine AB.cnd rfl (fun h5 => ?_) (fun h5 => ?_)
          · replace hr := iteT hr h5
            refine AB.seq ?_
            refine AB.rw ?_
            refine wS (v := (.agg [(.row (some true) 1 []), (eI .i64 0)])) (sv (d_build rfl (bldS ti24 pl24 rfl))) ?_
            refine wN (h' := [some ⟨24, [(.row none 1 (b_Data.map (eI .u8))), (eI .i64 b_N)]⟩, some ⟨24, [(.row (some true) 1 []), (eI .i64 0)]⟩]) (sv (d_store rfl rfl (stP ti24 rfl rfl rfl (Nat.le_of_ble_eq_true rfl) rfl))) ?_
            refine wS (v := (eI .i64 4)) (sv (d_assign rfl)) ?_
            refine OpsW.nil ?_
            refine Ex.then_mk ?_
            refine AB.ret ?_
            refine Ex.then_ret_mk ?_
            obtain rfl := Option.some.inj hr
            exact done_ret (r1 := (.tup [(.agg [(.row (some true) 1 []), (eI .i64 0)]), (eI .i64 4)])) (res2 Try.results17 (rvC rfl (ldP rfl (partN (ds := [(.row (some true) 1 []), (eI .i64 0)]) ti24 rfl (Nat.le_of_ble_eq_true rfl) rfl))) (rvT rfl)) (Ghost.trans (Ghost.virt (fr' := [(0, (.tup [(.agg [(.sl 2 0 0 1 false), (eI .i64 0)]), (eI .i64 4)]))]) (h1 := [some ⟨24, [(.row none 1 (b_Data.map (eI .u8))), (eI .i64 b_N)]⟩, some ⟨24, [(.row (some true) 1 []), (eI .i64 0)]⟩]) 5 (FLe.le rfl (V.le_tup (V.les_cons (V.le_agg (V.les_cons (V.le_virt rfl) (V.les_cons (V.le_refl _ _) V.les_nil))) (V.les_cons (V.le_refl _ _) V.les_nil))) FLe.nil) (HLv.live (V.les_refl _ _) rfl (HLv.live (V.les_refl _ _) rfl HLv.nil))) (Ghost.rn [2] rfl rfl (FLe.le rfl (V.le_tup (V.les_cons (V.le_agg (V.les_cons (by first | exact V.le_refl _ _ | (simp only [len_set, len_cpy]; exact V.le_refl _ _)) (V.les_cons (V.le_refl _ _) V.les_nil))) (V.les_cons (V.le_refl _ _) V.les_nil))) FLe.nil) (HLe.live rfl V.les_nil rfl HLe.nil) rfl))
          · replace hr := iteF hr h5
            refine AB.skip ?_
            refine Ex.then_mk ?_
            refine AB.seq ?_
            replace hr := bnd hr; obtain ⟨x39, h_6, hr⟩ := hr
            refine AB.rw ?_
            refine wS (v := (.agg [(.row none 1 (b_Data.map (eI .u8))), (eI .i64 b_N)])) (sv (d_load rfl (ldP rfl (partN (ds := [(.row none 1 (b_Data.map (eI .u8))), (eI .i64 b_N)]) ti24 rfl (Nat.le_of_ble_eq_true rfl) rfl)))) ?_
            refine wC (v := (.ptr 2 0)) (h' := [some ⟨24, [(.row none 1 (b_Data.map (eI .u8))), (eI .i64 b_N)]⟩, some ⟨24, [(.row (some true) 1 []), (eI .i64 0)]⟩, some ⟨45, [(.sl 3 0 x39.1.length 1 false), (eI .i64 x39.2)]⟩, some ⟨5, x39.1.map (eI .u8)⟩]) rfl (Vm.Fn.lendB (bits_begin_ok N b_Data b_N x39 h_6) [] (by decide) rfl Lend.nil rfl rfl (by simp only [lent, lendSet, lendSet_nil, rnH, Blk.rn, V.rns, V.rn, sg, List.map_cons, List.map_nil, Option.map_some, Option.map_none, List.drop_succ_cons, List.drop_zero, List.drop_nil, List.set_cons_zero, List.set_cons_succ, List.cons_append, List.nil_append, List.append_nil, rns_eI, rns_eB, rns_eS, rns_eL, List.getElem?_cons_zero, List.getElem?_cons_succ, List.getElem?_nil, List.length_cons, List.length_nil, Nat.reduceAdd, Nat.reduceSub, Nat.add_zero, Nat.zero_add, Nat.sub_self, Nat.sub_zero])) ?_
            refine wS (v := (.ptr 2 0)) (sv (d_assign rfl)) ?_
            refine OpsW.nil ?_
            refine Ex.then_mk ?_
            refine AB.seq_g fun K3 hK3 hG3 => ?_
            have J3 : ∀ (c1 : Int) (l2 : List Int), bits_AppendRice_J3 N v p c1 l2 = some r → K3 (mkF 56 [(1, (eI .u64 v)), (2, (eI .i64 p)), (6, (.ptr 0 0)), (9, (.ptr 1 0))]) [some ⟨24, [(.row (some true) 1 []), (eI .i64 0)]⟩, some ⟨45, [(.sl 2 0 l2.length 1 false), (eI .i64 c1)]⟩, some ⟨5, l2.map (eI .u8)⟩] := by
              intro c1 l2 hr
              unfold bits_AppendRice_J3 at hr
              refine hK3 _ _ ?_
              refine AB.seq ?_
              replace hr := bnd hr; obtain ⟨x47, h_7, hr⟩ := hr
              refine AB.rw ?_
              refine wS (v := (.ptr 1 0)) (sv (d_move rfl)) ?_
              refine wC (v := (.tup [])) (h' := [some ⟨24, [(.row (some true) 1 []), (eI .i64 0)]⟩, some ⟨45, [(.sl 3 0 x47.1.length 1 false), (eI .i64 x47.2)]⟩, none, some ⟨5, x47.1.map (eI .u8)⟩]) rfl (Vm.Fn.lendB (bits_writer_put_ok N l2 c1 false x47 h_7) [1, 2] (by decide) rfl (Lend.cons rfl rfl (Lend.cons rfl (rns_map (fun _ => rfl) _) Lend.nil)) rfl rfl (by simp only [lent, lendSet, lendSet_nil, rnH, Blk.rn, V.rns, V.rn, sg, List.map_cons, List.map_nil, Option.map_some, Option.map_none, List.drop_succ_cons, List.drop_zero, List.drop_nil, List.set_cons_zero, List.set_cons_succ, List.cons_append, List.nil_append, List.append_nil, rns_eI, rns_eB, rns_eS, rns_eL, List.getElem?_cons_zero, List.getElem?_cons_succ, List.getElem?_nil, List.length_cons, List.length_nil, Nat.reduceAdd, Nat.reduceSub, Nat.add_zero, Nat.zero_add, Nat.sub_self, Nat.sub_zero])) ?_
              refine OpsW.nil ?_
              refine Ex.then_mk ?_
              refine AB.seq ?_
              replace hr := bnd hr; obtain ⟨x51, h_8, hr⟩ := hr
              refine AB.rw ?_
              refine wS (v := (.ptr 1 0)) (sv (d_move rfl)) ?_
              refine wS (v := (eI .u64 v)) (sv (d_move rfl)) ?_
              refine wS (v := (eI .i64 p)) (sv (d_move rfl)) ?_
              refine wC (v := (.tup [])) (h' := [some ⟨24, [(.row (some true) 1 []), (eI .i64 0)]⟩, some ⟨45, [(.sl 4 0 x51.1.length 1 false), (eI .i64 x51.2)]⟩, none, none, some ⟨5, x51.1.map (eI .u8)⟩]) rfl (Vm.Fn.lendB (bits_writer_number_ok N x47.1 x47.2 v p x51 h_8) [1, 3] (by decide) rfl (Lend.cons rfl rfl (Lend.cons rfl (rns_map (fun _ => rfl) _) Lend.nil)) rfl rfl (by simp only [lent, lendSet, lendSet_nil, rnH, Blk.rn, V.rns, V.rn, sg, List.map_cons, List.map_nil, Option.map_some, Option.map_none, List.drop_succ_cons, List.drop_zero, List.drop_nil, List.set_cons_zero, List.set_cons_succ, List.cons_append, List.nil_append, List.append_nil, rns_eI, rns_eB, rns_eS, rns_eL, List.getElem?_cons_zero, List.getElem?_cons_succ, List.getElem?_nil, List.length_cons, List.length_nil, Nat.reduceAdd, Nat.reduceSub, Nat.add_zero, Nat.zero_add, Nat.sub_self, Nat.sub_zero])) ?_
              refine OpsW.nil ?_
              refine Ex.then_mk ?_
              refine AB.seq ?_
              refine AB.rw ?_
              refine wS (v := (.ptr 1 0)) (sv (d_move rfl)) ?_
              refine wS (v := (.ptr 1 0)) (sv (d_nilP rfl)) ?_
              refine wS (v := (.ptr 1 0)) (sv (d_fa rfl (fap45_0 ..))) ?_
              refine wS (v := (.agg [(.sl 4 0 x51.1.length 1 false), (eI .i64 x51.2)])) (sv (d_load rfl (ldP rfl (partN (ds := [(.sl 4 0 x51.1.length 1 false), (eI .i64 x51.2)]) ti24 rfl (Nat.le_of_ble_eq_true rfl) rfl)))) ?_
              refine wN (h' := [some ⟨24, [(.sl 4 0 x51.1.length 1 false), (eI .i64 x51.2)]⟩, some ⟨45, [(.sl 4 0 x51.1.length 1 false), (eI .i64 x51.2)]⟩, none, none, some ⟨5, x51.1.map (eI .u8)⟩]) (sv (d_store rfl rfl (stP ti24 rfl rfl rfl (Nat.le_of_ble_eq_true rfl) rfl))) ?_
              refine wS (v := (eI .i64 0)) (sv (d_assign rfl)) ?_
              refine OpsW.nil ?_
              refine Ex.then_mk ?_
              refine AB.ret ?_
              obtain rfl := Option.some.inj hr
              exact done_ret (r1 := (.tup [(.agg [(.sl 4 0 x51.1.length 1 false), (eI .i64 x51.2)]), (eI .i64 0)])) (res2 Try.results17 (rvC rfl (ldP rfl (partN (ds := [(.sl 4 0 x51.1.length 1 false), (eI .i64 x51.2)]) ti24 rfl (Nat.le_of_ble_eq_true rfl) rfl))) (rvT rfl)) (Ghost.rn [4] rfl rfl (FLe.same rfl FLe.nil) (HLe.live rfl (les_map (fun _ => rfl) _) (all_map (fun _ => rfl) _) HLe.nil) rfl)
            refine AB.seq ?_
            refine AB.rw ?_
            refine wS (v := (eI .u64 x23)) (sv (d_move rfl)) ?_
            refine wS (v := (eI .u64 0)) (sv (d_move rfl)) ?_
            refine OpsW.nil ?_
            refine Ex.then_mk ?_
            replace hr := bnd hr; obtain ⟨res4, hL4, hr⟩ := hr
            refine AB.block ?_
            refine AB.loopN (fun m s h => ∃ (x41 : Int) (c1_1 : Int) (l2_1 : List Int), bits_AppendRice_L4 N v p x23 m x41 c1_1 l2_1 = some res4 ∧ Ghost 0 s h (mkF 56 [(1, (eI .u64 v)), (2, (eI .i64 p)), (6, (.ptr 0 0)), (9, (.ptr 1 0)), (40, (eI .u64 x23)), (41, (eI .u64 x41))]) [some ⟨24, [(.row (some true) 1 []), (eI .i64 0)]⟩, some ⟨45, [(.sl 2 0 l2_1.length 1 false), (eI .i64 c1_1)]⟩, some ⟨5, l2_1.map (eI .u8)⟩]) (n := N) ⟨0, x39.2, x39.1, hL4, (Ghost.rn [1, 2, 3] rfl rfl (FLe.same rfl (FLe.same rfl (FLe.same rfl (FLe.same rfl (FLe.same rfl (FLe.same rfl FLe.nil)))))) (HLe.live rfl (V.les_refl _ _) rfl (HLe.live rfl (V.les_refl _ _) rfl (HLe.live rfl (les_map (fun _ => rfl) _) (all_map (fun _ => rfl) _) HLe.nil))) rfl)⟩ (by rintro s h ⟨_, _, _, h0, _⟩; simp [bits_AppendRice_L4] at h0) ?_
            rintro m4 s h ⟨x41, c1_1, l2_1, hr4, hg⟩
            refine AB.ghost hg ?_
            clear hg hL4
            rw [bits_AppendRice_L4] at hr4
            refine AB.seq ?_
            refine AB.rw ?_
            refine wS (v := (eB (decide (x41 < x23)))) (sv (d_bin rfl rfl (bin_lss ..))) ?_
            refine OpsW.nil ?_
            refine Ex.then_mk ?_
            refine AB.seq ?_
            refine AB.cnd rfl (fun h9 => ?_) (fun h9 => ?_)
            · replace hr4 := iteT hr4 h9
              refine AB.skip ?_
              refine Ex.then_mk ?_
              refine AB.seq ?_
              refine AB.block ?_
              replace hr4 := bnd hr4; obtain ⟨x44, h_10, hr4⟩ := hr4
              refine AB.rw ?_
              refine wS (v := (.ptr 1 0)) (sv (d_move rfl)) ?_
              refine wC (v := (.tup [])) (h' := [some ⟨24, [(.row (some true) 1 []), (eI .i64 0)]⟩, some ⟨45, [(.sl 3 0 x44.1.length 1 false), (eI .i64 x44.2)]⟩, none, some ⟨5, x44.1.map (eI .u8)⟩]) rfl (Vm.Fn.lendB (bits_writer_put_ok N l2_1 c1_1 true x44 h_10) [1, 2] (by decide) rfl (Lend.cons rfl rfl (Lend.cons rfl (rns_map (fun _ => rfl) _) Lend.nil)) rfl rfl (by simp only [lent, lendSet, lendSet_nil, rnH, Blk.rn, V.rns, V.rn, sg, List.map_cons, List.map_nil, Option.map_some, Option.map_none, List.drop_succ_cons, List.drop_zero, List.drop_nil, List.set_cons_zero, List.set_cons_succ, List.cons_append, List.nil_append, List.append_nil, rns_eI, rns_eB, rns_eS, rns_eL, List.getElem?_cons_zero, List.getElem?_cons_succ, List.getElem?_nil, List.length_cons, List.length_nil, Nat.reduceAdd, Nat.reduceSub, Nat.add_zero, Nat.zero_add, Nat.sub_self, Nat.sub_zero])) ?_
              refine OpsW.nil ?_
              refine Ex.inBlock_mk ?_
              refine Ex.then_mk ?_
              refine AB.rw ?_
              refine wS (v := (eI .u64 (IntKind.u64.wrap (x41 + 1)))) (sv (d_bin rfl rfl (bin_add ..))) ?_
              refine wS (v := (eI .u64 (IntKind.u64.wrap (x41 + 1)))) (sv (d_move rfl)) ?_
              refine OpsW.nil ?_
              refine Ex.then_mk ?_
              exact ⟨IntKind.u64.wrap (x41 + 1), x44.2, x44.1, hr4, (Ghost.rn [0, 1, 3] rfl rfl (FLe.same rfl (FLe.same rfl (FLe.same rfl (FLe.same rfl (FLe.same rfl (FLe.same rfl FLe.nil)))))) (HLe.live rfl (V.les_refl _ _) rfl (HLe.live rfl (V.les_refl _ _) rfl (HLe.live rfl (les_map (fun _ => rfl) _) (all_map (fun _ => rfl) _) HLe.nil))) rfl)⟩
            · replace hr4 := iteF hr4 h9
              refine AB.exit ?_
              refine Ex.then_exit_mk ?_
              refine Ex.then_exit_mk ?_
              refine Ex.inBlock_same_mk ?_
              obtain rfl := Option.some.inj hr4
              refine Ex.then_mk ?_
              exact hG3 _ _ _ _ (Ghost.rn [0, 1, 2] rfl rfl (FLe.same rfl (FLe.same rfl (FLe.same rfl (FLe.same rfl FLe.nil)))) (HLe.live rfl (V.les_refl _ _) rfl (HLe.live rfl (V.les_refl _ _) rfl (HLe.live rfl (les_map (fun _ => rfl) _) (all_map (fun _ => rfl) _) HLe.nil))) rfl) (J3 c1_1 l2_1 hr)
        rcases Bool.eq_false_or_eq_true (decide (65536 < x23)) with h11 | h11
        · replace hr := iteT hr h11
          refine AB.rw ?_
          refine wS (v := (eI .u64 x23)) (sv (d_move rfl)) ?_
          refine wS (v := (eB (decide (65536 < x23)))) (sv (d_bin rfl rfl (bin_gtr ..))) ?_
          refine wS (v := (eB (decide (65536 < x23)))) (sv (d_move rfl)) ?_
          refine wS (svX rfl rfl h11) ?_
          refine wS (svX rfl rfl h11) ?_
          refine wS (svX rfl rfl h11) ?_
          refine wS (svX rfl rfl h11) ?_
          refine wS (svX rfl rfl h11) ?_
          refine wS (svX rfl rfl h11) ?_
          refine wS (svX rfl rfl h11) ?_
          refine wS (svX rfl rfl h11) ?_
          refine wS (svX rfl rfl h11) ?_
          refine wS (v := (eB true)) (sv (d_pickT rfl h11 rfl)) ?_
          refine OpsW.nil ?_
          refine Ex.then_mk ?_
          exact hG2 _ _ _ _ (Ghost.rn [0, 1] rfl rfl (FLe.same rfl (FLe.same rfl (FLe.same rfl (FLe.same rfl (FLe.same rfl (FLe.same rfl FLe.nil)))))) (HLe.live rfl (V.les_refl _ _) rfl (HLe.live rfl (V.les_refl _ _) rfl HLe.nil)) rfl) (J2 true hr)
        · replace hr := iteF hr h11
          refine AB.rw ?_
          refine wS (v := (eI .u64 x23)) (sv (d_move rfl)) ?_
          refine wS (v := (eB (decide (65536 < x23)))) (sv (d_bin rfl rfl (bin_gtr ..))) ?_
          refine wS (v := (eB (decide (65536 < x23)))) (sv (d_move rfl)) ?_
          refine wS (v := (.ptr 0 1)) (svG rfl rfl h11 (d_fa rfl (fap24_1 ..))) ?_
          refine wS (v := (eI .i64 b_N)) (svG rfl rfl h11 (d_load rfl (ldP rfl (part1 ti3 rfl rfl)))) ?_
          refine wS (v := (eI .u64 x23)) (svG rfl rfl h11 (d_move rfl)) ?_
          refine wS (v := (eI .i64 (IntKind.i64.wrap x23))) (svG rfl rfl h11 (d_conv rfl (conv_int _ ⟨_, ti25⟩ ti3 rfl))) ?_
          refine wS (v := (eI .i64 (IntKind.i64.wrap (b_N + (IntKind.i64.wrap x23))))) (svG rfl rfl h11 (d_bin rfl rfl (bin_add ..))) ?_
          refine wS (v := (eI .i64 (IntKind.i64.wrap ((IntKind.i64.wrap (b_N + (IntKind.i64.wrap x23))) + 1)))) (svG rfl rfl h11 (d_bin rfl rfl (bin_add ..))) ?_
          refine wS (v := (eI .i64 p)) (svG rfl rfl h11 (d_move rfl)) ?_
          refine wS (v := (eI .i64 (IntKind.i64.wrap ((IntKind.i64.wrap ((IntKind.i64.wrap (b_N + (IntKind.i64.wrap x23))) + 1)) + p)))) (svG rfl rfl h11 (d_bin rfl rfl (bin_add ..))) ?_
          refine wS (v := (eB (decide (1600000 < (IntKind.i64.wrap ((IntKind.i64.wrap ((IntKind.i64.wrap (b_N + (IntKind.i64.wrap x23))) + 1)) + p)))))) (svG rfl rfl h11 (d_bin rfl rfl (bin_gtr ..))) ?_
          refine wS (v := (eB (decide (1600000 < (IntKind.i64.wrap ((IntKind.i64.wrap ((IntKind.i64.wrap (b_N + (IntKind.i64.wrap x23))) + 1)) + p)))))) (sv (d_pickF rfl h11 rfl)) ?_
          refine OpsW.nil ?_
          refine Ex.then_mk ?_
          exact hG2 _ _ _ _ (Ghost.rn [0, 1] rfl rfl (FLe.same rfl (FLe.same rfl (FLe.same rfl (FLe.same rfl (FLe.same rfl (FLe.same rfl FLe.nil)))))) (HLe.live rfl (V.les_refl _ _) rfl (HLe.live rfl (V.les_refl _ _) rfl HLe.nil)) rfl) (J2 (decide (1600000 < (IntKind.i64.wrap ((IntKind.i64.wrap ((IntKind.i64.wrap (b_N + (IntKind.i64.wrap x23))) + 1)) + p)))) hr)
    rcases Bool.eq_false_or_eq_true (decide (p < 0)) with h12 | h12
    · replace hr := iteT hr h12
      refine AB.rw ?_
      refine wS (v := (eI .i64 p)) (sv (d_move rfl)) ?_
      refine wS (v := (eB (decide (p < 0)))) (sv (d_bin rfl rfl (bin_lss ..))) ?_
      refine wS (v := (eB (decide (p < 0)))) (sv (d_move rfl)) ?_
      refine wS (svX rfl rfl h12) ?_
      refine wS (svX rfl rfl h12) ?_
      refine wS (v := (eB true)) (sv (d_pickT rfl h12 rfl)) ?_
      refine OpsW.nil ?_
      refine Ex.then_mk ?_
      exact hG1 _ _ _ _ (Ghost.rn [0, 1] rfl rfl (FLe.same rfl (FLe.same rfl (FLe.same rfl (FLe.same rfl (FLe.same rfl FLe.nil))))) (HLe.live rfl (V.les_refl _ _) rfl (HLe.live rfl (V.les_refl _ _) rfl HLe.nil)) rfl) (J1 true hr)
    · replace hr := iteF hr h12
      refine AB.rw ?_
      refine wS (v := (eI .i64 p)) (sv (d_move rfl)) ?_
      refine wS (v := (eB (decide (p < 0)))) (sv (d_bin rfl rfl (bin_lss ..))) ?_
      refine wS (v := (eB (decide (p < 0)))) (sv (d_move rfl)) ?_
      refine wS (v := (eI .i64 p)) (svG rfl rfl h12 (d_move rfl)) ?_
      refine wS (v := (eB (decide (32 < p)))) (svG rfl rfl h12 (d_bin rfl rfl (bin_gtr ..))) ?_
      refine wS (v := (eB (decide (32 < p)))) (sv (d_pickF rfl h12 rfl)) ?_
      refine OpsW.nil ?_
      refine Ex.then_mk ?_
      exact hG1 _ _ _ _ (Ghost.rn [0, 1] rfl rfl (FLe.same rfl (FLe.same rfl (FLe.same rfl (FLe.same rfl (FLe.same rfl FLe.nil))))) (HLe.live rfl (V.les_refl _ _) rfl (HLe.live rfl (V.les_refl _ _) rfl HLe.nil)) rfl) (J1 (decide (32 < p)) hr)
set_option maxRecDepth 20000 in
set_option maxHeartbeats 1000000 in
theorem law18_sane_ok (N : Nat) (r : Bool) (hr : law18_sane N = some r) :
    Vm.Fn Try.prog 10 [] [] (eB r) [] := by
  refine fn_ab Try.func10 rfl (by kernel_rfl) Try.ntmps10 (Nat.le_of_ble_eq_true rfl) rfl (fr := []) rfl ?_
  unfold law18_sane at hr
  refine AB.seq ?_
  refine AB.rw ?_
  refine wS (v := (eB false)) (sv (d_assign rfl)) ?_
  refine OpsW.nil ?_
  refine Ex.then_mk ?_
  refine AB.seq ?_
  replace hr := bnd hr; obtain ⟨x7, h_1, hr⟩ := hr
  refine AB.rw ?_
  refine wS (v := (.agg [(.row (some true) 1 []), (eI .i64 0)])) (sv (d_build rfl (bldS ti24 pl24 rfl))) ?_
  refine wC (v := (.tup [(.agg [(.sl 0 0 x7.1.length 1 false), (eI .i64 x7.2.1)]), (eI .i64 x7.2.2)])) (h' := [some ⟨5, x7.1.map (eI .u8)⟩]) rfl (Vm.Fn.argsLe (Vm.Fn.lendB (bits_Append_ok N [] 0 5 3 x7 h_1) [] (by decide) rfl Lend.nil rfl rfl (by simp only [lent, lendSet, lendSet_nil, rnH, Blk.rn, V.rns, V.rn, sg, List.map_cons, List.map_nil, Option.map_some, Option.map_none, List.drop_succ_cons, List.drop_zero, List.drop_nil, List.set_cons_zero, List.set_cons_succ, List.cons_append, List.nil_append, List.append_nil, rns_eI, rns_eB, rns_eS, rns_eL, List.getElem?_cons_zero, List.getElem?_cons_succ, List.getElem?_nil, List.length_cons, List.length_nil, Nat.reduceAdd, Nat.reduceSub, Nat.add_zero, Nat.zero_add, Nat.sub_self, Nat.sub_zero])) (V.les_cons (V.le_agg (V.les_cons V.le_nil (V.les_cons (V.le_refl _ _) V.les_nil))) (V.les_cons (V.le_refl _ _) (V.les_cons (V.le_refl _ _) V.les_nil)))) ?_
  refine wS (v := (.tup [(.agg [(.sl 0 0 x7.1.length 1 false), (eI .i64 x7.2.1)]), (eI .i64 x7.2.2)])) (sv (d_move rfl)) ?_
  refine wS (v := (.agg [(.sl 0 0 x7.1.length 1 false), (eI .i64 x7.2.1)])) (sv (d_ext rfl rfl)) ?_
  refine wS (v := (eI .i64 x7.2.2)) (sv (d_ext rfl rfl)) ?_
  refine wS (v := (.ptr 1 0)) (h' := [some ⟨5, x7.1.map (eI .u8)⟩, some ⟨24, [(.row (some true) 1 []), (eI .i64 0)]⟩]) (sv (d_alloc ti24 rfl rfl rfl)) ?_
  refine wN (h' := [some ⟨5, x7.1.map (eI .u8)⟩, some ⟨24, [(.sl 0 0 x7.1.length 1 false), (eI .i64 x7.2.1)]⟩]) (sv (d_store rfl rfl (stP ti24 rfl rfl rfl (Nat.le_of_ble_eq_true rfl) rfl))) ?_
  refine wS (v := (eI .i64 x7.2.2)) (sv (d_assign rfl)) ?_
  refine OpsW.nil ?_
  refine Ex.then_mk ?_
  refine AB.seq ?_
  replace hr := bnd hr; obtain ⟨x12, h_2, hr⟩ := hr
  refine AB.rw ?_
  refine wS (v := (.agg [(.row (some true) 1 []), (eI .i64 0)])) (sv (d_build rfl (bldS ti24 pl24 rfl))) ?_
  refine wC (v := (.tup [(.agg [(.sl 2 0 x12.1.length 1 false), (eI .i64 x12.2.1)]), (eI .i64 x12.2.2)])) (h' := [some ⟨5, x7.1.map (eI .u8)⟩, some ⟨24, [(.sl 0 0 x7.1.length 1 false), (eI .i64 x7.2.1)]⟩, some ⟨5, x12.1.map (eI .u8)⟩]) rfl (Vm.Fn.argsLe (Vm.Fn.lendB (bits_AppendRice_ok N [] 0 9 2 x12 h_2) [] (by decide) rfl Lend.nil rfl rfl (by simp only [lent, lendSet, lendSet_nil, rnH, Blk.rn, V.rns, V.rn, sg, List.map_cons, List.map_nil, Option.map_some, Option.map_none, List.drop_succ_cons, List.drop_zero, List.drop_nil, List.set_cons_zero, List.set_cons_succ, List.cons_append, List.nil_append, List.append_nil, rns_eI, rns_eB, rns_eS, rns_eL, List.getElem?_cons_zero, List.getElem?_cons_succ, List.getElem?_nil, List.length_cons, List.length_nil, Nat.reduceAdd, Nat.reduceSub, Nat.add_zero, Nat.zero_add, Nat.sub_self, Nat.sub_zero])) (V.les_cons (V.le_agg (V.les_cons V.le_nil (V.les_cons (V.le_refl _ _) V.les_nil))) (V.les_cons (V.le_refl _ _) (V.les_cons (V.le_refl _ _) V.les_nil)))) ?_
  refine wS (v := (.tup [(.agg [(.sl 2 0 x12.1.length 1 false), (eI .i64 x12.2.1)]), (eI .i64 x12.2.2)])) (sv (d_move rfl)) ?_
  refine wS (v := (.agg [(.sl 2 0 x12.1.length 1 false), (eI .i64 x12.2.1)])) (sv (d_ext rfl rfl)) ?_
  refine wS (v := (eI .i64 x12.2.2)) (sv (d_ext rfl rfl)) ?_
  refine wS (v := (.ptr 3 0)) (h' := [some ⟨5, x7.1.map (eI .u8)⟩, some ⟨24, [(.sl 0 0 x7.1.length 1 false), (eI .i64 x7.2.1)]⟩, some ⟨5, x12.1.map (eI .u8)⟩, some ⟨24, [(.row (some true) 1 []), (eI .i64 0)]⟩]) (sv (d_alloc ti24 rfl rfl rfl)) ?_
  refine wN (h' := [some ⟨5, x7.1.map (eI .u8)⟩, some ⟨24, [(.sl 0 0 x7.1.length 1 false), (eI .i64 x7.2.1)]⟩, some ⟨5, x12.1.map (eI .u8)⟩, some ⟨24, [(.sl 2 0 x12.1.length 1 false), (eI .i64 x12.2.1)]⟩]) (sv (d_store rfl rfl (stP ti24 rfl rfl rfl (Nat.le_of_ble_eq_true rfl) rfl))) ?_
  refine wS (v := (eI .i64 x12.2.2)) (sv (d_assign rfl)) ?_
  refine OpsW.nil ?_
  refine Ex.then_mk ?_
  refine AB.seq_g fun K1 hK1 hG1 => ?_
  have J1 : ∀ (x0 : Bool), law18_sane_J1 N x0 = some r → K1 (mkF 57 [(0, (eB x0))]) [] := by
    intro x0 hr
    unfold law18_sane_J1 at hr
    refine hK1 _ _ ?_
    refine AB.ret ?_
    obtain rfl := Option.some.inj hr
    exact done_ret (r1 := (eB x0)) (res1 Try.results10 (rvT rfl)) (Ghost.rn [] rfl rfl (FLe.same rfl FLe.nil) HLe.nil rfl)
  rcases Bool.eq_false_or_eq_true (x7.2.2 == 0) with h3 | h3
  · replace hr := iteT hr h3
    rcases Bool.eq_false_or_eq_true (x7.2.1 == 3) with h4 | h4
    · replace hr := iteT hr h4
      rcases Bool.eq_false_or_eq_true ((x7.1.length : Int) == 1) with h5 | h5
      · replace hr := iteT hr h5
        replace hr := bnd hr; obtain ⟨x31, h_6, hr⟩ := hr
        rcases Bool.eq_false_or_eq_true (x31 == 160) with h7 | h7
        · replace hr := iteT hr h7
          rcases Bool.eq_false_or_eq_true (x12.2.2 == 0) with h8 | h8
          · replace hr := iteT hr h8
            rcases Bool.eq_false_or_eq_true (x12.2.1 == 5) with h9 | h9
            · replace hr := iteT hr h9
              rcases Bool.eq_false_or_eq_true ((x12.1.length : Int) == 1) with h10 | h10
              · replace hr := iteT hr h10
                replace hr := bnd hr; obtain ⟨x53, h_11, hr⟩ := hr
                refine AB.rw ?_
                refine wS (v := (eI .i64 x7.2.2)) (sv (d_move rfl)) ?_
                refine wS (v := (eB (x7.2.2 == 0))) (sv (d_bin rfl rfl (bin_eql ..))) ?_
                refine wS (v := (eB (x7.2.2 == 0))) (sv (d_move rfl)) ?_
                refine wS (v := (.ptr 1 1)) (svG rfl rfl h3 (d_fa rfl (fap24_1 ..))) ?_
                refine wS (v := (eI .i64 x7.2.1)) (svG rfl rfl h3 (d_load rfl (ldP rfl (part1 ti3 rfl rfl)))) ?_
                refine wS (v := (eB (x7.2.1 == 3))) (svG rfl rfl h3 (d_bin rfl rfl (bin_eql ..))) ?_
                refine wS (v := (eB (x7.2.1 == 3))) (sv (d_pickT rfl h3 rfl)) ?_
                refine wS (v := (eB (x7.2.1 == 3))) (sv (d_move rfl)) ?_
                refine wS (v := (.ptr 1 0)) (svG rfl rfl h4 (d_fa rfl (fap24_0 ..))) ?_
                refine wS (v := (.sl 0 0 x7.1.length 1 false)) (svG rfl rfl h4 (d_load rfl (ldP rfl (part1 ti22 rfl rfl)))) ?_
                refine wS (v := (eI .i64 (x7.1.length : Int))) (svG rfl rfl h4 (d_len rfl (lenS ti22))) ?_
                refine wS (v := (eB ((x7.1.length : Int) == 1))) (svG rfl rfl h4 (d_bin rfl rfl (bin_eql ..))) ?_
                refine wS (v := (eB ((x7.1.length : Int) == 1))) (sv (d_pickT rfl h4 rfl)) ?_
                refine wS (v := (eB ((x7.1.length : Int) == 1))) (sv (d_move rfl)) ?_
                refine wS (v := (.ptr 1 0)) (svG rfl rfl h5 (d_fa rfl (fap24_0 ..))) ?_
                refine wS (v := (.sl 0 0 x7.1.length 1 false)) (svG rfl rfl h5 (d_load rfl (ldP rfl (part1 ti22 rfl rfl)))) ?_
                refine wS (v := (.ptr 0 (Int.toNat 0))) (svG rfl rfl h5 (d_ia rfl rfl (iaS rfl ti22 ti5 rfl h_6))) ?_
                refine wS (v := (eI .u8 x31)) (svG rfl rfl h5 (d_load rfl (ldX ti5 rfl rfl h_6))) ?_
                refine wS (v := (eB (x31 == 160))) (svG rfl rfl h5 (d_bin rfl rfl (bin_eql ..))) ?_
                refine wS (v := (eB (x31 == 160))) (sv (d_pickT rfl h5 rfl)) ?_
                refine wS (v := (eB (x31 == 160))) (sv (d_move rfl)) ?_
                refine wS (v := (eI .i64 x12.2.2)) (svG rfl rfl h7 (d_move rfl)) ?_
                refine wS (v := (eB (x12.2.2 == 0))) (svG rfl rfl h7 (d_bin rfl rfl (bin_eql ..))) ?_
                refine wS (v := (eB (x12.2.2 == 0))) (sv (d_pickT rfl h7 rfl)) ?_
                refine wS (v := (eB (x12.2.2 == 0))) (sv (d_move rfl)) ?_
                refine wS (v := (.ptr 3 1)) (svG rfl rfl h8 (d_fa rfl (fap24_1 ..))) ?_
                refine wS (v := (eI .i64 x12.2.1)) (svG rfl rfl h8 (d_load rfl (ldP rfl (part1 ti3 rfl rfl)))) ?_
                refine wS (v := (eB (x12.2.1 == 5))) (svG rfl rfl h8 (d_bin rfl rfl (bin_eql ..))) ?_
                refine wS (v := (eB (x12.2.1 == 5))) (sv (d_pickT rfl h8 rfl)) ?_
                refine wS (v := (eB (x12.2.1 == 5))) (sv (d_move rfl)) ?_
                refine wS (v := (.ptr 3 0)) (svG rfl rfl h9 (d_fa rfl (fap24_0 ..))) ?_
                refine wS (v := (.sl 2 0 x12.1.length 1 false)) (svG rfl rfl h9 (d_load rfl (ldP rfl (part1 ti22 rfl rfl)))) ?_
                refine wS (v := (eI .i64 (x12.1.length : Int))) (svG rfl rfl h9 (d_len rfl (lenS ti22))) ?_
                refine wS (v := (eB ((x12.1.length : Int) == 1))) (svG rfl rfl h9 (d_bin rfl rfl (bin_eql ..))) ?_
                refine wS (v := (eB ((x12.1.length : Int) == 1))) (sv (d_pickT rfl h9 rfl)) ?_
                refine wS (v := (eB ((x12.1.length : Int) == 1))) (sv (d_move rfl)) ?_
                refine wS (v := (.ptr 3 0)) (svG rfl rfl h10 (d_fa rfl (fap24_0 ..))) ?_
                refine wS (v := (.sl 2 0 x12.1.length 1 false)) (svG rfl rfl h10 (d_load rfl (ldP rfl (part1 ti22 rfl rfl)))) ?_
                refine wS (v := (.ptr 2 (Int.toNat 0))) (svG rfl rfl h10 (d_ia rfl rfl (iaS rfl ti22 ti5 rfl h_11))) ?_
                refine wS (v := (eI .u8 x53)) (svG rfl rfl h10 (d_load rfl (ldX ti5 rfl rfl h_11))) ?_
                refine wS (v := (eB (x53 == 200))) (svG rfl rfl h10 (d_bin rfl rfl (bin_eql ..))) ?_
                refine wS (v := (eB (x53 == 200))) (sv (d_pickT rfl h10 rfl)) ?_
                refine wS (v := (eB (x53 == 200))) (sv (d_assign rfl)) ?_
                refine OpsW.nil ?_
                refine Ex.then_mk ?_
                exact hG1 _ _ _ _ (Ghost.rn [] rfl rfl (FLe.same rfl FLe.nil) HLe.nil rfl) (J1 (x53 == 200) hr)
              · replace hr := iteF hr h10
                refine AB.rw ?_
                refine wS (v := (eI .i64 x7.2.2)) (sv (d_move rfl)) ?_
                refine wS (v := (eB (x7.2.2 == 0))) (sv (d_bin rfl rfl (bin_eql ..))) ?_
                refine wS (v := (eB (x7.2.2 == 0))) (sv (d_move rfl)) ?_
                refine wS (v := (.ptr 1 1)) (svG rfl rfl h3 (d_fa rfl (fap24_1 ..))) ?_
                refine wS (v := (eI .i64 x7.2.1)) (svG rfl rfl h3 (d_load rfl (ldP rfl (part1 ti3 rfl rfl)))) ?_
                refine wS (v := (eB (x7.2.1 == 3))) (svG rfl rfl h3 (d_bin rfl rfl (bin_eql ..))) ?_
                refine wS (v := (eB (x7.2.1 == 3))) (sv (d_pickT rfl h3 rfl)) ?_
                refine wS (v := (eB (x7.2.1 == 3))) (sv (d_move rfl)) ?_
                refine wS (v := (.ptr 1 0)) (svG rfl rfl h4 (d_fa rfl (fap24_0 ..))) ?_
                refine wS (v := (.sl 0 0 x7.1.length 1 false)) (svG rfl rfl h4 (d_load rfl (ldP rfl (part1 ti22 rfl rfl)))) ?_
                refine wS (v := (eI .i64 (x7.1.length : Int))) (svG rfl rfl h4 (d_len rfl (lenS ti22))) ?_
                refine wS (v := (eB ((x7.1.length : Int) == 1))) (svG rfl rfl h4 (d_bin rfl rfl (bin_eql ..))) ?_
                refine wS (v := (eB ((x7.1.length : Int) == 1))) (sv (d_pickT rfl h4 rfl)) ?_
                refine wS (v := (eB ((x7.1.length : Int) == 1))) (sv (d_move rfl)) ?_
                refine wS (v := (.ptr 1 0)) (svG rfl rfl h5 (d_fa rfl (fap24_0 ..))) ?_
                refine wS (v := (.sl 0 0 x7.1.length 1 false)) (svG rfl rfl h5 (d_load rfl (ldP rfl (part1 ti22 rfl rfl)))) ?_
                refine wS (v := (.ptr 0 (Int.toNat 0))) (svG rfl rfl h5 (d_ia rfl rfl (iaS rfl ti22 ti5 rfl h_6))) ?_
                refine wS (v := (eI .u8 x31)) (svG rfl rfl h5 (d_load rfl (ldX ti5 rfl rfl h_6))) ?_
                refine wS (v := (eB (x31 == 160))) (svG rfl rfl h5 (d_bin rfl rfl (bin_eql ..))) ?_
                refine wS (v := (eB (x31 == 160))) (sv (d_pickT rfl h5 rfl)) ?_
                refine wS (v := (eB (x31 == 160))) (sv (d_move rfl)) ?_
                refine wS (v := (eI .i64 x12.2.2)) (svG rfl rfl h7 (d_move rfl)) ?_
                refine wS (v := (eB (x12.2.2 == 0))) (svG rfl rfl h7 (d_bin rfl rfl (bin_eql ..))) ?_
                refine wS (v := (eB (x12.2.2 == 0))) (sv (d_pickT rfl h7 rfl)) ?_
                refine wS (v := (eB (x12.2.2 == 0))) (sv (d_move rfl)) ?_
                refine wS (v := (.ptr 3 1)) (svG rfl rfl h8 (d_fa rfl (fap24_1 ..))) ?_
                refine wS (v := (eI .i64 x12.2.1)) (svG rfl rfl h8 (d_load rfl (ldP rfl (part1 ti3 rfl rfl)))) ?_
                refine wS (v := (eB (x12.2.1 == 5))) (svG rfl rfl h8 (d_bin rfl rfl (bin_eql ..))) ?_
                refine wS (v := (eB (x12.2.1 == 5))) (sv (d_pickT rfl h8 rfl)) ?_
                refine wS (v := (eB (x12.2.1 == 5))) (sv (d_move rfl)) ?_
                refine wS (v := (.ptr 3 0)) (svG rfl rfl h9 (d_fa rfl (fap24_0 ..))) ?_
                refine wS (v := (.sl 2 0 x12.1.length 1 false)) (svG rfl rfl h9 (d_load rfl (ldP rfl (part1 ti22 rfl rfl)))) ?_
                refine wS (v := (eI .i64 (x12.1.length : Int))) (svG rfl rfl h9 (d_len rfl (lenS ti22))) ?_
                refine wS (v := (eB ((x12.1.length : Int) == 1))) (svG rfl rfl h9 (d_bin rfl rfl (bin_eql ..))) ?_
                refine wS (v := (eB ((x12.1.length : Int) == 1))) (sv (d_pickT rfl h9 rfl)) ?_
                refine wS (v := (eB ((x12.1.length : Int) == 1))) (sv (d_move rfl)) ?_
                refine wS (svX rfl rfl h10) ?_
                refine wS (svX rfl rfl h10) ?_
                refine wS (svX rfl rfl h10) ?_
                refine wS (svX rfl rfl h10) ?_
                refine wS (svX rfl rfl h10) ?_
                refine wS (v := (eB false)) (sv (d_pickF rfl h10 rfl)) ?_
                refine wS (v := (eB false)) (sv (d_assign rfl)) ?_
                refine OpsW.nil ?_
                refine Ex.then_mk ?_
                exact hG1 _ _ _ _ (Ghost.rn [] rfl rfl (FLe.same rfl FLe.nil) HLe.nil rfl) (J1 false hr)
            · replace hr := iteF hr h9
              refine AB.rw ?_
              refine wS (v := (eI .i64 x7.2.2)) (sv (d_move rfl)) ?_
              refine wS (v := (eB (x7.2.2 == 0))) (sv (d_bin rfl rfl (bin_eql ..))) ?_
              refine wS (v := (eB (x7.2.2 == 0))) (sv (d_move rfl)) ?_
              refine wS (v := (.ptr 1 1)) (svG rfl rfl h3 (d_fa rfl (fap24_1 ..))) ?_
              refine wS (v := (eI .i64 x7.2.1)) (svG rfl rfl h3 (d_load rfl (ldP rfl (part1 ti3 rfl rfl)))) ?_
              refine wS (v := (eB (x7.2.1 == 3))) (svG rfl rfl h3 (d_bin rfl rfl (bin_eql ..))) ?_
              refine wS (v := (eB (x7.2.1 == 3))) (sv (d_pickT rfl h3 rfl)) ?_
              refine wS (v := (eB (x7.2.1 == 3))) (sv (d_move rfl)) ?_
              refine wS (v := (.ptr 1 0)) (svG rfl rfl h4 (d_fa rfl (fap24_0 ..))) ?_
              refine wS (v := (.sl 0 0 x7.1.length 1 false)) (svG rfl rfl h4 (d_load rfl (ldP rfl (part1 ti22 rfl rfl)))) ?_
              refine wS (v := (eI .i64 (x7.1.length : Int))) (svG rfl rfl h4 (d_len rfl (lenS ti22))) ?_
              refine wS (v := (eB ((x7.1.length : Int) == 1))) (svG rfl rfl h4 (d_bin rfl rfl (bin_eql ..))) ?_
              refine wS (v := (eB ((x7.1.length : Int) == 1))) (sv (d_pickT rfl h4 rfl)) ?_
              refine wS (v := (eB ((x7.1.length : Int) == 1))) (sv (d_move rfl)) ?_
              refine wS (v := (.ptr 1 0)) (svG rfl rfl h5 (d_fa rfl (fap24_0 ..))) ?_
              refine wS (v := (.sl 0 0 x7.1.length 1 false)) (svG rfl rfl h5 (d_load rfl (ldP rfl (part1 ti22 rfl rfl)))) ?_
              refine wS (v := (.ptr 0 (Int.toNat 0))) (svG rfl rfl h5 (d_ia rfl rfl (iaS rfl ti22 ti5 rfl h_6))) ?_
              refine wS (v := (eI .u8 x31)) (svG rfl rfl h5 (d_load rfl (ldX ti5 rfl rfl h_6))) ?_
              refine wS (v := (eB (x31 == 160))) (svG rfl rfl h5 (d_bin rfl rfl (bin_eql ..))) ?_
              refine wS (v := (eB (x31 == 160))) (sv (d_pickT rfl h5 rfl)) ?_
              refine wS (v := (eB (x31 == 160))) (sv (d_move rfl)) ?_
              refine wS (v := (eI .i64 x12.2.2)) (svG rfl rfl h7 (d_move rfl)) ?_
              refine wS (v := (eB (x12.2.2 == 0))) (svG rfl rfl h7 (d_bin rfl rfl (bin_eql ..))) ?_
              refine wS (v := (eB (x12.2.2 == 0))) (sv (d_pickT rfl h7 rfl)) ?_
              refine wS (v := (eB (x12.2.2 == 0))) (sv (d_move rfl)) ?_
              refine wS (v := (.ptr 3 1)) (svG rfl rfl h8 (d_fa rfl (fap24_1 ..))) ?_
              refine wS (v := (eI .i64 x12.2.1)) (svG rfl rfl h8 (d_load rfl (ldP rfl (part1 ti3 rfl rfl)))) ?_
              refine wS (v := (eB (x12.2.1 == 5))) (svG rfl rfl h8 (d_bin rfl rfl (bin_eql ..))) ?_
              refine wS (v := (eB (x12.2.1 == 5))) (sv (d_pickT rfl h8 rfl)) ?_
              refine wS (v := (eB (x12.2.1 == 5))) (sv (d_move rfl)) ?_
              refine wS (svX rfl rfl h9) ?_
              refine wS (svX rfl rfl h9) ?_
              refine wS (svX rfl rfl h9) ?_
              refine wS (svX rfl rfl h9) ?_
              refine wS (v := (eB false)) (sv (d_pickF rfl h9 rfl)) ?_
              refine wS (v := (eB false)) (sv (d_move rfl)) ?_
              refine wS (svX rfl rfl rfl) ?_
              refine wS (svX rfl rfl rfl) ?_
              refine wS (svX rfl rfl rfl) ?_
              refine wS (svX rfl rfl rfl) ?_
              refine wS (svX rfl rfl rfl) ?_
              refine wS (v := (eB false)) (sv (d_pickF rfl rfl rfl)) ?_
              refine wS (v := (eB false)) (sv (d_assign rfl)) ?_
              refine OpsW.nil ?_
              refine Ex.then_mk ?_
              exact hG1 _ _ _ _ (Ghost.rn [] rfl rfl (FLe.same rfl FLe.nil) HLe.nil rfl) (J1 false hr)
          · replace hr := iteF hr h8
            refine AB.rw ?_
            refine wS (v := (eI .i64 x7.2.2)) (sv (d_move rfl)) ?_
            refine wS (v := (eB (x7.2.2 == 0))) (sv (d_bin rfl rfl (bin_eql ..))) ?_
            refine wS (v := (eB (x7.2.2 == 0))) (sv (d_move rfl)) ?_
            refine wS (v := (.ptr 1 1)) (svG rfl rfl h3 (d_fa rfl (fap24_1 ..))) ?_
            refine wS (v := (eI .i64 x7.2.1)) (svG rfl rfl h3 (d_load rfl (ldP rfl (part1 ti3 rfl rfl)))) ?_
            refine wS (v := (eB (x7.2.1 == 3))) (svG rfl rfl h3 (d_bin rfl rfl (bin_eql ..))) ?_
            refine wS (v := (eB (x7.2.1 == 3))) (sv (d_pickT rfl h3 rfl)) ?_
            refine wS (v := (eB (x7.2.1 == 3))) (sv (d_move rfl)) ?_
            refine wS (v := (.ptr 1 0)) (svG rfl rfl h4 (d_fa rfl (fap24_0 ..))) ?_
            refine wS (v := (.sl 0 0 x7.1.length 1 false)) (svG rfl rfl h4 (d_load rfl (ldP rfl (part1 ti22 rfl rfl)))) ?_
            refine wS (v := (eI .i64 (x7.1.length : Int))) (svG rfl rfl h4 (d_len rfl (lenS ti22))) ?_
            refine wS (v := (eB ((x7.1.length : Int) == 1))) (svG rfl rfl h4 (d_bin rfl rfl (bin_eql ..))) ?_
            refine wS (v := (eB ((x7.1.length : Int) == 1))) (sv (d_pickT rfl h4 rfl)) ?_
            refine wS (v := (eB ((x7.1.length : Int) == 1))) (sv (d_move rfl)) ?_
            refine wS (v := (.ptr 1 0)) (svG rfl rfl h5 (d_fa rfl (fap24_0 ..))) ?_
            refine wS (v := (.sl 0 0 x7.1.length 1 false)) (svG rfl rfl h5 (d_load rfl (ldP rfl (part1 ti22 rfl rfl)))) ?_
            refine wS (v := (.ptr 0 (Int.toNat 0))) (svG rfl rfl h5 (d_ia rfl rfl (iaS rfl ti22 ti5 rfl h_6))) ?_
            refine wS (v := (eI .u8 x31)) (svG rfl rfl h5 (d_load rfl (ldX ti5 rfl rfl h_6))) ?_
            refine wS (v := (eB (x31 == 160))) (svG rfl rfl h5 (d_bin rfl rfl (bin_eql ..))) ?_
            refine wS (v := (eB (x31 == 160))) (sv (d_pickT rfl h5 rfl)) ?_
            refine wS (v := (eB (x31 == 160))) (sv (d_move rfl)) ?_
            refine wS (v := (eI .i64 x12.2.2)) (svG rfl rfl h7 (d_move rfl)) ?_
            refine wS (v := (eB (x12.2.2 == 0))) (svG rfl rfl h7 (d_bin rfl rfl (bin_eql ..))) ?_
            refine wS (v := (eB (x12.2.2 == 0))) (sv (d_pickT rfl h7 rfl)) ?_
            refine wS (v := (eB (x12.2.2 == 0))) (sv (d_move rfl)) ?_
            refine wS (svX rfl rfl h8) ?_
            refine wS (svX rfl rfl h8) ?_
            refine wS (svX rfl rfl h8) ?_
            refine wS (v := (eB false)) (sv (d_pickF rfl h8 rfl)) ?_
            refine wS (v := (eB false)) (sv (d_move rfl)) ?_
            refine wS (svX rfl rfl rfl) ?_
            refine wS (svX rfl rfl rfl) ?_
            refine wS (svX rfl rfl rfl) ?_
            refine wS (svX rfl rfl rfl) ?_
            refine wS (v := (eB false)) (sv (d_pickF rfl rfl rfl)) ?_
            refine wS (v := (eB false)) (sv (d_move rfl)) ?_
            refine wS (svX rfl rfl rfl) ?_
            refine wS (svX rfl rfl rfl) ?_
            refine wS (svX rfl rfl rfl) ?_
            refine wS (svX rfl rfl rfl) ?_
            refine wS (svX rfl rfl rfl) ?_
            refine wS (v := (eB false)) (sv (d_pickF rfl rfl rfl)) ?_
            refine wS (v := (eB false)) (sv (d_assign rfl)) ?_
            refine OpsW.nil ?_
            refine Ex.then_mk ?_
            exact hG1 _ _ _ _ (Ghost.rn [] rfl rfl (FLe.same rfl FLe.nil) HLe.nil rfl) (J1 false hr)
        · replace hr := iteF hr h7
          refine AB.rw ?_
          refine wS (v := (eI .i64 x7.2.2)) (sv (d_move rfl)) ?_
          refine wS (v := (eB (x7.2.2 == 0))) (sv (d_bin rfl rfl (bin_eql ..))) ?_
          refine wS (v := (eB (x7.2.2 == 0))) (sv (d_move rfl)) ?_
          refine wS (v := (.ptr 1 1)) (svG rfl rfl h3 (d_fa rfl (fap24_1 ..))) ?_
          refine wS (v := (eI .i64 x7.2.1)) (svG rfl rfl h3 (d_load rfl (ldP rfl (part1 ti3 rfl rfl)))) ?_
          refine wS (v := (eB (x7.2.1 == 3))) (svG rfl rfl h3 (d_bin rfl rfl (bin_eql ..))) ?_
          refine wS (v := (eB (x7.2.1 == 3))) (sv (d_pickT rfl h3 rfl)) ?_
          refine wS (v := (eB (x7.2.1 == 3))) (sv (d_move rfl)) ?_
          refine wS (v := (.ptr 1 0)) (svG rfl rfl h4 (d_fa rfl (fap24_0 ..))) ?_
          refine wS (v := (.sl 0 0 x7.1.length 1 false)) (svG rfl rfl h4 (d_load rfl (ldP rfl (part1 ti22 rfl rfl)))) ?_
          refine wS (v := (eI .i64 (x7.1.length : Int))) (svG rfl rfl h4 (d_len rfl (lenS ti22))) ?_
          refine wS (v := (eB ((x7.1.length : Int) == 1))) (svG rfl rfl h4 (d_bin rfl rfl (bin_eql ..))) ?_
          refine wS (v := (eB ((x7.1.length : Int) == 1))) (sv (d_pickT rfl h4 rfl)) ?_
          refine wS (v := (eB ((x7.1.length : Int) == 1))) (sv (d_move rfl)) ?_
          refine wS (v := (.ptr 1 0)) (svG rfl rfl h5 (d_fa rfl (fap24_0 ..))) ?_
          refine wS (v := (.sl 0 0 x7.1.length 1 false)) (svG rfl rfl h5 (d_load rfl (ldP rfl (part1 ti22 rfl rfl)))) ?_
          refine wS (v := (.ptr 0 (Int.toNat 0))) (svG rfl rfl h5 (d_ia rfl rfl (iaS rfl ti22 ti5 rfl h_6))) ?_
          refine wS (v := (eI .u8 x31)) (svG rfl rfl h5 (d_load rfl (ldX ti5 rfl rfl h_6))) ?_
          refine wS (v := (eB (x31 == 160))) (svG rfl rfl h5 (d_bin rfl rfl (bin_eql ..))) ?_
          refine wS (v := (eB (x31 == 160))) (sv (d_pickT rfl h5 rfl)) ?_
          refine wS (v := (eB (x31 == 160))) (sv (d_move rfl)) ?_
          refine wS (svX rfl rfl h7) ?_
          refine wS (svX rfl rfl h7) ?_
          refine wS (v := (eB false)) (sv (d_pickF rfl h7 rfl)) ?_
          refine wS (v := (eB false)) (sv (d_move rfl)) ?_
          refine wS (svX rfl rfl rfl) ?_
          refine wS (svX rfl rfl rfl) ?_
          refine wS (svX rfl rfl rfl) ?_
          refine wS (v := (eB false)) (sv (d_pickF rfl rfl rfl)) ?_
          refine wS (v := (eB false)) (sv (d_move rfl)) ?_
          refine wS (svX rfl rfl rfl) ?_
          refine wS (svX rfl rfl rfl) ?_
          refine wS (svX rfl rfl rfl) ?_
          refine wS (svX rfl rfl rfl) ?_
          refine wS (v := (eB false)) (sv (d_pickF rfl rfl rfl)) ?_
          refine wS (v := (eB false)) (sv (d_move rfl)) ?_
          refine wS (svX rfl rfl rfl) ?_
          refine wS (svX rfl rfl rfl) ?_
          refine wS (svX rfl rfl rfl) ?_
          refine wS (svX rfl rfl rfl) ?_
          refine wS (svX rfl rfl rfl) ?_
          refine wS (v := (eB false)) (sv (d_pickF rfl rfl rfl)) ?_
          refine wS (v := (eB false)) (sv (d_assign rfl)) ?_
          refine OpsW.nil ?_
          refine Ex.then_mk ?_
          exact hG1 _ _ _ _ (Ghost.rn [] rfl rfl (FLe.same rfl FLe.nil) HLe.nil rfl) (J1 false hr)
      · replace hr := iteF hr h5
        refine AB.rw ?_
        refine wS (v := (eI .i64 x7.2.2)) (sv (d_move rfl)) ?_
        refine wS (v := (eB (x7.2.2 == 0))) (sv (d_bin rfl rfl (bin_eql ..))) ?_
        refine wS (v := (eB (x7.2.2 == 0))) (sv (d_move rfl)) ?_
        refine wS (v := (.ptr 1 1)) (svG rfl rfl h3 (d_fa rfl (fap24_1 ..))) ?_
        refine wS (v := (eI .i64 x7.2.1)) (svG rfl rfl h3 (d_load rfl (ldP rfl (part1 ti3 rfl rfl)))) ?_
        refine wS (v := (eB (x7.2.1 == 3))) (svG rfl rfl h3 (d_bin rfl rfl (bin_eql ..))) ?_
        refine wS (v := (eB (x7.2.1 == 3))) (sv (d_pickT rfl h3 rfl)) ?_
        refine wS (v := (eB (x7.2.1 == 3))) (sv (d_move rfl)) ?_
        refine wS (v := (.ptr 1 0)) (svG rfl rfl h4 (d_fa rfl (fap24_0 ..))) ?_
        refine wS (v := (.sl 0 0 x7.1.length 1 false)) (svG rfl rfl h4 (d_load rfl (ldP rfl (part1 ti22 rfl rfl)))) ?_
        refine wS (v := (eI .i64 (x7.1.length : Int))) (svG rfl rfl h4 (d_len rfl (lenS ti22))) ?_
        refine wS (v := (eB ((x7.1.length : Int) == 1))) (svG rfl rfl h4 (d_bin rfl rfl (bin_eql ..))) ?_
        refine wS (v := (eB ((x7.1.length : Int) == 1))) (sv (d_pickT rfl h4 rfl)) ?_
        refine wS (v := (eB ((x7.1.length : Int) == 1))) (sv (d_move rfl)) ?_
        refine wS (svX rfl rfl h5) ?_
        refine wS (svX rfl rfl h5) ?_
        refine wS (svX rfl rfl h5) ?_
        refine wS (svX rfl rfl h5) ?_
        refine wS (svX rfl rfl h5) ?_
        refine wS (v := (eB false)) (sv (d_pickF rfl h5 rfl)) ?_
        refine wS (v := (eB false)) (sv (d_move rfl)) ?_
        refine wS (svX rfl rfl rfl) ?_
        refine wS (svX rfl rfl rfl) ?_
        refine wS (v := (eB false)) (sv (d_pickF rfl rfl rfl)) ?_
        refine wS (v := (eB false)) (sv (d_move rfl)) ?_
        refine wS (svX rfl rfl rfl) ?_
        refine wS (svX rfl rfl rfl) ?_
        refine wS (svX rfl rfl rfl) ?_
        refine wS (v := (eB false)) (sv (d_pickF rfl rfl rfl)) ?_
        refine wS (v := (eB false)) (sv (d_move rfl)) ?_
        refine wS (svX rfl rfl rfl) ?_
        refine wS (svX rfl rfl rfl) ?_
        refine wS (svX rfl rfl rfl) ?_
        refine wS (svX rfl rfl rfl) ?_
        refine wS (v := (eB false)) (sv (d_pickF rfl rfl rfl)) ?_
        refine wS (v := (eB false)) (sv (d_move rfl)) ?_
        refine wS (svX rfl rfl rfl) ?_
        refine wS (svX rfl rfl rfl) ?_
        refine wS (svX rfl rfl rfl) ?_
        refine wS (svX rfl rfl rfl) ?_
        refine wS (svX rfl rfl rfl) ?_
        refine wS (v := (eB false)) (sv (d_pickF rfl rfl rfl)) ?_
        refine wS (v := (eB false)) (sv (d_assign rfl)) ?_
        refine OpsW.nil ?_
        refine Ex.then_mk ?_
        exact hG1 _ _ _ _ (Ghost.rn [] rfl rfl (FLe.same rfl FLe.nil) HLe.nil rfl) (J1 false hr)
    · replace hr := iteF hr h4
      refine AB.rw ?_
      refine wS (v := (eI .i64 x7.2.2)) (sv (d_move rfl)) ?_
      refine wS (v := (eB (x7.2.2 == 0))) (sv (d_bin rfl rfl (bin_eql ..))) ?_
      refine wS (v := (eB (x7.2.2 == 0))) (sv (d_move rfl)) ?_
      refine wS (v := (.ptr 1 1)) (svG rfl rfl h3 (d_fa rfl (fap24_1 ..))) ?_
      refine wS (v := (eI .i64 x7.2.1)) (svG rfl rfl h3 (d_load rfl (ldP rfl (part1 ti3 rfl rfl)))) ?_
      refine wS (v := (eB (x7.2.1 == 3))) (svG rfl rfl h3 (d_bin rfl rfl (bin_eql ..))) ?_
      refine wS (v := (eB (x7.2.1 == 3))) (sv (d_pickT rfl h3 rfl)) ?_
      refine wS (v := (eB (x7.2.1 == 3))) (sv (d_move rfl)) ?_
      refine wS (svX rfl rfl h4) ?_
      refine wS (svX rfl rfl h4) ?_
      refine wS (svX rfl rfl h4) ?_
      refine wS (svX rfl rfl h4) ?_
      refine wS (v := (eB false)) (sv (d_pickF rfl h4 rfl)) ?_
      refine wS (v := (eB false)) (sv (d_move rfl)) ?_
      refine wS (svX rfl rfl rfl) ?_
      refine wS (svX rfl rfl rfl) ?_
      refine wS (svX rfl rfl rfl) ?_
      refine wS (svX rfl rfl rfl) ?_
      refine wS (svX rfl rfl rfl) ?_
      refine wS (v := (eB false)) (sv (d_pickF rfl rfl rfl)) ?_
      refine wS (v := (eB false)) (sv (d_move rfl)) ?_
      refine wS (svX rfl rfl rfl) ?_
      refine wS (svX rfl rfl rfl) ?_
      refine wS (v := (eB false)) (sv (d_pickF rfl rfl rfl)) ?_
      refine wS (v := (eB false)) (sv (d_move rfl)) ?_
      refine wS (svX rfl rfl rfl) ?_
      refine wS (svX rfl rfl rfl) ?_
      refine wS (svX rfl rfl rfl) ?_
      refine wS (v := (eB false)) (sv (d_pickF rfl rfl rfl)) ?_
      refine wS (v := (eB false)) (sv (d_move rfl)) ?_
      refine wS (svX rfl rfl rfl) ?_
      refine wS (svX rfl rfl rfl) ?_
      refine wS (svX rfl rfl rfl) ?_
      refine wS (svX rfl rfl rfl) ?_
      refine wS (v := (eB false)) (sv (d_pickF rfl rfl rfl)) ?_
      refine wS (v := (eB false)) (sv (d_move rfl)) ?_
      refine wS (svX rfl rfl rfl) ?_
      refine wS (svX rfl rfl rfl) ?_
      refine wS (svX rfl rfl rfl) ?_
      refine wS (svX rfl rfl rfl) ?_
      refine wS (svX rfl rfl rfl) ?_
      refine wS (v := (eB false)) (sv (d_pickF rfl rfl rfl)) ?_
      refine wS (v := (eB false)) (sv (d_assign rfl)) ?_
      refine OpsW.nil ?_
      refine Ex.then_mk ?_
      exact hG1 _ _ _ _ (Ghost.rn [] rfl rfl (FLe.same rfl FLe.nil) HLe.nil rfl) (J1 false hr)
  · replace hr := iteF hr h3
    refine AB.rw ?_
    refine wS (v := (eI .i64 x7.2.2)) (sv (d_move rfl)) ?_
    refine wS (v := (eB (x7.2.2 == 0))) (sv (d_bin rfl rfl (bin_eql ..))) ?_
    refine wS (v := (eB (x7.2.2 == 0))) (sv (d_move rfl)) ?_
    refine wS (svX rfl rfl h3) ?_
    refine wS (svX rfl rfl h3) ?_
    refine wS (svX rfl rfl h3) ?_
    refine wS (v := (eB false)) (sv (d_pickF rfl h3 rfl)) ?_
    refine wS (v := (eB false)) (sv (d_move rfl)) ?_
    refine wS (svX rfl rfl rfl) ?_
    refine wS (svX rfl rfl rfl) ?_
    refine wS (svX rfl rfl rfl) ?_
    refine wS (svX rfl rfl rfl) ?_
    refine wS (v := (eB false)) (sv (d_pickF rfl rfl rfl)) ?_
    refine wS (v := (eB false)) (sv (d_move rfl)) ?_
    refine wS (svX rfl rfl rfl) ?_
    refine wS (svX rfl rfl rfl) ?_
    refine wS (svX rfl rfl rfl) ?_
    refine wS (svX rfl rfl rfl) ?_
    refine wS (svX rfl rfl rfl) ?_
    refine wS (v := (eB false)) (sv (d_pickF rfl rfl rfl)) ?_
    refine wS (v := (eB false)) (sv (d_move rfl)) ?_
    refine wS (svX rfl rfl rfl) ?_
    refine wS (svX rfl rfl rfl) ?_
    refine wS (v := (eB false)) (sv (d_pickF rfl rfl rfl)) ?_
    refine wS (v := (eB false)) (sv (d_move rfl)) ?_
    refine wS (svX rfl rfl rfl) ?_
    refine wS (svX rfl rfl rfl) ?_
    refine wS (svX rfl rfl rfl) ?_
    refine wS (v := (eB false)) (sv (d_pickF rfl rfl rfl)) ?_
    refine wS (v := (eB false)) (sv (d_move rfl)) ?_
    refine wS (svX rfl rfl rfl) ?_
    refine wS (svX rfl rfl rfl) ?_
    refine wS (svX rfl rfl rfl) ?_
    refine wS (svX rfl rfl rfl) ?_
    refine wS (v := (eB false)) (sv (d_pickF rfl rfl rfl)) ?_
    refine wS (v := (eB false)) (sv (d_move rfl)) ?_
    refine wS (svX rfl rfl rfl) ?_
    refine wS (svX rfl rfl rfl) ?_
    refine wS (svX rfl rfl rfl) ?_
    refine wS (svX rfl rfl rfl) ?_
    refine wS (svX rfl rfl rfl) ?_
    refine wS (v := (eB false)) (sv (d_pickF rfl rfl rfl)) ?_
    refine wS (v := (eB false)) (sv (d_assign rfl)) ?_
    refine OpsW.nil ?_
    refine Ex.then_mk ?_
    exact hG1 _ _ _ _ (Ghost.rn [] rfl rfl (FLe.same rfl FLe.nil) HLe.nil rfl) (J1 false hr)
set_option maxRecDepth 20000 in
set_option maxHeartbeats 1000000 in
theorem law18_kept_ok (N : Nat) (b_Data : List Int) (b_N : Int) (r : Bool) (hr : law18_kept N b_Data b_N = some r) :
    Vm.Fn Try.prog 11 [] [(.agg [(.row none 1 (b_Data.map (eI .u8))), (eI .i64 b_N)])] (eB r) [] := by
  refine fn_ab Try.func11 rfl (by kernel_rfl) Try.ntmps11 (Nat.le_of_ble_eq_true rfl) rfl (fr := [(0, (.agg [(.row none 1 (b_Data.map (eI .u8))), (eI .i64 b_N)]))]) rfl ?_
  unfold law18_kept at hr
  refine AB.seq ?_
  refine AB.rw ?_
  refine wS (v := (.ptr 0 0)) (h' := [some ⟨24, [(.row none 1 (b_Data.map (eI .u8))), (eI .i64 b_N)]⟩]) (sv (d_box rfl rfl rfl rfl)) ?_
  refine wS (v := (eB false)) (sv (d_assign rfl)) ?_
  refine OpsW.nil ?_
  refine Ex.then_mk ?_
  refine AB.seq ?_
  refine AB.rw ?_
  refine wS (v := (.ptr 0 0)) (sv (d_fa rfl (fap24_0 ..))) ?_
  refine wS (v := (.row none 1 (b_Data.map (eI .u8)))) (sv (d_load rfl (ldP rfl (part1 ti22 rfl rfl)))) ?_
  refine wS (v := (eI .i64 (b_Data.length : Int))) (sv (d_len rfl (lenR ti22))) ?_
  refine wS (v := (eB (decide ((b_Data.length : Int) ≤ 300)))) (sv (d_bin rfl rfl (bin_leq ..))) ?_
  refine wS (v := (eB (decide ((b_Data.length : Int) ≤ 300)))) (sv (d_assign rfl)) ?_
  refine OpsW.nil ?_
  refine Ex.then_mk ?_
  refine AB.ret ?_
  obtain rfl := Option.some.inj hr
  exact done_ret (r1 := (eB (decide ((b_Data.length : Int) ≤ 300)))) (res1 Try.results11 (rvT rfl)) (Ghost.rn [] rfl rfl (FLe.same rfl FLe.nil) HLe.nil rfl)
set_option maxRecDepth 20000 in
set_option maxHeartbeats 1000000 in
theorem ref18_bit_ok (N : Nat) (b_Data : List Int) (b_N : Int) (vi : Int) (r : Bool) (hr : ref18_bit N b_Data b_N vi = some r) :
    Vm.Fn Try.prog 27 [] [(.agg [(.row none 1 (b_Data.map (eI .u8))), (eI .i64 b_N)]), (eI .i64 vi)] (eB r) [] := by
  refine fn_ab Try.func27 rfl (by kernel_rfl) Try.ntmps27 (Nat.le_of_ble_eq_true rfl) rfl (fr := [(0, (.agg [(.row none 1 (b_Data.map (eI .u8))), (eI .i64 b_N)])), (1, (eI .i64 vi))]) rfl ?_
  unfold ref18_bit at hr
  refine AB.seq ?_
  refine AB.rw ?_
  refine wS (v := (.ptr 0 0)) (h' := [some ⟨24, [(.row none 1 (b_Data.map (eI .u8))), (eI .i64 b_N)]⟩]) (sv (d_box rfl rfl rfl rfl)) ?_
  refine wS (v := (eB false)) (sv (d_assign rfl)) ?_
  refine OpsW.nil ?_
  refine Ex.then_mk ?_
  refine AB.seq ?_
  replace hr := bnd hr; obtain ⟨x9, h_1, hr⟩ := hr
  replace hr := bnd hr; obtain ⟨x14, h_2, hr⟩ := hr
  refine AB.rw ?_
  refine wS (v := (.ptr 0 0)) (sv (d_fa rfl (fap24_0 ..))) ?_
  refine wS (v := (.row none 1 (b_Data.map (eI .u8)))) (sv (d_load rfl (ldP rfl (part1 ti22 rfl rfl)))) ?_
  refine wS (v := (eI .i64 vi)) (sv (d_move rfl)) ?_
  refine wS (v := (eI .i64 (IntKind.i64.wrap (Int.tdiv vi 8)))) (sv (d_bin rfl rfl (bin_quo' _ _ _ _ rfl))) ?_
  refine wS (sv (d_ia rfl rfl (iaR ti22 ti5 h_1))) ?_
  refine wS (v := (eI .u8 x9)) (sv (d_load rfl (ldR h_1 (part1 ti5 rfl rfl)))) ?_
  refine wS (v := (eI .i64 vi)) (sv (d_move rfl)) ?_
  refine wS (v := (eI .i64 (Int.tmod vi 8))) (sv (d_bin rfl rfl (bin_rem' _ _ _ _ rfl))) ?_
  refine wS (v := (eI .i64 (IntKind.i64.wrap (7 - (Int.tmod vi 8))))) (sv (d_bin rfl rfl (bin_sub ..))) ?_
  refine wS (v := (eI .u8 x14)) (sv (d_bin rfl rfl (bin_shr' _ _ _ _ h_2))) ?_
  refine wS (v := (eI .u8 (bits .and .u8 x14 1))) (sv (d_bin rfl rfl (bin_and ..))) ?_
  refine wS (v := (eB ((bits .and .u8 x14 1) == 1))) (sv (d_bin rfl rfl (bin_eql ..))) ?_
  refine wS (v := (eB ((bits .and .u8 x14 1) == 1))) (sv (d_assign rfl)) ?_
  refine OpsW.nil ?_
  refine Ex.then_mk ?_
  refine AB.ret ?_
  obtain rfl := Option.some.inj hr
  exact done_ret (r1 := (eB ((bits .and .u8 x14 1) == 1))) (res1 Try.results27 (rvT rfl)) (Ghost.rn [] rfl rfl (FLe.same rfl FLe.nil) HLe.nil rfl)
set_option maxRecDepth 20000 in
set_option maxHeartbeats 1000000 in
theorem ref18_Valid_ok (N : Nat) (b_Data : List Int) (b_N : Int) (r : Bool) (hr : ref18_Valid N b_Data b_N = some r) :
    Vm.Fn Try.prog 15 [] [(.agg [(.row none 1 (b_Data.map (eI .u8))), (eI .i64 b_N)])] (eB r) [] := by
  refine fn_ab Try.func15 rfl (by kernel_rfl) Try.ntmps15 (Nat.le_of_ble_eq_true rfl) rfl (fr := [(0, (.agg [(.row none 1 (b_Data.map (eI .u8))), (eI .i64 b_N)]))]) rfl ?_
  unfold ref18_Valid at hr
  refine AB.seq ?_
  refine AB.rw ?_
  refine wS (v := (.ptr 0 0)) (h' := [some ⟨24, [(.row none 1 (b_Data.map (eI .u8))), (eI .i64 b_N)]⟩]) (sv (d_box rfl rfl rfl rfl)) ?_
  refine wS (v := (eB false)) (sv (d_assign rfl)) ?_
  refine OpsW.nil ?_
  refine Ex.then_mk ?_
  refine AB.seq ?_
  refine AB.seq_g fun K1 hK1 hG1 => ?_
  have J1 : ∀ (x21 : Bool), ref18_Valid_J1 N b_Data b_N x21 = some r → K1 (mkF 35 [(1, (.ptr 0 0)), (21, (eB x21))]) [some ⟨24, [(.row none 1 (b_Data.map (eI .u8))), (eI .i64 b_N)]⟩] := by
    intro x21 hr
    unfold ref18_Valid_J1 at hr
    refine hK1 _ _ ?_
    refine AB.cnd rfl (fun h1 => ?_) (fun h1 => ?_)
    · replace hr := iteT hr h1
      refine AB.seq ?_
      refine AB.rw ?_
      refine wS (v := (eB false)) (sv (d_assign rfl)) ?_
      refine OpsW.nil ?_
      refine Ex.then_mk ?_
      refine AB.ret ?_
      refine Ex.then_ret_mk ?_
      obtain rfl := Option.some.inj hr
      exact done_ret (r1 := (eB false)) (res1 Try.results15 (rvT rfl)) (Ghost.rn [] rfl rfl (FLe.same rfl FLe.nil) HLe.nil rfl)
    · replace hr := iteF hr h1
      refine AB.skip ?_
      refine Ex.then_mk ?_
      refine AB.seq_g fun K2 hK2 hG2 => ?_
      have J2 : ref18_Valid_J2 N = some r → K2 (mkF 35 []) [] := by
        intro hr
        unfold ref18_Valid_J2 at hr
        refine hK2 _ _ ?_
        refine AB.seq ?_
        refine AB.rw ?_
        refine wS (v := (eB true)) (sv (d_assign rfl)) ?_
        refine OpsW.nil ?_
        refine Ex.then_mk ?_
        refine AB.ret ?_
        obtain rfl := Option.some.inj hr
        exact done_ret (r1 := (eB true)) (res1 Try.results15 (rvT rfl)) (Ghost.rn [] rfl rfl (FLe.same rfl FLe.nil) HLe.nil rfl)
      refine AB.seq ?_
      refine AB.rw ?_
      refine wS (v := (.ptr 0 1)) (sv (d_fa rfl (fap24_1 ..))) ?_
      refine wS (v := (eI .i64 b_N)) (sv (d_load rfl (ldP rfl (part1 ti3 rfl rfl)))) ?_
      refine wS (v := (eI .i64 b_N)) (sv (d_assign rfl)) ?_
      refine OpsW.nil ?_
      refine Ex.then_mk ?_
      replace hr := bnd hr; obtain ⟨res3, hL3, hr⟩ := hr
      refine AB.block ?_
      refine AB.loopN (fun m s h => ∃ (vi : Int), ref18_Valid_L3 N b_Data b_N m vi = some res3 ∧ Ghost 0 s h (mkF 35 [(1, (.ptr 0 0)), (3, (eI .i64 vi))]) [some ⟨24, [(.row none 1 (b_Data.map (eI .u8))), (eI .i64 b_N)]⟩]) (n := N) ⟨b_N, hL3, (Ghost.rn [0] rfl rfl (FLe.same rfl (FLe.same rfl FLe.nil)) (HLe.live rfl (V.les_refl _ _) rfl HLe.nil) rfl)⟩ (by rintro s h ⟨_, h0, _⟩; simp [ref18_Valid_L3] at h0) ?_
      rintro m3 s h ⟨vi, hr3, hg⟩
      refine AB.ghost hg ?_
      clear hg hL3
      rw [ref18_Valid_L3] at hr3
      refine AB.seq ?_
      refine AB.seq ?_
      refine AB.rw ?_
      refine wS (v := (eI .i64 vi)) (sv (d_move rfl)) ?_
      refine wS (v := (.ptr 0 0)) (sv (d_fa rfl (fap24_0 ..))) ?_
      refine wS (v := (.row none 1 (b_Data.map (eI .u8)))) (sv (d_load rfl (ldP rfl (part1 ti22 rfl rfl)))) ?_
      refine wS (v := (eI .i64 (b_Data.length : Int))) (sv (d_len rfl (lenR ti22))) ?_
      refine wS (v := (eI .i64 (IntKind.i64.wrap (8 * (b_Data.length : Int))))) (sv (d_bin rfl rfl (bin_mul ..))) ?_
      refine wS (v := (eB (decide (vi < (IntKind.i64.wrap (8 * (b_Data.length : Int))))))) (sv (d_bin rfl rfl (bin_lss ..))) ?_
      refine OpsW.nil ?_
      refine Ex.then_mk ?_
      refine AB.cnd rfl (fun h2 => ?_) (fun h2 => ?_)
      · replace hr3 := iteT hr3 h2
        refine AB.skip ?_
        refine Ex.then_mk ?_
        refine AB.seq ?_
        refine AB.block ?_
        refine AB.seq ?_
        replace hr3 := bnd hr3; obtain ⟨x34, h_3, hr3⟩ := hr3
        refine AB.rw ?_
        refine wS (v := (.agg [(.row none 1 (b_Data.map (eI .u8))), (eI .i64 b_N)])) (sv (d_load rfl (ldP rfl (partN (ds := [(.row none 1 (b_Data.map (eI .u8))), (eI .i64 b_N)]) ti24 rfl (Nat.le_of_ble_eq_true rfl) rfl)))) ?_
        refine wS (v := (eI .i64 vi)) (sv (d_move rfl)) ?_
        refine wC (v := (eB x34)) (h' := [some ⟨24, [(.row none 1 (b_Data.map (eI .u8))), (eI .i64 b_N)]⟩]) rfl (Vm.Fn.pure (ref18_bit_ok N b_Data b_N vi x34 h_3) rfl rfl) ?_
        refine OpsW.nil ?_
        refine Ex.then_mk ?_
        refine AB.cnd rfl (fun h4 => ?_) (fun h4 => ?_)
        · replace hr3 := iteT hr3 h4
          refine AB.seq ?_
          refine AB.rw ?_
          refine wS (v := (eB false)) (sv (d_assign rfl)) ?_
          refine OpsW.nil ?_
          refine Ex.then_mk ?_
          refine AB.ret ?_
          refine Ex.inBlock_ret_mk ?_
          refine Ex.then_ret_mk ?_
          refine Ex.then_ret_mk ?_
          refine Ex.inBlock_ret_mk ?_
          refine Ex.then_ret_mk ?_
          obtain rfl := Option.some.inj hr3
          obtain rfl := Option.some.inj hr
          exact done_ret (r1 := (eB false)) (res1 Try.results15 (rvT rfl)) (Ghost.rn [] rfl rfl (FLe.same rfl FLe.nil) HLe.nil rfl)
        · replace hr3 := iteF hr3 h4
          refine AB.skip ?_
          refine Ex.inBlock_mk ?_
          refine Ex.then_mk ?_
          refine AB.rw ?_
          refine wS (v := (eI .i64 vi)) (sv (d_move rfl)) ?_
          refine wS (v := (eI .i64 (IntKind.i64.wrap (vi + 1)))) (sv (d_bin rfl rfl (bin_add ..))) ?_
          refine wS (v := (eI .i64 (IntKind.i64.wrap (vi + 1)))) (sv (d_assign rfl)) ?_
          refine OpsW.nil ?_
          refine Ex.then_mk ?_
          exact ⟨IntKind.i64.wrap (vi + 1), hr3, (Ghost.rn [0] rfl rfl (FLe.same rfl (FLe.same rfl FLe.nil)) (HLe.live rfl (V.les_refl _ _) rfl HLe.nil) rfl)⟩
      · replace hr3 := iteF hr3 h2
        refine AB.exit ?_
        refine Ex.then_exit_mk ?_
        refine Ex.then_exit_mk ?_
        refine Ex.inBlock_same_mk ?_
        obtain rfl := Option.some.inj hr3
        refine Ex.then_mk ?_
        exact hG2 _ _ _ _ (Ghost.rn [] rfl rfl FLe.nil HLe.nil rfl) (J2 hr)
  rcases Bool.eq_false_or_eq_true (decide (b_N < 0)) with h5 | h5
  · replace hr := iteT hr h5
    refine AB.rw ?_
    refine wS (v := (.ptr 0 1)) (sv (d_fa rfl (fap24_1 ..))) ?_
    refine wS (v := (eI .i64 b_N)) (sv (d_load rfl (ldP rfl (part1 ti3 rfl rfl)))) ?_
    refine wS (v := (eB (decide (b_N < 0)))) (sv (d_bin rfl rfl (bin_lss ..))) ?_
    refine wS (v := (eB (decide (b_N < 0)))) (sv (d_move rfl)) ?_
    refine wS (svX rfl rfl h5) ?_
    refine wS (svX rfl rfl h5) ?_
    refine wS (svX rfl rfl h5) ?_
    refine wS (v := (eB true)) (sv (d_pickT rfl h5 rfl)) ?_
    refine wS (v := (eB true)) (sv (d_move rfl)) ?_
    refine wS (svX rfl rfl rfl) ?_
    refine wS (svX rfl rfl rfl) ?_
    refine wS (svX rfl rfl rfl) ?_
    refine wS (svX rfl rfl rfl) ?_
    refine wS (svX rfl rfl rfl) ?_
    refine wS (svX rfl rfl rfl) ?_
    refine wS (svX rfl rfl rfl) ?_
    refine wS (svX rfl rfl rfl) ?_
    refine wS (v := (eB true)) (sv (d_pickT rfl rfl rfl)) ?_
    refine OpsW.nil ?_
    refine Ex.then_mk ?_
    exact hG1 _ _ _ _ (Ghost.rn [0] rfl rfl (FLe.same rfl (FLe.same rfl FLe.nil)) (HLe.live rfl (V.les_refl _ _) rfl HLe.nil) rfl) (J1 true hr)
  · replace hr := iteF hr h5
    rcases Bool.eq_false_or_eq_true (decide (1600000 < b_N)) with h6 | h6
    · replace hr := iteT hr h6
      refine AB.rw ?_
      refine wS (v := (.ptr 0 1)) (sv (d_fa rfl (fap24_1 ..))) ?_
      refine wS (v := (eI .i64 b_N)) (sv (d_load rfl (ldP rfl (part1 ti3 rfl rfl)))) ?_
      refine wS (v := (eB (decide (b_N < 0)))) (sv (d_bin rfl rfl (bin_lss ..))) ?_
      refine wS (v := (eB (decide (b_N < 0)))) (sv (d_move rfl)) ?_
      refine wS (v := (.ptr 0 1)) (svG rfl rfl h5 (d_fa rfl (fap24_1 ..))) ?_
      refine wS (v := (eI .i64 b_N)) (svG rfl rfl h5 (d_load rfl (ldP rfl (part1 ti3 rfl rfl)))) ?_
      refine wS (v := (eB (decide (1600000 < b_N)))) (svG rfl rfl h5 (d_bin rfl rfl (bin_gtr ..))) ?_
      refine wS (v := (eB (decide (1600000 < b_N)))) (sv (d_pickF rfl h5 rfl)) ?_
      refine wS (v := (eB (decide (1600000 < b_N)))) (sv (d_move rfl)) ?_
      refine wS (svX rfl rfl h6) ?_
      refine wS (svX rfl rfl h6) ?_
      refine wS (svX rfl rfl h6) ?_
      refine wS (svX rfl rfl h6) ?_
      refine wS (svX rfl rfl h6) ?_
      refine wS (svX rfl rfl h6) ?_
      refine wS (svX rfl rfl h6) ?_
      refine wS (svX rfl rfl h6) ?_
      refine wS (v := (eB true)) (sv (d_pickT rfl h6 rfl)) ?_
      refine OpsW.nil ?_
      refine Ex.then_mk ?_
      exact hG1 _ _ _ _ (Ghost.rn [0] rfl rfl (FLe.same rfl (FLe.same rfl FLe.nil)) (HLe.live rfl (V.les_refl _ _) rfl HLe.nil) rfl) (J1 true hr)
    · replace hr := iteF hr h6
      refine AB.rw ?_
      refine wS (v := (.ptr 0 1)) (sv (d_fa rfl (fap24_1 ..))) ?_
      refine wS (v := (eI .i64 b_N)) (sv (d_load rfl (ldP rfl (part1 ti3 rfl rfl)))) ?_
      refine wS (v := (eB (decide (b_N < 0)))) (sv (d_bin rfl rfl (bin_lss ..))) ?_
      refine wS (v := (eB (decide (b_N < 0)))) (sv (d_move rfl)) ?_
      refine wS (v := (.ptr 0 1)) (svG rfl rfl h5 (d_fa rfl (fap24_1 ..))) ?_
      refine wS (v := (eI .i64 b_N)) (svG rfl rfl h5 (d_load rfl (ldP rfl (part1 ti3 rfl rfl)))) ?_
      refine wS (v := (eB (decide (1600000 < b_N)))) (svG rfl rfl h5 (d_bin rfl rfl (bin_gtr ..))) ?_
      refine wS (v := (eB (decide (1600000 < b_N)))) (sv (d_pickF rfl h5 rfl)) ?_
      refine wS (v := (eB (decide (1600000 < b_N)))) (sv (d_move rfl)) ?_
      refine wS (v := (.ptr 0 0)) (svG rfl rfl h6 (d_fa rfl (fap24_0 ..))) ?_
      refine wS (v := (.row none 1 (b_Data.map (eI .u8)))) (svG rfl rfl h6 (d_load rfl (ldP rfl (part1 ti22 rfl rfl)))) ?_
      refine wS (v := (eI .i64 (b_Data.length : Int))) (svG rfl rfl h6 (d_len rfl (lenR ti22))) ?_
      refine wS (v := (.ptr 0 1)) (svG rfl rfl h6 (d_fa rfl (fap24_1 ..))) ?_
      refine wS (v := (eI .i64 b_N)) (svG rfl rfl h6 (d_load rfl (ldP rfl (part1 ti3 rfl rfl)))) ?_
      refine wS (v := (eI .i64 (IntKind.i64.wrap (b_N + 7)))) (svG rfl rfl h6 (d_bin rfl rfl (bin_add ..))) ?_
      refine wS (v := (eI .i64 (IntKind.i64.wrap (Int.tdiv (IntKind.i64.wrap (b_N + 7)) 8)))) (svG rfl rfl h6 (d_bin rfl rfl (bin_quo' _ _ _ _ rfl))) ?_
      refine wS (v := (eB ((b_Data.length : Int) != (IntKind.i64.wrap (Int.tdiv (IntKind.i64.wrap (b_N + 7)) 8))))) (svG rfl rfl h6 (d_bin rfl rfl (bin_neq ..))) ?_
      refine wS (v := (eB ((b_Data.length : Int) != (IntKind.i64.wrap (Int.tdiv (IntKind.i64.wrap (b_N + 7)) 8))))) (sv (d_pickF rfl h6 rfl)) ?_
      refine OpsW.nil ?_
      refine Ex.then_mk ?_
      exact hG1 _ _ _ _ (Ghost.rn [0] rfl rfl (FLe.same rfl (FLe.same rfl FLe.nil)) (HLe.live rfl (V.les_refl _ _) rfl HLe.nil) rfl) (J1 ((b_Data.length : Int) != (IntKind.i64.wrap (Int.tdiv (IntKind.i64.wrap (b_N + 7)) 8))) hr)
set_option maxRecDepth 20000 in
set_option maxHeartbeats 1000000 in
theorem ref01_joined_ok (N : Nat) (va : List Int) (b : List Int) (r : (List Int)) (hr : ref01_joined N va b = some r) :
    Vm.Fn Try.prog 33 [] [(.row none 1 (va.map (eI .u8))), (.row none 1 (b.map (eI .u8)))] (.sl 0 0 r.length 1 false) [some ⟨5, r.map (eI .u8)⟩] := by
  refine fn_ab Try.func33 rfl (by kernel_rfl) Try.ntmps33 (Nat.le_of_ble_eq_true rfl) rfl (fr := [(0, (.row none 1 (va.map (eI .u8)))), (1, (.row none 1 (b.map (eI .u8))))]) rfl ?_
  unfold ref01_joined at hr
  refine AB.seq ?_
  refine AB.rw ?_
  refine wS (v := (.row (some true) 1 [])) (sv (d_assign rfl)) ?_
  refine OpsW.nil ?_
  refine Ex.then_mk ?_
  refine AB.seq ?_
  replace hr := bnd hr; obtain ⟨x11, h_1, hr⟩ := hr
  refine AB.rw ?_
  refine wS (v := (.row none 1 (va.map (eI .u8)))) (sv (d_move rfl)) ?_
  refine wS (v := (eI .i64 (va.length : Int))) (sv (d_len rfl (lenR ti22))) ?_
  refine wS (v := (.row none 1 (b.map (eI .u8)))) (sv (d_move rfl)) ?_
  refine wS (v := (eI .i64 (b.length : Int))) (sv (d_len rfl (lenR ti22))) ?_
  refine wS (v := (eI .i64 (IntKind.i64.wrap ((va.length : Int) + (b.length : Int))))) (sv (d_bin rfl rfl (bin_add ..))) ?_
  refine wS (v := (.sl 0 0 0 1 false)) (h' := [some ⟨5, x11.map (eI .u8)⟩]) (sv (d_mk rfl rfl (mkC (E := (eI .u8)) (y := 0) ti22 ti5 ⟨Nat.le_of_ble_eq_true rfl, rfl, rfl⟩ rfl rfl rfl h_1 rfl rfl))) ?_
  refine wS (v := (.sl 0 0 0 1 false)) (sv (d_assign rfl)) ?_
  refine OpsW.nil ?_
  refine Ex.then_mk ?_
  refine AB.seq ?_
  replace hr := bnd hr; obtain ⟨x14, h_2, hr⟩ := hr
  replace hr := bnd hr; obtain ⟨x16, h_3, hr⟩ := hr
  refine AB.rw ?_
  refine wS (v := (.sl 0 0 0 1 false)) (sv (d_move rfl)) ?_
  refine wS (v := (.row none 1 (va.map (eI .u8)))) (sv (d_move rfl)) ?_
  refine wS (v := (.sl 1 0 x14.length 1 false)) (h' := [none, some ⟨5, x14.map (eI .u8)⟩]) (sv (d_append rfl rfl (appP (E := (eI .u8)) (Nat.zero_le _) ti22 ti5 ⟨rfl, rfl, Nat.le_of_ble_eq_true rfl⟩ rfl (srcR (fun _ => rfl)) h_2 rfl rfl))) ?_
  refine wS (v := (.row none 1 (b.map (eI .u8)))) (sv (d_move rfl)) ?_
  refine wS (v := (.sl 2 0 x16.length 1 false)) (h' := [none, none, some ⟨5, x16.map (eI .u8)⟩]) (sv (d_append rfl rfl (appS (E := (eI .u8)) rfl ti22 ti5 ⟨rfl, rfl, Nat.le_of_ble_eq_true rfl⟩ rfl (srcR (fun _ => rfl)) h_3 rfl rfl))) ?_
  refine wS (v := (.sl 2 0 x16.length 1 false)) (sv (d_assign rfl)) ?_
  refine OpsW.nil ?_
  refine Ex.then_mk ?_
  refine AB.ret ?_
  obtain rfl := Option.some.inj hr
  exact done_ret (r1 := (.sl 2 0 x16.length 1 false)) (res1 Try.results33 (rvT rfl)) (Ghost.rn [2] rfl rfl (FLe.same rfl FLe.nil) (HLe.live rfl (les_map (fun _ => rfl) _) (all_map (fun _ => rfl) _) HLe.nil) rfl)
set_option maxRecDepth 20000 in
set_option maxHeartbeats 1000000 in
theorem ref01_Join_ok (N : Nat) (l : List (List Int)) (r : (List Int)) (hr : ref01_Join N l = some r) :
    Vm.Fn Try.prog 25 [] [(.row none 1 (l.map (eL 1 (eI .u8))))] (.sl 0 0 r.length 1 false) [some ⟨5, r.map (eI .u8)⟩] := by
  refine fn_ab Try.func25 rfl (by kernel_rfl) Try.ntmps25 (Nat.le_of_ble_eq_true rfl) rfl (fr := [(0, (.row none 1 (l.map (eL 1 (eI .u8)))))]) rfl ?_
  unfold ref01_Join at hr
  refine AB.seq ?_
  refine AB.rw ?_
  refine wS (v := (.row (some true) 1 [])) (sv (d_assign rfl)) ?_
  refine OpsW.nil ?_
  refine Ex.then_mk ?_
  refine AB.seq ?_
  refine AB.rw ?_
  refine wS (v := (.row (some true) 1 [])) (sv (d_assign rfl)) ?_
  refine OpsW.nil ?_
  refine Ex.then_mk ?_
  refine AB.seq_g fun K1 hK1 hG1 => ?_
  have J1 : ∀ (l0 : List Int), ref01_Join_J1 N l0 = some r → K1 (mkF 17 [(3, (.sl 0 0 l0.length 1 false))]) [some ⟨5, l0.map (eI .u8)⟩] := by
    intro l0 hr
    unfold ref01_Join_J1 at hr
    refine hK1 _ _ ?_
    refine AB.seq ?_
    refine AB.rw ?_
    refine wS (v := (.sl 0 0 l0.length 1 false)) (sv (d_move rfl)) ?_
    refine wS (v := (.sl 0 0 l0.length 1 false)) (sv (d_assign rfl)) ?_
    refine OpsW.nil ?_
    refine Ex.then_mk ?_
    refine AB.ret ?_
    obtain rfl := Option.some.inj hr
    exact done_ret (r1 := (.sl 0 0 l0.length 1 false)) (res1 Try.results25 (rvT rfl)) (Ghost.rn [0] rfl rfl (FLe.same rfl FLe.nil) (HLe.live rfl (les_map (fun _ => rfl) _) (all_map (fun _ => rfl) _) HLe.nil) rfl)
  refine AB.seq ?_
  refine AB.rw ?_
  refine wS (v := (.row none 1 (l.map (eL 1 (eI .u8))))) (sv (d_move rfl)) ?_
  refine wS (v := (eI .i64 (l.length : Int))) (sv (d_len rfl (lenR ti52))) ?_
  refine wS (v := (eI .i64 0)) (sv (d_move rfl)) ?_
  refine OpsW.nil ?_
  refine Ex.then_mk ?_
  replace hr := bnd hr; obtain ⟨res2, hL2, hr⟩ := hr
  refine AB.block ?_
  refine AB.loopN (fun m s h => ∃ (x8 : Int) (l0_1 : List Int), ref01_Join_L2 N l m x8 l0_1 = some res2 ∧ Ghost 0 s h (mkF 17 [(3, (.sl 0 0 l0_1.length 1 false)), (6, (.row none 1 (l.map (eL 1 (eI .u8))))), (7, (eI .i64 (l.length : Int))), (8, (eI .i64 x8))]) [some ⟨5, l0_1.map (eI .u8)⟩]) (n := N) ⟨0, [], hL2, (Ghost.trans (Ghost.virt (fr' := [(3, (.sl 0 0 0 1 false)), (6, (.row none 1 (l.map (eL 1 (eI .u8))))), (7, (eI .i64 (l.length : Int))), (8, (eI .i64 0))]) (h1 := []) 5 (FLe.le rfl (V.le_virt rfl) (FLe.same rfl (FLe.same rfl (FLe.same rfl FLe.nil)))) HLv.nil) (Ghost.rn [0] rfl rfl (FLe.le rfl (by first | exact V.le_refl _ _ | (simp only [len_set, len_cpy]; exact V.le_refl _ _)) (FLe.same rfl (FLe.same rfl (FLe.same rfl FLe.nil)))) (HLe.live rfl V.les_nil rfl HLe.nil) rfl))⟩ (by rintro s h ⟨_, _, h0, _⟩; simp [ref01_Join_L2] at h0) ?_
  rintro m2 s h ⟨x8, l0_1, hr2, hg⟩
  refine AB.ghost hg ?_
  clear hg hL2
  rw [ref01_Join_L2] at hr2
  refine AB.seq ?_
  refine AB.rw ?_
  refine wS (v := (eB (decide (x8 < (l.length : Int))))) (sv (d_bin rfl rfl (bin_lss ..))) ?_
  refine OpsW.nil ?_
  refine Ex.then_mk ?_
  refine AB.seq ?_
  refine AB.cnd rfl (fun h1 => ?_) (fun h1 => ?_)
  · replace hr2 := iteT hr2 h1
    refine AB.skip ?_
    refine Ex.then_mk ?_
    refine AB.seq ?_
    refine AB.block ?_
    refine AB.seq ?_
    replace hr2 := bnd hr2; obtain ⟨x10, h_2, hr2⟩ := hr2
    refine AB.rw ?_
    refine wS (sv (d_ia rfl rfl (iaR ti52 ti22 h_2))) ?_
    refine wS (v := (.row none 1 (x10.map (eI .u8)))) (sv (d_load rfl (ldR h_2 (part1 ti22 rfl rfl)))) ?_
    refine wS (v := (.row none 1 (x10.map (eI .u8)))) (sv (d_assign rfl)) ?_
    refine OpsW.nil ?_
    refine Ex.then_mk ?_
    replace hr2 := bnd hr2; obtain ⟨x14, h_3, hr2⟩ := hr2
    refine AB.rw ?_
    refine wS (v := (.sl 0 0 l0_1.length 1 false)) (sv (d_move rfl)) ?_
    refine wS (v := (.row none 1 (x10.map (eI .u8)))) (sv (d_move rfl)) ?_
    refine wC (v := (.sl 1 0 x14.length 1 false)) (h' := [some ⟨5, l0_1.map (eI .u8)⟩, some ⟨5, x14.map (eI .u8)⟩]) rfl (Vm.Fn.lendR (ref01_joined_ok N l0_1 x10 x14 h_3) [] [0] (by decide) rfl (by decide) Lend.nil (Brw.row (exp_slT rfl rfl (fun _ => rfl)) (Brw.same rfl Brw.nil)) rfl (rfB.live (rfs_map (fun _ => rfl) _) rfB.nil) rfl (by simp only [lent, lendSet, lendSet_nil, rnH, Blk.rn, V.rns, V.rn, sg, List.map_cons, List.map_nil, Option.map_some, Option.map_none, List.drop_succ_cons, List.drop_zero, List.drop_nil, List.set_cons_zero, List.set_cons_succ, List.cons_append, List.nil_append, List.append_nil, rns_eI, rns_eB, rns_eS, rns_eL, List.getElem?_cons_zero, List.getElem?_cons_succ, List.getElem?_nil, List.length_cons, List.length_nil, Nat.reduceAdd, Nat.reduceSub, Nat.add_zero, Nat.zero_add, Nat.sub_self, Nat.sub_zero])) ?_
    refine wS (v := (.sl 1 0 x14.length 1 false)) (sv (d_assign rfl)) ?_
    refine OpsW.nil ?_
    refine Ex.inBlock_mk ?_
    refine Ex.then_mk ?_
    refine AB.rw ?_
    refine wS (v := (eI .i64 (IntKind.i64.wrap (x8 + 1)))) (sv (d_bin rfl rfl (bin_add ..))) ?_
    refine wS (v := (eI .i64 (IntKind.i64.wrap (x8 + 1)))) (sv (d_move rfl)) ?_
    refine OpsW.nil ?_
    refine Ex.then_mk ?_
    exact ⟨IntKind.i64.wrap (x8 + 1), x14, hr2, (Ghost.rn [1] rfl rfl (FLe.same rfl (FLe.same rfl (FLe.same rfl (FLe.same rfl FLe.nil)))) (HLe.live rfl (les_map (fun _ => rfl) _) (all_map (fun _ => rfl) _) HLe.nil) rfl)⟩
  · replace hr2 := iteF hr2 h1
    refine AB.exit ?_
    refine Ex.then_exit_mk ?_
    refine Ex.then_exit_mk ?_
    refine Ex.inBlock_same_mk ?_
    obtain rfl := Option.some.inj hr2
    refine Ex.then_mk ?_
    exact hG1 _ _ _ _ (Ghost.rn [0] rfl rfl (FLe.same rfl FLe.nil) (HLe.live rfl (les_map (fun _ => rfl) _) (all_map (fun _ => rfl) _) HLe.nil) rfl) (J1 l0_1 hr)
set_option maxRecDepth 20000 in
set_option maxHeartbeats 1000000 in
theorem ref18_put_ok (N : Nat) (b_Data : List Int) (b_N : Int) (v : Bool) (r : (List Int) × Int) (hr : ref18_put N b_Data b_N v = some r) :
    Vm.Fn Try.prog 26 [some ⟨5, b_Data.map (eI .u8)⟩] [(.agg [(.sl 0 0 b_Data.length 1 false), (eI .i64 b_N)]), (eB v)] (.agg [(.sl 1 0 r.1.length 1 false), (eI .i64 r.2)]) [none, some ⟨5, r.1.map (eI .u8)⟩] := by
  refine fn_ab Try.func26 rfl (by kernel_rfl) Try.ntmps26 (Nat.le_of_ble_eq_true rfl) rfl (fr := [(0, (.agg [(.sl 0 0 b_Data.length 1 false), (eI .i64 b_N)])), (1, (eB v))]) rfl ?_
  unfold ref18_put at hr
  refine AB.seq ?_
  refine AB.rw ?_
  refine wS (v := (.ptr 1 0)) (h' := [some ⟨5, b_Data.map (eI .u8)⟩, some ⟨24, [(.sl 0 0 b_Data.length 1 false), (eI .i64 b_N)]⟩]) (sv (d_box rfl rfl rfl rfl)) ?_
  refine wS (v := (.ptr 2 0)) (h' := [some ⟨5, b_Data.map (eI .u8)⟩, some ⟨24, [(.sl 0 0 b_Data.length 1 false), (eI .i64 b_N)]⟩, some ⟨24, [(.row (some true) 1 []), (eI .i64 0)]⟩]) (sv (d_alloc ti24 rfl rfl rfl)) ?_
  refine OpsW.nil ?_
  refine Ex.then_mk ?_
  refine AB.seq_g fun K1 hK1 hG1 => ?_
  have J1 : ∀ (l3 : List Int), ref18_put_J1 N b_N v l3 = some r → K1 (mkF 34 [(1, (eB v)), (2, (.ptr 1 0)), (4, (.ptr 2 0))]) [none, some ⟨24, [(.sl 3 0 l3.length 1 false), (eI .i64 b_N)]⟩, some ⟨24, [(.row (some true) 1 []), (eI .i64 0)]⟩, some ⟨5, l3.map (eI .u8)⟩] := by
    intro l3 hr
    unfold ref18_put_J1 at hr
    refine hK1 _ _ ?_
    refine AB.seq_g fun K2 hK2 hG2 => ?_
    have J2 : ∀ (l3_1 : List Int), ref18_put_J2 N b_N l3_1 = some r → K2 (mkF 34 [(2, (.ptr 1 0)), (4, (.ptr 2 0))]) [none, some ⟨24, [(.sl 3 0 l3_1.length 1 false), (eI .i64 b_N)]⟩, some ⟨24, [(.row (some true) 1 []), (eI .i64 0)]⟩, some ⟨5, l3_1.map (eI .u8)⟩] := by
      intro l3_1 hr
      unfold ref18_put_J2 at hr
      refine hK2 _ _ ?_
      refine AB.seq ?_
      refine AB.rw ?_
      refine wS (v := (.ptr 1 1)) (sv (d_fa rfl (fap24_1 ..))) ?_
      refine wS (v := (eI .i64 b_N)) (sv (d_load rfl (ldP rfl (part1 ti3 rfl rfl)))) ?_
      refine wS (v := (eI .i64 (IntKind.i64.wrap (b_N + 1)))) (sv (d_bin rfl rfl (bin_add ..))) ?_
      refine wS (v := (.ptr 1 1)) (sv (d_fa rfl (fap24_1 ..))) ?_
      refine wN (h' := [none, some ⟨24, [(.sl 3 0 l3_1.length 1 false), (eI .i64 (IntKind.i64.wrap (b_N + 1)))]⟩, some ⟨24, [(.row (some true) 1 []), (eI .i64 0)]⟩, some ⟨5, l3_1.map (eI .u8)⟩]) (sv (d_store rfl rfl (stP ti3 rfl rfl rfl (Nat.le_of_ble_eq_true rfl) rfl))) ?_
      refine OpsW.nil ?_
      refine Ex.then_mk ?_
      refine AB.seq ?_
      refine AB.rw ?_
      refine wS (v := (.agg [(.sl 3 0 l3_1.length 1 false), (eI .i64 (IntKind.i64.wrap (b_N + 1)))])) (sv (d_load rfl (ldP rfl (partN (ds := [(.sl 3 0 l3_1.length 1 false), (eI .i64 (IntKind.i64.wrap (b_N + 1)))]) ti24 rfl (Nat.le_of_ble_eq_true rfl) rfl)))) ?_
      refine wN (h' := [none, some ⟨24, [(.sl 3 0 l3_1.length 1 false), (eI .i64 (IntKind.i64.wrap (b_N + 1)))]⟩, some ⟨24, [(.sl 3 0 l3_1.length 1 false), (eI .i64 (IntKind.i64.wrap (b_N + 1)))]⟩, some ⟨5, l3_1.map (eI .u8)⟩]) (sv (d_store rfl rfl (stP ti24 rfl rfl rfl (Nat.le_of_ble_eq_true rfl) rfl))) ?_
      refine OpsW.nil ?_
      refine Ex.then_mk ?_
      refine AB.ret ?_
      obtain rfl := Option.some.inj hr
      exact done_ret (r1 := (.agg [(.sl 3 0 l3_1.length 1 false), (eI .i64 (IntKind.i64.wrap (b_N + 1)))])) (res1 Try.results26 (rvC rfl (ldP rfl (partN (ds := [(.sl 3 0 l3_1.length 1 false), (eI .i64 (IntKind.i64.wrap (b_N + 1)))]) ti24 rfl (Nat.le_of_ble_eq_true rfl) rfl)))) (Ghost.rn [0, 3] rfl rfl (FLe.same rfl FLe.nil) (HLe.dead (HLe.live rfl (les_map (fun _ => rfl) _) (all_map (fun _ => rfl) _) HLe.nil)) rfl)
    refine AB.seq ?_
    refine AB.rw ?_
    refine wS (v := (eB v)) (sv (d_move rfl)) ?_
    refine OpsW.nil ?_
    refine Ex.then_mk ?_
    refine AB.cnd rfl (fun h1 => ?_) (fun h1 => ?_)
    · replace hr := iteT hr h1
      replace hr := bnd hr; obtain ⟨x20, h_2, hr⟩ := hr
      replace hr := bnd hr; obtain ⟨x26, h_3, hr⟩ := hr
      refine AB.rg E0 (fun _ => by show drawOk (fun _ => false) _ = true; decide +kernel) ?_
      refine tS (v := (.ptr 1 0)) (sv (d_fa rfl (fap24_0 ..))) ?_
      refine tS (v := (.sl 3 0 l3.length 1 false)) (sv (d_load rfl (ldP rfl (part1 ti22 rfl rfl)))) ?_
      refine tS (v := (.ptr 1 1)) (sv (d_fa rfl (fap24_1 ..))) ?_
      refine tS (v := (eI .i64 b_N)) (sv (d_load rfl (ldP rfl (part1 ti3 rfl rfl)))) ?_
      refine tS (v := (eI .i64 (IntKind.i64.wrap (Int.tdiv b_N 8)))) (sv (d_bin rfl rfl (bin_quo' _ _ _ _ rfl))) ?_
      refine tS (v := (.ptr 3 (Int.toNat (IntKind.i64.wrap (Int.tdiv b_N 8))))) (sv (d_ia rfl rfl (iaS rfl ti22 ti5 rfl h_2))) ?_
      refine tS (v := (eI .u8 x20)) (sv (d_load rfl (ldX ti5 rfl rfl h_2))) ?_
      refine tS (v := (.ptr 1 1)) (sv (d_fa rfl (fap24_1 ..))) ?_
      refine tS (v := (eI .i64 b_N)) (sv (d_load rfl (ldP rfl (part1 ti3 rfl rfl)))) ?_
      refine tS (v := (eI .i64 (Int.tmod b_N 8))) (sv (d_bin rfl rfl (bin_rem' _ _ _ _ rfl))) ?_
      refine tS (v := (eI .i64 (IntKind.i64.wrap (7 - (Int.tmod b_N 8))))) (sv (d_bin rfl rfl (bin_sub ..))) ?_
      refine tS (v := (eI .u8 x26)) (sv (d_bin rfl rfl (bin_shl' _ _ _ _ h_3))) ?_
      refine tS (v := (eI .u8 (bits .or .u8 x20 x26))) (sv (d_bin rfl rfl (bin_or ..))) ?_
      refine tS (v := (.ptr 3 (Int.toNat (IntKind.i64.wrap (Int.tdiv b_N 8))))) (sv (d_ia rfl rfl (iaS rfl ti22 ti5 rfl h_2))) ?_
      refine tN (h' := [none, some ⟨24, [(.sl 3 0 l3.length 1 false), (eI .i64 b_N)]⟩, some ⟨24, [(.row (some true) 1 []), (eI .i64 0)]⟩, some ⟨5, (l3.set (Int.toNat (IntKind.i64.wrap (Int.tdiv b_N 8))) (bits .or .u8 x20 x26)).map (eI .u8)⟩]) (sv (d_store rfl rfl (stXe (E := (eI .u8)) (y := bits .or .u8 x20 x26) ti5 rfl rfl h_2 rfl rfl rfl))) ?_
      refine OpsTo.nil ?_
      refine Ex.then_mk ?_
      exact hG2 _ _ _ _ (Ghost.rn [0, 1, 2, 3] rfl rfl (FLe.same rfl (FLe.same rfl FLe.nil)) (HLe.dead (HLe.live rfl (V.les_cons (by first | exact V.le_refl _ _ | (simp only [len_set, len_cpy]; exact V.le_refl _ _)) (V.les_cons (V.le_refl _ _) V.les_nil)) rfl (HLe.live rfl (V.les_refl _ _) rfl (HLe.live rfl (les_map (fun _ => rfl) _) (all_map (fun _ => rfl) _) HLe.nil)))) rfl) (J2 (l3.set (Int.toNat (IntKind.i64.wrap (Int.tdiv b_N 8))) (bits .or .u8 x20 x26)) hr)
    · replace hr := iteF hr h1
      refine AB.skip ?_
      refine Ex.then_mk ?_
      exact hG2 _ _ _ _ (Ghost.rn [0, 1, 2, 3] rfl rfl (FLe.same rfl (FLe.same rfl FLe.nil)) (HLe.dead (HLe.live rfl (V.les_refl _ _) rfl (HLe.live rfl (V.les_refl _ _) rfl (HLe.live rfl (les_map (fun _ => rfl) _) (all_map (fun _ => rfl) _) HLe.nil)))) rfl) (J2 l3 hr)
  refine AB.seq ?_
  refine AB.rw ?_
  refine wS (v := (.ptr 1 1)) (sv (d_fa rfl (fap24_1 ..))) ?_
  refine wS (v := (eI .i64 b_N)) (sv (d_load rfl (ldP rfl (part1 ti3 rfl rfl)))) ?_
  refine wS (v := (eI .i64 (Int.tmod b_N 8))) (sv (d_bin rfl rfl (bin_rem' _ _ _ _ rfl))) ?_
  refine wS (v := (eB ((Int.tmod b_N 8) == 0))) (sv (d_bin rfl rfl (bin_eql ..))) ?_
  refine OpsW.nil ?_
  refine Ex.then_mk ?_
  refine AB.cnd rfl (fun h4 => ?_) (fun h4 => ?_)
  · replace hr := iteT hr h4
    replace hr := bnd hr; obtain ⟨x12, h_5, hr⟩ := hr
    refine AB.rw ?_
    refine wS (v := (.ptr 1 0)) (sv (d_fa rfl (fap24_0 ..))) ?_
    refine wS (v := (.sl 0 0 b_Data.length 1 false)) (sv (d_load rfl (ldP rfl (part1 ti22 rfl rfl)))) ?_
    refine wS (v := (.sl 3 0 1 1 false)) (h' := [some ⟨5, b_Data.map (eI .u8)⟩, some ⟨24, [(.sl 0 0 b_Data.length 1 false), (eI .i64 b_N)]⟩, some ⟨24, [(.row (some true) 1 []), (eI .i64 0)]⟩, some ⟨5, [0].map (eI .u8)⟩]) (sv (d_buildS rfl (bldL1 (xs := [0].map (eI .u8)) ti22 ti5 (Nat.le_of_ble_eq_true rfl) (Nat.le_of_ble_eq_true rfl) rfl rfl rfl rfl rfl rfl rfl))) ?_
    refine wS (v := (.sl 4 0 x12.length 1 false)) (h' := [none, some ⟨24, [(.sl 0 0 b_Data.length 1 false), (eI .i64 b_N)]⟩, some ⟨24, [(.row (some true) 1 []), (eI .i64 0)]⟩, some ⟨5, [0].map (eI .u8)⟩, some ⟨5, x12.map (eI .u8)⟩]) (sv (d_append rfl rfl (appS (E := (eI .u8)) rfl ti22 ti5 ⟨rfl, rfl, Nat.le_of_ble_eq_true rfl⟩ rfl (srcS rfl rfl) h_5 rfl rfl))) ?_
    refine wS (v := (.ptr 1 0)) (sv (d_fa rfl (fap24_0 ..))) ?_
    refine wN (h' := [none, some ⟨24, [(.sl 4 0 x12.length 1 false), (eI .i64 b_N)]⟩, some ⟨24, [(.row (some true) 1 []), (eI .i64 0)]⟩, some ⟨5, [0].map (eI .u8)⟩, some ⟨5, x12.map (eI .u8)⟩]) (sv (d_store rfl rfl (stP ti22 rfl rfl rfl (Nat.le_of_ble_eq_true rfl) rfl))) ?_
    refine OpsW.nil ?_
    refine Ex.then_mk ?_
    exact hG1 _ _ _ _ (Ghost.rn [0, 1, 2, 4] rfl rfl (FLe.same rfl (FLe.same rfl (FLe.same rfl FLe.nil))) (HLe.dead (HLe.live rfl (V.les_refl _ _) rfl (HLe.live rfl (V.les_refl _ _) rfl (HLe.live rfl (les_map (fun _ => rfl) _) (all_map (fun _ => rfl) _) HLe.nil)))) rfl) (J1 x12 hr)
  · replace hr := iteF hr h4
    refine AB.skip ?_
    refine Ex.then_mk ?_
    exact hG1 _ _ _ _ (Ghost.rn [0, 1, 2, 0] rfl rfl (FLe.same rfl (FLe.same rfl (FLe.same rfl FLe.nil))) (HLe.dead (HLe.live rfl (V.les_refl _ _) rfl (HLe.live rfl (V.les_refl _ _) rfl (HLe.live rfl (les_map (fun _ => rfl) _) (all_map (fun _ => rfl) _) HLe.nil)))) rfl) (J1 b_Data hr)
set_option maxRecDepth 20000 in
set_option maxHeartbeats 1000000 in
theorem ref18_Append_ok (N : Nat) (b_Data : List Int) (b_N : Int) (v : Int) (vn : Int) (r : (List Int) × Int × Int) (hr : ref18_Append N b_Data b_N v vn = some r) :
    Vm.Fn Try.prog 13 [] [(.agg [(.row none 1 (b_Data.map (eI .u8))), (eI .i64 b_N)]), (eI .u64 v), (eI .i64 vn)] (.tup [(.agg [(.sl 0 0 r.1.length 1 false), (eI .i64 r.2.1)]), (eI .i64 r.2.2)]) [some ⟨5, r.1.map (eI .u8)⟩] := by
  refine fn_ab Try.func13 rfl (by kernel_rfl) Try.ntmps13 (Nat.le_of_ble_eq_true rfl) rfl (fr := [(0, (.agg [(.row none 1 (b_Data.map (eI .u8))), (eI .i64 b_N)])), (1, (eI .u64 v)), (2, (eI .i64 vn))]) rfl ?_
  unfold ref18_Append at hr
  refine AB.seq ?_
  refine AB.rw ?_
  refine wS (v := (.ptr 0 0)) (h' := [some ⟨24, [(.row none 1 (b_Data.map (eI .u8))), (eI .i64 b_N)]⟩]) (sv (d_box rfl rfl rfl rfl)) ?_
  refine wS (v := (.ptr 1 0)) (h' := [some ⟨24, [(.row none 1 (b_Data.map (eI .u8))), (eI .i64 b_N)]⟩, some ⟨24, [(.row (some true) 1 []), (eI .i64 0)]⟩]) (sv (d_alloc ti24 rfl rfl rfl)) ?_
  refine wS (v := (eI .i64 0)) (sv (d_assign rfl)) ?_
  refine OpsW.nil ?_
  refine Ex.then_mk ?_
  refine AB.seq ?_
  refine AB.block ?_
  refine AB.seq ?_
  replace hr := bnd hr; obtain ⟨x12, h_1, hr⟩ := hr
  refine AB.rw ?_
  refine wS (v := (.agg [(.row none 1 (b_Data.map (eI .u8))), (eI .i64 b_N)])) (sv (d_load rfl (ldP rfl (partN (ds := [(.row none 1 (b_Data.map (eI .u8))), (eI .i64 b_N)]) ti24 rfl (Nat.le_of_ble_eq_true rfl) rfl)))) ?_
  refine wC (v := (eB x12)) (h' := [some ⟨24, [(.row none 1 (b_Data.map (eI .u8))), (eI .i64 b_N)]⟩, some ⟨24, [(.row (some true) 1 []), (eI .i64 0)]⟩]) rfl (Vm.Fn.pure (ref18_Valid_ok N b_Data b_N x12 h_1) rfl rfl) ?_
  refine wS (v := (eB (!x12))) (sv (d_un rfl (un_not _ _))) ?_
  refine wS (v := (eB (!x12))) (sv (d_assign rfl)) ?_
  refine OpsW.nil ?_
  refine Ex.then_mk ?_
  refine AB.cnd rfl (fun h2 => ?_) (fun h2 => ?_)
  · replace hr := iteT hr h2
    refine AB.seq ?_
    refine AB.rw ?_
    refine wS (v := (.agg [(.row (some true) 1 []), (eI .i64 0)])) (sv (d_build rfl (bldS ti24 pl24 rfl))) ?_
    refine wN (h' := [some ⟨24, [(.row none 1 (b_Data.map (eI .u8))), (eI .i64 b_N)]⟩, some ⟨24, [(.row (some true) 1 []), (eI .i64 0)]⟩]) (sv (d_store rfl rfl (stP ti24 rfl rfl rfl (Nat.le_of_ble_eq_true rfl) rfl))) ?_
    refine wS (v := (eI .i64 6)) (sv (d_assign rfl)) ?_
    refine OpsW.nil ?_
    refine Ex.then_mk ?_
    refine AB.ret ?_
    refine Ex.inBlock_ret_mk ?_
    refine Ex.then_ret_mk ?_
    obtain rfl := Option.some.inj hr
    exact done_ret (r1 := (.tup [(.agg [(.row (some true) 1 []), (eI .i64 0)]), (eI .i64 6)])) (res2 Try.results13 (rvC rfl (ldP rfl (partN (ds := [(.row (some true) 1 []), (eI .i64 0)]) ti24 rfl (Nat.le_of_ble_eq_true rfl) rfl))) (rvT rfl)) (Ghost.trans (Ghost.virt (fr' := [(0, (.tup [(.agg [(.sl 2 0 0 1 false), (eI .i64 0)]), (eI .i64 6)]))]) (h1 := [some ⟨24, [(.row none 1 (b_Data.map (eI .u8))), (eI .i64 b_N)]⟩, some ⟨24, [(.row (some true) 1 []), (eI .i64 0)]⟩]) 5 (FLe.le rfl (V.le_tup (V.les_cons (V.le_agg (V.les_cons (V.le_virt rfl) (V.les_cons (V.le_refl _ _) V.les_nil))) (V.les_cons (V.le_refl _ _) V.les_nil))) FLe.nil) (HLv.live (V.les_refl _ _) rfl (HLv.live (V.les_refl _ _) rfl HLv.nil))) (Ghost.rn [2] rfl rfl (FLe.le rfl (V.le_tup (V.les_cons (V.le_agg (V.les_cons (by first | exact V.le_refl _ _ | (simp only [len_set, len_cpy]; exact V.le_refl _ _)) (V.les_cons (V.le_refl _ _) V.les_nil))) (V.les_cons (V.le_refl _ _) V.les_nil))) FLe.nil) (HLe.live rfl V.les_nil rfl HLe.nil) rfl))
  · replace hr := iteF hr h2
    refine AB.seq_g fun K1 hK1 hG1 => ?_
    have J1 : ∀ (x15 : Bool), ref18_Append_J1 N b_Data b_N v vn x15 = some r → K1 (mkF 51 [(1, (eI .u64 v)), (2, (eI .i64 vn)), (3, (.ptr 0 0)), (6, (.ptr 1 0)), (15, (eB x15))]) [some ⟨24, [(.row none 1 (b_Data.map (eI .u8))), (eI .i64 b_N)]⟩, some ⟨24, [(.row (some true) 1 []), (eI .i64 0)]⟩] := by
      intro x15 hr
      unfold ref18_Append_J1 at hr
      refine hK1 _ _ ?_
      refine AB.cnd rfl (fun h3 => ?_) (fun h3 => ?_)
      · replace hr := iteT hr h3
        refine AB.seq ?_
        refine AB.rw ?_
        refine wS (v := (.agg [(.row (some true) 1 []), (eI .i64 0)])) (sv (d_build rfl (bldS ti24 pl24 rfl))) ?_
        refine wN (h' := [some ⟨24, [(.row none 1 (b_Data.map (eI .u8))), (eI .i64 b_N)]⟩, some ⟨24, [(.row (some true) 1 []), (eI .i64 0)]⟩]) (sv (d_store rfl rfl (stP ti24 rfl rfl rfl (Nat.le_of_ble_eq_true rfl) rfl))) ?_
        refine wS (v := (eI .i64 5)) (sv (d_assign rfl)) ?_
        refine OpsW.nil ?_
        refine Ex.then_mk ?_
        refine AB.ret ?_
        refine Ex.inBlock_ret_mk ?_
        refine Ex.then_ret_mk ?_
        obtain rfl := Option.some.inj hr
        exact done_ret (r1 := (.tup [(.agg [(.row (some true) 1 []), (eI .i64 0)]), (eI .i64 5)])) (res2 Try.results13 (rvC rfl (ldP rfl (partN (ds := [(.row (some true) 1 []), (eI .i64 0)]) ti24 rfl (Nat.le_of_ble_eq_true rfl) rfl))) (rvT rfl)) (Ghost.trans (Ghost.virt (fr' := [(0, (.tup [(.agg [(.sl 2 0 0 1 false), (eI .i64 0)]), (eI .i64 5)]))]) (h1 := [some ⟨24, [(.row none 1 (b_Data.map (eI .u8))), (eI .i64 b_N)]⟩, some ⟨24, [(.row (some true) 1 []), (eI .i64 0)]⟩]) 5 (FLe.le rfl (V.le_tup (V.les_cons (V.le_agg (V.les_cons (V.le_virt rfl) (V.les_cons (V.le_refl _ _) V.les_nil))) (V.les_cons (V.le_refl _ _) V.les_nil))) FLe.nil) (HLv.live (V.les_refl _ _) rfl (HLv.live (V.les_refl _ _) rfl HLv.nil))) (Ghost.rn [2] rfl rfl (FLe.le rfl (V.le_tup (V.les_cons (V.le_agg (V.les_cons (by first | exact V.le_refl _ _ | (simp only [len_set, len_cpy]; exact V.le_refl _ _)) (V.les_cons (V.le_refl _ _) V.les_nil))) (V.les_cons (V.le_refl _ _) V.les_nil))) FLe.nil) (HLe.live rfl V.les_nil rfl HLe.nil) rfl))
      · replace hr := iteF hr h3
        refine AB.seq ?_
        refine AB.rw ?_
        refine wS (v := (.ptr 0 1)) (sv (d_fa rfl (fap24_1 ..))) ?_
        refine wS (v := (eI .i64 b_N)) (sv (d_load rfl (ldP rfl (part1 ti3 rfl rfl)))) ?_
        refine wS (v := (eI .i64 vn)) (sv (d_move rfl)) ?_
        refine wS (v := (eI .i64 (IntKind.i64.wrap (b_N + vn)))) (sv (d_bin rfl rfl (bin_add ..))) ?_
        refine wS (v := (eB (decide (1600000 < (IntKind.i64.wrap (b_N + vn)))))) (sv (d_bin rfl rfl (bin_gtr ..))) ?_
        refine wS (v := (eB (decide (1600000 < (IntKind.i64.wrap (b_N + vn)))))) (sv (d_assign rfl)) ?_
        refine OpsW.nil ?_
        refine Ex.then_mk ?_
        refine AB.cnd rfl (fun h4 => ?_) (fun h4 => ?_)
        · replace hr := iteT hr h4
          refine AB.seq ?_
          refine AB.rw ?_
          refine wS (v := (.agg [(.row (some true) 1 []), (eI .i64 0)])) (sv (d_build rfl (bldS ti24 pl24 rfl))) ?_
          refine wN (h' := [some ⟨24, [(.row none 1 (b_Data.map (eI .u8))), (eI .i64 b_N)]⟩, some ⟨24, [(.row (some true) 1 []), (eI .i64 0)]⟩]) (sv (d_store rfl rfl (stP ti24 rfl rfl rfl (Nat.le_of_ble_eq_true rfl) rfl))) ?_
          refine wS (v := (eI .i64 4)) (sv (d_assign rfl)) ?_
          refine OpsW.nil ?_
          refine Ex.then_mk ?_
          refine AB.ret ?_
          refine Ex.inBlock_ret_mk ?_
          refine Ex.then_ret_mk ?_
          obtain rfl := Option.some.inj hr
          exact done_ret (r1 := (.tup [(.agg [(.row (some true) 1 []), (eI .i64 0)]), (eI .i64 4)])) (res2 Try.results13 (rvC rfl (ldP rfl (partN (ds := [(.row (some true) 1 []), (eI .i64 0)]) ti24 rfl (Nat.le_of_ble_eq_true rfl) rfl))) (rvT rfl)) (Ghost.trans (Ghost.virt (fr' := [(0, (.tup [(.agg [(.sl 2 0 0 1 false), (eI .i64 0)]), (eI .i64 4)]))]) (h1 := [some ⟨24, [(.row none 1 (b_Data.map (eI .u8))), (eI .i64 b_N)]⟩, some ⟨24, [(.row (some true) 1 []), (eI .i64 0)]⟩]) 5 (FLe.le rfl (V.le_tup (V.les_cons (V.le_agg (V.les_cons (V.le_virt rfl) (V.les_cons (V.le_refl _ _) V.les_nil))) (V.les_cons (V.le_refl _ _) V.les_nil))) FLe.nil) (HLv.live (V.les_refl _ _) rfl (HLv.live (V.les_refl _ _) rfl HLv.nil))) (Ghost.rn [2] rfl rfl (FLe.le rfl (V.le_tup (V.les_cons (V.le_agg (V.les_cons (by first | exact V.le_refl _ _ | (simp only [len_set, len_cpy]; exact V.le_refl _ _)) (V.les_cons (V.le_refl _ _) V.les_nil))) (V.les_cons (V.le_refl _ _) V.les_nil))) FLe.nil) (HLe.live rfl V.les_nil rfl HLe.nil) rfl))
        · replace hr := iteF hr h4
          refine AB.skip ?_
          refine Ex.inBlock_mk ?_
          refine Ex.then_mk ?_
          refine AB.seq_g fun K2 hK2 hG2 => ?_
          have J2 : ∀ (l2 : List Int), ref18_Append_J2 N b_N v vn l2 = some r → K2 (mkF 51 [(1, (eI .u64 v)), (2, (eI .i64 vn)), (6, (.ptr 0 0)), (8, (.ptr 1 0))]) [some ⟨24, [(.row (some true) 1 []), (eI .i64 0)]⟩, some ⟨24, [(.sl 2 0 l2.length 1 false), (eI .i64 b_N)]⟩, some ⟨5, l2.map (eI .u8)⟩] := by
            intro l2 hr
            unfold ref18_Append_J2 at hr
            refine hK2 _ _ ?_
            refine AB.seq_g fun K3 hK3 hG3 => ?_
            have J3 : ∀ (c1 : Int) (l2_1 : List Int), ref18_Append_J3 N c1 l2_1 = some r → K3 (mkF 51 [(6, (.ptr 0 0)), (8, (.ptr 1 0))]) [some ⟨24, [(.row (some true) 1 []), (eI .i64 0)]⟩, some ⟨24, [(.sl 2 0 l2_1.length 1 false), (eI .i64 c1)]⟩, some ⟨5, l2_1.map (eI .u8)⟩] := by
              intro c1 l2_1 hr
              unfold ref18_Append_J3 at hr
              refine hK3 _ _ ?_
              refine AB.seq ?_
              refine AB.rw ?_
              refine wS (v := (.agg [(.sl 2 0 l2_1.length 1 false), (eI .i64 c1)])) (sv (d_load rfl (ldP rfl (partN (ds := [(.sl 2 0 l2_1.length 1 false), (eI .i64 c1)]) ti24 rfl (Nat.le_of_ble_eq_true rfl) rfl)))) ?_
              refine wN (h' := [some ⟨24, [(.sl 2 0 l2_1.length 1 false), (eI .i64 c1)]⟩, some ⟨24, [(.sl 2 0 l2_1.length 1 false), (eI .i64 c1)]⟩, some ⟨5, l2_1.map (eI .u8)⟩]) (sv (d_store rfl rfl (stP ti24 rfl rfl rfl (Nat.le_of_ble_eq_true rfl) rfl))) ?_
              refine wS (v := (eI .i64 0)) (sv (d_assign rfl)) ?_
              refine OpsW.nil ?_
              refine Ex.then_mk ?_
              refine AB.ret ?_
              obtain rfl := Option.some.inj hr
              exact done_ret (r1 := (.tup [(.agg [(.sl 2 0 l2_1.length 1 false), (eI .i64 c1)]), (eI .i64 0)])) (res2 Try.results13 (rvC rfl (ldP rfl (partN (ds := [(.sl 2 0 l2_1.length 1 false), (eI .i64 c1)]) ti24 rfl (Nat.le_of_ble_eq_true rfl) rfl))) (rvT rfl)) (Ghost.rn [2] rfl rfl (FLe.same rfl FLe.nil) (HLe.live rfl (les_map (fun _ => rfl) _) (all_map (fun _ => rfl) _) HLe.nil) rfl)
            refine AB.seq ?_
            refine AB.rw ?_
            refine wS (v := (eI .i64 vn)) (sv (d_move rfl)) ?_
            refine wS (v := (eI .i64 (IntKind.i64.wrap (vn - 1)))) (sv (d_bin rfl rfl (bin_sub ..))) ?_
            refine wS (v := (eI .i64 (IntKind.i64.wrap (vn - 1)))) (sv (d_assign rfl)) ?_
            refine OpsW.nil ?_
            refine Ex.then_mk ?_
            replace hr := bnd hr; obtain ⟨res4, hL4, hr⟩ := hr
            refine AB.block ?_
            refine AB.loopN (fun m s h => ∃ (vi : Int) (c1_1 : Int) (l2_2 : List Int), ref18_Append_L4 N v m vi c1_1 l2_2 = some res4 ∧ Ghost 0 s h (mkF 51 [(1, (eI .u64 v)), (6, (.ptr 0 0)), (8, (.ptr 1 0)), (9, (eI .i64 vi))]) [some ⟨24, [(.row (some true) 1 []), (eI .i64 0)]⟩, some ⟨24, [(.sl 2 0 l2_2.length 1 false), (eI .i64 c1_1)]⟩, some ⟨5, l2_2.map (eI .u8)⟩]) (n := N) ⟨IntKind.i64.wrap (vn - 1), b_N, l2, hL4, (Ghost.rn [0, 1, 2] rfl rfl (FLe.same rfl (FLe.same rfl (FLe.same rfl (FLe.same rfl FLe.nil)))) (HLe.live rfl (V.les_refl _ _) rfl (HLe.live rfl (V.les_refl _ _) rfl (HLe.live rfl (les_map (fun _ => rfl) _) (all_map (fun _ => rfl) _) HLe.nil))) rfl)⟩ (by rintro s h ⟨_, _, _, h0, _⟩; simp [ref18_Append_L4] at h0) ?_
            rintro m4 s h ⟨vi, c1_1, l2_2, hr4, hg⟩
            refine AB.ghost hg ?_
            clear hg hL4
            rw [ref18_Append_L4] at hr4
            refine AB.seq ?_
            refine AB.seq ?_
            refine AB.rw ?_
            refine wS (v := (eI .i64 vi)) (sv (d_move rfl)) ?_
            refine wS (v := (eB (decide (0 ≤ vi)))) (sv (d_bin rfl rfl (bin_geq ..))) ?_
            refine OpsW.nil ?_
            refine Ex.then_mk ?_
            refine AB.cnd rfl (fun h5 => ?_) (fun h5 => ?_)
            · replace hr4 := iteT hr4 h5
              refine AB.skip ?_
              refine Ex.then_mk ?_
              refine AB.seq ?_
              refine AB.block ?_
              replace hr4 := bnd hr4; obtain ⟨x46, h_6, hr4⟩ := hr4
              replace hr4 := bnd hr4; obtain ⟨x49, h_7, hr4⟩ := hr4
              have hc8 : Vm.Fn Try.prog 26 [some ⟨24, [(.row (some true) 1 []), (eI .i64 0)]⟩, some ⟨24, [(.sl 2 0 l2_2.length 1 false), (eI .i64 c1_1)]⟩, some ⟨5, l2_2.map (eI .u8)⟩] [(.agg [(.sl 2 0 l2_2.length 1 false), (eI .i64 c1_1)]), (eB ((bits .and .u64 x46 1) == 1))] (.agg [(.sl 3 0 x49.1.length 1 false), (eI .i64 x49.2)]) [some ⟨24, [(.row (some true) 1 []), (eI .i64 0)]⟩, some ⟨24, [(.sl 2 0 l2_2.length 1 false), (eI .i64 c1_1)]⟩, none, some ⟨5, x49.1.map (eI .u8)⟩] := (Vm.Fn.lendB (ref18_put_ok N l2_2 c1_1 ((bits .and .u64 x46 1) == 1) x49 h_7) [2] (by decide) rfl (Lend.cons rfl (rns_map (fun _ => rfl) _) Lend.nil) rfl rfl (by simp only [lent, lendSet, lendSet_nil, rnH, Blk.rn, V.rns, V.rn, sg, List.map_cons, List.map_nil, Option.map_some, Option.map_none, List.drop_succ_cons, List.drop_zero, List.drop_nil, List.set_cons_zero, List.set_cons_succ, List.cons_append, List.nil_append, List.append_nil, rns_eI, rns_eB, rns_eS, rns_eL, List.getElem?_cons_zero, List.getElem?_cons_succ, List.getElem?_nil, List.length_cons, List.length_nil, Nat.reduceAdd, Nat.reduceSub, Nat.add_zero, Nat.zero_add, Nat.sub_self, Nat.sub_zero]))
              refine AB.rg (Env.one mixed hc8 noF (fun _ h => by cases h)) (fun _ => by show drawOk noF _ = true; decide +kernel) ?_
              refine tS (v := (.agg [(.sl 2 0 l2_2.length 1 false), (eI .i64 c1_1)])) (sv (d_load rfl (ldP rfl (partN (ds := [(.sl 2 0 l2_2.length 1 false), (eI .i64 c1_1)]) ti24 rfl (Nat.le_of_ble_eq_true rfl) rfl)))) ?_
              refine tS (v := (eI .u64 v)) (sv (d_move rfl)) ?_
              refine tS (v := (eI .i64 vi)) (sv (d_move rfl)) ?_
              refine tS (v := (eI .u64 x46)) (sv (d_bin rfl rfl (bin_shr' _ _ _ _ h_6))) ?_
              refine tS (v := (eI .u64 (bits .and .u64 x46 1))) (sv (d_bin rfl rfl (bin_and ..))) ?_
              refine tS (v := (eB ((bits .and .u64 x46 1) == 1))) (sv (d_bin rfl rfl (bin_eql ..))) ?_
              refine tS (v := (.agg [(.sl 3 0 x49.1.length 1 false), (eI .i64 x49.2)])) (h' := [some ⟨24, [(.row (some true) 1 []), (eI .i64 0)]⟩, some ⟨24, [(.sl 2 0 l2_2.length 1 false), (eI .i64 c1_1)]⟩, none, some ⟨5, x49.1.map (eI .u8)⟩]) (sv (d_call rfl Env.one_O)) ?_
              refine tN (h' := [some ⟨24, [(.row (some true) 1 []), (eI .i64 0)]⟩, some ⟨24, [(.sl 3 0 x49.1.length 1 false), (eI .i64 x49.2)]⟩, none, some ⟨5, x49.1.map (eI .u8)⟩]) (sv (d_store rfl rfl (stP ti24 rfl rfl rfl (Nat.le_of_ble_eq_true rfl) rfl))) ?_
              refine OpsTo.nil ?_
              refine Ex.inBlock_mk ?_
              refine Ex.then_mk ?_
              refine AB.rw ?_
              refine wS (v := (eI .i64 vi)) (sv (d_move rfl)) ?_
              refine wS (v := (eI .i64 (IntKind.i64.wrap (vi - 1)))) (sv (d_bin rfl rfl (bin_sub ..))) ?_
              refine wS (v := (eI .i64 (IntKind.i64.wrap (vi - 1)))) (sv (d_assign rfl)) ?_
              refine OpsW.nil ?_
              refine Ex.then_mk ?_
              exact ⟨IntKind.i64.wrap (vi - 1), x49.2, x49.1, hr4, (Ghost.rn [0, 1, 3] rfl rfl (FLe.same rfl (FLe.same rfl (FLe.same rfl (FLe.same rfl FLe.nil)))) (HLe.live rfl (V.les_refl _ _) rfl (HLe.live rfl (V.les_refl _ _) rfl (HLe.live rfl (les_map (fun _ => rfl) _) (all_map (fun _ => rfl) _) HLe.nil))) rfl)⟩
            · replace hr4 := iteF hr4 h5
              refine AB.exit ?_
              refine Ex.then_exit_mk ?_
              refine Ex.then_exit_mk ?_
              refine Ex.inBlock_same_mk ?_
              obtain rfl := Option.some.inj hr4
              refine Ex.then_mk ?_
              exact hG3 _ _ _ _ (Ghost.rn [0, 1, 2] rfl rfl (FLe.same rfl (FLe.same rfl FLe.nil)) (HLe.live rfl (V.les_refl _ _) rfl (HLe.live rfl (V.les_refl _ _) rfl (HLe.live rfl (les_map (fun _ => rfl) _) (all_map (fun _ => rfl) _) HLe.nil))) rfl) (J3 c1_1 l2_2 hr)
          replace hr := bnd hr; obtain ⟨x33, h_9, hr⟩ := hr
          refine AB.rd (memF []) (memF [25]) mixed ?_
          refine DrawG.pick (n := 8) (i := 0) (by decide +kernel) rfl (gS (v := (.ptr 0 0)) (sv (d_fa rfl (fap24_0 ..)))) ?_
          refine DrawG.pick (n := 7) (i := 1) (by decide +kernel) rfl (gS (v := (.row none 1 (b_Data.map (eI .u8)))) (sv (d_load rfl (ldP rfl (part1 ti22 rfl rfl))))) ?_
          refine DrawG.pick (n := 6) (i := 4) (by decide +kernel) rfl (gS (v := (.ptr 0 1)) (sv (d_fa rfl (fap24_1 ..)))) ?_
          refine DrawG.pick (n := 5) (i := 5) (by decide +kernel) rfl (gS (v := (eI .i64 b_N)) (sv (d_load rfl (ldP rfl (part1 ti3 rfl rfl))))) ?_
          refine DrawG.fork (n := 4) [2, 7] (by decide +kernel) (by decide) ?_
          refine (Fork.cons rfl (gS (v := (.sl 2 0 1 1 false)) (h' := [some ⟨24, [(.row none 1 (b_Data.map (eI .u8))), (eI .i64 b_N)]⟩, some ⟨24, [(.row (some true) 1 []), (eI .i64 0)]⟩, some ⟨22, [b_Data].map (eL 1 (eI .u8))⟩]) (sv (d_buildS rfl (bldL1 (xs := [b_Data].map (eL 1 (eI .u8))) ti52 ti22 (Nat.le_of_ble_eq_true rfl) (Nat.le_of_ble_eq_true rfl) rfl rfl rfl rfl rfl rfl rfl)))) ?_ (Fork.cons rfl (gS (v := (.ptr 2 0)) (h' := [some ⟨24, [(.row none 1 (b_Data.map (eI .u8))), (eI .i64 b_N)]⟩, some ⟨24, [(.row (some true) 1 []), (eI .i64 0)]⟩, some ⟨24, [(.row (some true) 1 []), (eI .i64 0)]⟩]) (sv (d_alloc ti24 rfl rfl rfl))) ?_ Fork.nil))
          · refine DrawG.fork (n := 3) [3, 7] (by decide +kernel) (by decide) ?_
            refine (Fork.cons rfl (gC (v := (.sl 3 0 x33.length 1 false)) (h' := [some ⟨24, [(.row none 1 (b_Data.map (eI .u8))), (eI .i64 b_N)]⟩, some ⟨24, [(.row (some true) 1 []), (eI .i64 0)]⟩, some ⟨22, [b_Data].map (eL 1 (eI .u8))⟩, some ⟨5, x33.map (eI .u8)⟩]) (Vm.Fn.lendR (ref01_Join_ok N [b_Data] x33 h_9) [] [2] (by decide) rfl (by decide) Lend.nil (Brw.row (exp_slT rfl rfl (fun _ => rfl)) Brw.nil) rfl (rfB.live (rfs_map (fun _ => rfl) _) rfB.nil) rfl (by simp only [lent, lendSet, lendSet_nil, rnH, Blk.rn, V.rns, V.rn, sg, List.map_cons, List.map_nil, Option.map_some, Option.map_none, List.drop_succ_cons, List.drop_zero, List.drop_nil, List.set_cons_zero, List.set_cons_succ, List.cons_append, List.nil_append, List.append_nil, rns_eI, rns_eB, rns_eS, rns_eL, List.getElem?_cons_zero, List.getElem?_cons_succ, List.getElem?_nil, List.length_cons, List.length_nil, Nat.reduceAdd, Nat.reduceSub, Nat.add_zero, Nat.zero_add, Nat.sub_self, Nat.sub_zero])) (fun h => absurd h (by decide)) (fun _ => ⟨_, rfl⟩) (sv (d_call rfl orc1_hit))) ?_ (Fork.cons rfl (gS (v := (.ptr 3 0)) (h' := [some ⟨24, [(.row none 1 (b_Data.map (eI .u8))), (eI .i64 b_N)]⟩, some ⟨24, [(.row (some true) 1 []), (eI .i64 0)]⟩, some ⟨22, [b_Data].map (eL 1 (eI .u8))⟩, some ⟨24, [(.row (some true) 1 []), (eI .i64 0)]⟩]) (sv (d_alloc ti24 rfl rfl rfl))) ?_ Fork.nil))
            · refine DrawG.pick (n := 2) (i := 6) (by decide +kernel) rfl (gS (v := (.agg [(.sl 3 0 x33.length 1 false), (eI .i64 b_N)])) (sv (d_build rfl (bldS ti24 pl24 rfl)))) ?_
              refine DrawG.pick (n := 1) (i := 7) (by decide +kernel) rfl (gS (v := (.ptr 4 0)) (h' := [some ⟨24, [(.row none 1 (b_Data.map (eI .u8))), (eI .i64 b_N)]⟩, some ⟨24, [(.row (some true) 1 []), (eI .i64 0)]⟩, some ⟨22, [b_Data].map (eL 1 (eI .u8))⟩, some ⟨5, x33.map (eI .u8)⟩, some ⟨24, [(.row (some true) 1 []), (eI .i64 0)]⟩]) (sv (d_alloc ti24 rfl rfl rfl))) ?_
              refine DrawG.pick (n := 0) (i := 8) (by decide +kernel) rfl (gN (h' := [some ⟨24, [(.row none 1 (b_Data.map (eI .u8))), (eI .i64 b_N)]⟩, some ⟨24, [(.row (some true) 1 []), (eI .i64 0)]⟩, some ⟨22, [b_Data].map (eL 1 (eI .u8))⟩, some ⟨5, x33.map (eI .u8)⟩, some ⟨24, [(.sl 3 0 x33.length 1 false), (eI .i64 b_N)]⟩]) (sv (d_store rfl rfl (stP ti24 rfl rfl rfl (Nat.le_of_ble_eq_true rfl) rfl)))) ?_
              refine DrawG.nil (by decide +kernel) ?_
              refine Ex.then_mk ?_
              exact hG2 _ _ _ _ (Ghost.rn [1, 4, 3] rfl rfl (FLe.same rfl (FLe.same rfl (FLe.same rfl (FLe.same rfl FLe.nil)))) (HLe.live rfl (V.les_refl _ _) rfl (HLe.live rfl (V.les_refl _ _) rfl (HLe.live rfl (les_map (fun _ => rfl) _) (all_map (fun _ => rfl) _) HLe.nil))) rfl) (J2 x33 hr)
            · refine DrawG.pick (n := 2) (i := 3) (by decide +kernel) rfl (gC (v := (.sl 4 0 x33.length 1 false)) (h' := [some ⟨24, [(.row none 1 (b_Data.map (eI .u8))), (eI .i64 b_N)]⟩, some ⟨24, [(.row (some true) 1 []), (eI .i64 0)]⟩, some ⟨22, [b_Data].map (eL 1 (eI .u8))⟩, some ⟨24, [(.row (some true) 1 []), (eI .i64 0)]⟩, some ⟨5, x33.map (eI .u8)⟩]) (Vm.Fn.lendR (ref01_Join_ok N [b_Data] x33 h_9) [] [2] (by decide) rfl (by decide) Lend.nil (Brw.row (exp_slT rfl rfl (fun _ => rfl)) Brw.nil) rfl (rfB.live (rfs_map (fun _ => rfl) _) rfB.nil) rfl (by simp only [lent, lendSet, lendSet_nil, rnH, Blk.rn, V.rns, V.rn, sg, List.map_cons, List.map_nil, Option.map_some, Option.map_none, List.drop_succ_cons, List.drop_zero, List.drop_nil, List.set_cons_zero, List.set_cons_succ, List.cons_append, List.nil_append, List.append_nil, rns_eI, rns_eB, rns_eS, rns_eL, List.getElem?_cons_zero, List.getElem?_cons_succ, List.getElem?_nil, List.length_cons, List.length_nil, Nat.reduceAdd, Nat.reduceSub, Nat.add_zero, Nat.zero_add, Nat.sub_self, Nat.sub_zero])) (fun h => absurd h (by decide)) (fun _ => ⟨_, rfl⟩) (sv (d_call rfl orc1_hit))) ?_
              refine DrawG.pick (n := 1) (i := 6) (by decide +kernel) rfl (gS (v := (.agg [(.sl 4 0 x33.length 1 false), (eI .i64 b_N)])) (sv (d_build rfl (bldS ti24 pl24 rfl)))) ?_
              refine DrawG.pick (n := 0) (i := 8) (by decide +kernel) rfl (gN (h' := [some ⟨24, [(.row none 1 (b_Data.map (eI .u8))), (eI .i64 b_N)]⟩, some ⟨24, [(.row (some true) 1 []), (eI .i64 0)]⟩, some ⟨22, [b_Data].map (eL 1 (eI .u8))⟩, some ⟨24, [(.sl 4 0 x33.length 1 false), (eI .i64 b_N)]⟩, some ⟨5, x33.map (eI .u8)⟩]) (sv (d_store rfl rfl (stP ti24 rfl rfl rfl (Nat.le_of_ble_eq_true rfl) rfl)))) ?_
              refine DrawG.nil (by decide +kernel) ?_
              refine Ex.then_mk ?_
              exact hG2 _ _ _ _ (Ghost.rn [1, 3, 4] rfl rfl (FLe.same rfl (FLe.same rfl (FLe.same rfl (FLe.same rfl FLe.nil)))) (HLe.live rfl (V.les_refl _ _) rfl (HLe.live rfl (V.les_refl _ _) rfl (HLe.live rfl (les_map (fun _ => rfl) _) (all_map (fun _ => rfl) _) HLe.nil))) rfl) (J2 x33 hr)
          · refine DrawG.pick (n := 3) (i := 2) (by decide +kernel) rfl (gS (v := (.sl 3 0 1 1 false)) (h' := [some ⟨24, [(.row none 1 (b_Data.map (eI .u8))), (eI .i64 b_N)]⟩, some ⟨24, [(.row (some true) 1 []), (eI .i64 0)]⟩, some ⟨24, [(.row (some true) 1 []), (eI .i64 0)]⟩, some ⟨22, [b_Data].map (eL 1 (eI .u8))⟩]) (sv (d_buildS rfl (bldL1 (xs := [b_Data].map (eL 1 (eI .u8))) ti52 ti22 (Nat.le_of_ble_eq_true rfl) (Nat.le_of_ble_eq_true rfl) rfl rfl rfl rfl rfl rfl rfl)))) ?_
            refine DrawG.pick (n := 2) (i := 3) (by decide +kernel) rfl (gC (v := (.sl 4 0 x33.length 1 false)) (h' := [some ⟨24, [(.row none 1 (b_Data.map (eI .u8))), (eI .i64 b_N)]⟩, some ⟨24, [(.row (some true) 1 []), (eI .i64 0)]⟩, some ⟨24, [(.row (some true) 1 []), (eI .i64 0)]⟩, some ⟨22, [b_Data].map (eL 1 (eI .u8))⟩, some ⟨5, x33.map (eI .u8)⟩]) (Vm.Fn.lendR (ref01_Join_ok N [b_Data] x33 h_9) [] [3] (by decide) rfl (by decide) Lend.nil (Brw.row (exp_slT rfl rfl (fun _ => rfl)) Brw.nil) rfl (rfB.live (rfs_map (fun _ => rfl) _) rfB.nil) rfl (by simp only [lent, lendSet, lendSet_nil, rnH, Blk.rn, V.rns, V.rn, sg, List.map_cons, List.map_nil, Option.map_some, Option.map_none, List.drop_succ_cons, List.drop_zero, List.drop_nil, List.set_cons_zero, List.set_cons_succ, List.cons_append, List.nil_append, List.append_nil, rns_eI, rns_eB, rns_eS, rns_eL, List.getElem?_cons_zero, List.getElem?_cons_succ, List.getElem?_nil, List.length_cons, List.length_nil, Nat.reduceAdd, Nat.reduceSub, Nat.add_zero, Nat.zero_add, Nat.sub_self, Nat.sub_zero])) (fun h => absurd h (by decide)) (fun _ => ⟨_, rfl⟩) (sv (d_call rfl orc1_hit))) ?_
            refine DrawG.pick (n := 1) (i := 6) (by decide +kernel) rfl (gS (v := (.agg [(.sl 4 0 x33.length 1 false), (eI .i64 b_N)])) (sv (d_build rfl (bldS ti24 pl24 rfl)))) ?_
            refine DrawG.pick (n := 0) (i := 8) (by decide +kernel) rfl (gN (h' := [some ⟨24, [(.row none 1 (b_Data.map (eI .u8))), (eI .i64 b_N)]⟩, some ⟨24, [(.row (some true) 1 []), (eI .i64 0)]⟩, some ⟨24, [(.sl 4 0 x33.length 1 false), (eI .i64 b_N)]⟩, some ⟨22, [b_Data].map (eL 1 (eI .u8))⟩, some ⟨5, x33.map (eI .u8)⟩]) (sv (d_store rfl rfl (stP ti24 rfl rfl rfl (Nat.le_of_ble_eq_true rfl) rfl)))) ?_
            refine DrawG.nil (by decide +kernel) ?_
            refine Ex.then_mk ?_
            exact hG2 _ _ _ _ (Ghost.rn [1, 2, 4] rfl rfl (FLe.same rfl (FLe.same rfl (FLe.same rfl (FLe.same rfl FLe.nil)))) (HLe.live rfl (V.les_refl _ _) rfl (HLe.live rfl (V.les_refl _ _) rfl (HLe.live rfl (les_map (fun _ => rfl) _) (all_map (fun _ => rfl) _) HLe.nil))) rfl) (J2 x33 hr)
    rcases Bool.eq_false_or_eq_true (decide (vn < 0)) with h11 | h11
    · replace hr := iteT hr h11
      refine AB.rw ?_
      refine wS (v := (eI .i64 vn)) (sv (d_move rfl)) ?_
      refine wS (v := (eB (decide (vn < 0)))) (sv (d_bin rfl rfl (bin_lss ..))) ?_
      refine wS (v := (eB (decide (vn < 0)))) (sv (d_move rfl)) ?_
      refine wS (svX rfl rfl h11) ?_
      refine wS (svX rfl rfl h11) ?_
      refine wS (v := (eB true)) (sv (d_pickT rfl h11 rfl)) ?_
      refine wS (v := (eB true)) (sv (d_assign rfl)) ?_
      refine OpsW.nil ?_
      refine Ex.then_mk ?_
      exact hG1 _ _ _ _ (Ghost.rn [0, 1] rfl rfl (FLe.same rfl (FLe.same rfl (FLe.same rfl (FLe.same rfl (FLe.same rfl FLe.nil))))) (HLe.live rfl (V.les_refl _ _) rfl (HLe.live rfl (V.les_refl _ _) rfl HLe.nil)) rfl) (J1 true hr)
    · replace hr := iteF hr h11
      refine AB.rw ?_
      refine wS (v := (eI .i64 vn)) (sv (d_move rfl)) ?_
      refine wS (v := (eB (decide (vn < 0)))) (sv (d_bin rfl rfl (bin_lss ..))) ?_
      refine wS (v := (eB (decide (vn < 0)))) (sv (d_move rfl)) ?_
      refine wS (v := (eI .i64 vn)) (svG rfl rfl h11 (d_move rfl)) ?_
      refine wS (v := (eB (decide (64 < vn)))) (svG rfl rfl h11 (d_bin rfl rfl (bin_gtr ..))) ?_
      refine wS (v := (eB (decide (64 < vn)))) (sv (d_pickF rfl h11 rfl)) ?_
      refine wS (v := (eB (decide (64 < vn)))) (sv (d_assign rfl)) ?_
      refine OpsW.nil ?_
      refine Ex.then_mk ?_
      exact hG1 _ _ _ _ (Ghost.rn [0, 1] rfl rfl (FLe.same rfl (FLe.same rfl (FLe.same rfl (FLe.same rfl (FLe.same rfl FLe.nil))))) (HLe.live rfl (V.les_refl _ _) rfl (HLe.live rfl (V.les_refl _ _) rfl HLe.nil)) rfl) (J1 (decide (64 < vn)) hr)
set_option maxRecDepth 20000 in
set_option maxHeartbeats 1000000 in
theorem ref01_Same_ok (N : Nat) (va : List Int) (b : List Int) (r : Bool) (hr : ref01_Same N va b = some r) :
    Vm.Fn Try.prog 28 [] [(.row none 1 (va.map (eI .u8))), (.row none 1 (b.map (eI .u8)))] (eB r) [] := by
  refine fn_ab Try.func28 rfl (by kernel_rfl) Try.ntmps28 (Nat.le_of_ble_eq_true rfl) rfl (fr := [(0, (.row none 1 (va.map (eI .u8)))), (1, (.row none 1 (b.map (eI .u8))))]) rfl ?_
  unfold ref01_Same at hr
  refine AB.seq ?_
  refine AB.rw ?_
  refine wS (v := (eB false)) (sv (d_assign rfl)) ?_
  refine OpsW.nil ?_
  refine Ex.then_mk ?_
  refine AB.seq ?_
  refine AB.rw ?_
  refine wS (v := (.row none 1 (va.map (eI .u8)))) (sv (d_move rfl)) ?_
  refine wS (v := (eS (strOf va))) (sv (d_conv rfl (convB ti22 ti9 ti5 (srcR (fun _ => rfl))))) ?_
  refine wS (v := (.row none 1 (b.map (eI .u8)))) (sv (d_move rfl)) ?_
  refine wS (v := (eS (strOf b))) (sv (d_conv rfl (convB ti22 ti9 ti5 (srcR (fun _ => rfl))))) ?_
  refine wS (v := (eB ((strOf va).toList == (strOf b).toList))) (sv (d_bin rfl rfl (bin_eqlS ..))) ?_
  refine wS (v := (eB ((strOf va).toList == (strOf b).toList))) (sv (d_assign rfl)) ?_
  refine OpsW.nil ?_
  refine Ex.then_mk ?_
  refine AB.ret ?_
  obtain rfl := Option.some.inj hr
  exact done_ret (r1 := (eB ((strOf va).toList == (strOf b).toList))) (res1 Try.results28 (rvT rfl)) (Ghost.rn [] rfl rfl (FLe.same rfl FLe.nil) HLe.nil rfl)
set_option maxRecDepth 20000 in
set_option maxHeartbeats 1000000 in
theorem ref18_Same_ok (N : Nat) (a_Data : List Int) (a_N : Int) (b_Data : List Int) (b_N : Int) (r : Bool) (hr : ref18_Same N a_Data a_N b_Data b_N = some r) :
    Vm.Fn Try.prog 16 [] [(.agg [(.row none 1 (a_Data.map (eI .u8))), (eI .i64 a_N)]), (.agg [(.row none 1 (b_Data.map (eI .u8))), (eI .i64 b_N)])] (eB r) [] := by
  refine fn_ab Try.func16 rfl (by kernel_rfl) Try.ntmps16 (Nat.le_of_ble_eq_true rfl) rfl (fr := [(0, (.agg [(.row none 1 (a_Data.map (eI .u8))), (eI .i64 a_N)])), (1, (.agg [(.row none 1 (b_Data.map (eI .u8))), (eI .i64 b_N)]))]) rfl ?_
  unfold ref18_Same at hr
  refine AB.seq ?_
  refine AB.rw ?_
  refine wS (v := (.ptr 0 0)) (h' := [some ⟨24, [(.row none 1 (a_Data.map (eI .u8))), (eI .i64 a_N)]⟩]) (sv (d_box rfl rfl rfl rfl)) ?_
  refine wS (v := (.ptr 1 0)) (h' := [some ⟨24, [(.row none 1 (a_Data.map (eI .u8))), (eI .i64 a_N)]⟩, some ⟨24, [(.row none 1 (b_Data.map (eI .u8))), (eI .i64 b_N)]⟩]) (sv (d_box rfl rfl rfl rfl)) ?_
  refine wS (v := (eB false)) (sv (d_assign rfl)) ?_
  refine OpsW.nil ?_
  refine Ex.then_mk ?_
  refine AB.seq_g fun K1 hK1 hG1 => ?_
  have J1 : ∀ (x4 : Bool), ref18_Same_J1 N x4 = some r → K1 (mkF 17 [(4, (eB x4))]) [] := by
    intro x4 hr
    unfold ref18_Same_J1 at hr
    refine hK1 _ _ ?_
    refine AB.ret ?_
    obtain rfl := Option.some.inj hr
    exact done_ret (r1 := (eB x4)) (res1 Try.results16 (rvT rfl)) (Ghost.rn [] rfl rfl (FLe.same rfl FLe.nil) HLe.nil rfl)
  rcases Bool.eq_false_or_eq_true (a_N == b_N) with h1 | h1
  · replace hr := iteT hr h1
    replace hr := bnd hr; obtain ⟨x15, h_2, hr⟩ := hr
    refine AB.rw ?_
    refine wS (v := (.ptr 0 1)) (sv (d_fa rfl (fap24_1 ..))) ?_
    refine wS (v := (eI .i64 a_N)) (sv (d_load rfl (ldP rfl (part1 ti3 rfl rfl)))) ?_
    refine wS (v := (.ptr 1 1)) (sv (d_fa rfl (fap24_1 ..))) ?_
    refine wS (v := (eI .i64 b_N)) (sv (d_load rfl (ldP rfl (part1 ti3 rfl rfl)))) ?_
    refine wS (v := (eB (a_N == b_N))) (sv (d_bin rfl rfl (bin_eql ..))) ?_
    refine wS (v := (eB (a_N == b_N))) (sv (d_move rfl)) ?_
    refine wS (v := (.ptr 0 0)) (svG rfl rfl h1 (d_fa rfl (fap24_0 ..))) ?_
    refine wS (v := (.row none 1 (a_Data.map (eI .u8)))) (svG rfl rfl h1 (d_load rfl (ldP rfl (part1 ti22 rfl rfl)))) ?_
    refine wS (v := (.ptr 1 0)) (svG rfl rfl h1 (d_fa rfl (fap24_0 ..))) ?_
    refine wS (v := (.row none 1 (b_Data.map (eI .u8)))) (svG rfl rfl h1 (d_load rfl (ldP rfl (part1 ti22 rfl rfl)))) ?_
    refine wCG (v := (eB x15)) (h' := [some ⟨24, [(.row none 1 (a_Data.map (eI .u8))), (eI .i64 a_N)]⟩, some ⟨24, [(.row none 1 (b_Data.map (eI .u8))), (eI .i64 b_N)]⟩]) rfl rfl h1 rfl (Vm.Fn.pure (ref01_Same_ok N a_Data b_Data x15 h_2) rfl rfl) ?_
    refine wS (v := (eB x15)) (sv (d_pickT rfl h1 rfl)) ?_
    refine wS (v := (eB x15)) (sv (d_assign rfl)) ?_
    refine OpsW.nil ?_
    refine Ex.then_mk ?_
    exact hG1 _ _ _ _ (Ghost.rn [] rfl rfl (FLe.same rfl FLe.nil) HLe.nil rfl) (J1 x15 hr)
  · replace hr := iteF hr h1
    refine AB.rw ?_
    refine wS (v := (.ptr 0 1)) (sv (d_fa rfl (fap24_1 ..))) ?_
    refine wS (v := (eI .i64 a_N)) (sv (d_load rfl (ldP rfl (part1 ti3 rfl rfl)))) ?_
    refine wS (v := (.ptr 1 1)) (sv (d_fa rfl (fap24_1 ..))) ?_
    refine wS (v := (eI .i64 b_N)) (sv (d_load rfl (ldP rfl (part1 ti3 rfl rfl)))) ?_
    refine wS (v := (eB (a_N == b_N))) (sv (d_bin rfl rfl (bin_eql ..))) ?_
    refine wS (v := (eB (a_N == b_N))) (sv (d_move rfl)) ?_
    refine wS (svX rfl rfl h1) ?_
    refine wS (svX rfl rfl h1) ?_
    refine wS (svX rfl rfl h1) ?_
    refine wS (svX rfl rfl h1) ?_
    refine wS (svX rfl rfl h1) ?_
    refine wS (v := (eB false)) (sv (d_pickF rfl h1 rfl)) ?_
    refine wS (v := (eB false)) (sv (d_assign rfl)) ?_
    refine OpsW.nil ?_
    refine Ex.then_mk ?_
    exact hG1 _ _ _ _ (Ghost.rn [] rfl rfl (FLe.same rfl FLe.nil) HLe.nil rfl) (J1 false hr)
set_option maxRecDepth 20000 in
set_option maxHeartbeats 1000000 in
theorem law18_BitsAppends_ok (N : Nat) (b_Data : List Int) (b_N : Int) (v : Int) (vn : Int) (r : Bool) (hr : law18_BitsAppends N b_Data b_N v vn = some r) :
    Vm.Fn Try.prog 3 [] [(.agg [(.row none 1 (b_Data.map (eI .u8))), (eI .i64 b_N)]), (eI .u64 v), (eI .i64 vn)] (eB r) [] := by
  refine fn_ab Try.func3 rfl (by kernel_rfl) Try.ntmps3 (Nat.le_of_ble_eq_true rfl) rfl (fr := [(0, (.agg [(.row none 1 (b_Data.map (eI .u8))), (eI .i64 b_N)])), (1, (eI .u64 v)), (2, (eI .i64 vn))]) rfl ?_
  unfold law18_BitsAppends at hr
  refine AB.seq ?_
  refine AB.rw ?_
  refine wS (v := (.ptr 0 0)) (h' := [some ⟨24, [(.row none 1 (b_Data.map (eI .u8))), (eI .i64 b_N)]⟩]) (sv (d_box rfl rfl rfl rfl)) ?_
  refine wS (v := (eB false)) (sv (d_assign rfl)) ?_
  refine OpsW.nil ?_
  refine Ex.then_mk ?_
  refine AB.seq ?_
  refine AB.seq ?_
  replace hr := bnd hr; obtain ⟨x11, h_1, hr⟩ := hr
  refine AB.rw ?_
  refine wC (v := (eB x11)) (h' := [some ⟨24, [(.row none 1 (b_Data.map (eI .u8))), (eI .i64 b_N)]⟩]) rfl (Vm.Fn.pure (law18_sane_ok N x11 h_1) rfl rfl) ?_
  refine wS (v := (eB (!x11))) (sv (d_un rfl (un_not _ _))) ?_
  refine OpsW.nil ?_
  refine Ex.then_mk ?_
  refine AB.cnd rfl (fun h2 => ?_) (fun h2 => ?_)
  · replace hr := iteT hr h2
    refine AB.seq ?_
    refine AB.rw ?_
    refine wS (v := (eB false)) (sv (d_assign rfl)) ?_
    refine OpsW.nil ?_
    refine Ex.then_mk ?_
    refine AB.ret ?_
    refine Ex.then_ret_mk ?_
    obtain rfl := Option.some.inj hr
    exact done_ret (r1 := (eB false)) (res1 Try.results3 (rvT rfl)) (Ghost.rn [] rfl rfl (FLe.same rfl FLe.nil) HLe.nil rfl)
  · replace hr := iteF hr h2
    refine AB.skip ?_
    refine Ex.then_mk ?_
    refine AB.seq ?_
    refine AB.seq ?_
    replace hr := bnd hr; obtain ⟨x14, h_3, hr⟩ := hr
    refine AB.rw ?_
    refine wS (v := (.agg [(.row none 1 (b_Data.map (eI .u8))), (eI .i64 b_N)])) (sv (d_load rfl (ldP rfl (partN (ds := [(.row none 1 (b_Data.map (eI .u8))), (eI .i64 b_N)]) ti24 rfl (Nat.le_of_ble_eq_true rfl) rfl)))) ?_
    refine wC (v := (eB x14)) (h' := [some ⟨24, [(.row none 1 (b_Data.map (eI .u8))), (eI .i64 b_N)]⟩]) rfl (Vm.Fn.pure (law18_kept_ok N b_Data b_N x14 h_3) rfl rfl) ?_
    refine wS (v := (eB (!x14))) (sv (d_un rfl (un_not _ _))) ?_
    refine OpsW.nil ?_
    refine Ex.then_mk ?_
    refine AB.cnd rfl (fun h4 => ?_) (fun h4 => ?_)
    · replace hr := iteT hr h4
      refine AB.seq ?_
      refine AB.rw ?_
      refine wS (v := (eB true)) (sv (d_assign rfl)) ?_
      refine OpsW.nil ?_
      refine Ex.then_mk ?_
      refine AB.ret ?_
      refine Ex.then_ret_mk ?_
      obtain rfl := Option.some.inj hr
      exact done_ret (r1 := (eB true)) (res1 Try.results3 (rvT rfl)) (Ghost.rn [] rfl rfl (FLe.same rfl FLe.nil) HLe.nil rfl)
    · replace hr := iteF hr h4
      refine AB.skip ?_
      refine Ex.then_mk ?_
      refine AB.seq ?_
      replace hr := bnd hr; obtain ⟨x20, h_5, hr⟩ := hr
      refine AB.rw ?_
      refine wS (v := (.agg [(.row none 1 (b_Data.map (eI .u8))), (eI .i64 b_N)])) (sv (d_load rfl (ldP rfl (partN (ds := [(.row none 1 (b_Data.map (eI .u8))), (eI .i64 b_N)]) ti24 rfl (Nat.le_of_ble_eq_true rfl) rfl)))) ?_
      refine wS (v := (eI .u64 v)) (sv (d_move rfl)) ?_
      refine wS (v := (eI .i64 vn)) (sv (d_move rfl)) ?_
      refine wC (v := (.tup [(.agg [(.sl 1 0 x20.1.length 1 false), (eI .i64 x20.2.1)]), (eI .i64 x20.2.2)])) (h' := [some ⟨24, [(.row none 1 (b_Data.map (eI .u8))), (eI .i64 b_N)]⟩, some ⟨5, x20.1.map (eI .u8)⟩]) rfl (Vm.Fn.lendB (bits_Append_ok N b_Data b_N v vn x20 h_5) [] (by decide) rfl Lend.nil rfl rfl (by simp only [lent, lendSet, lendSet_nil, rnH, Blk.rn, V.rns, V.rn, sg, List.map_cons, List.map_nil, Option.map_some, Option.map_none, List.drop_succ_cons, List.drop_zero, List.drop_nil, List.set_cons_zero, List.set_cons_succ, List.cons_append, List.nil_append, List.append_nil, rns_eI, rns_eB, rns_eS, rns_eL, List.getElem?_cons_zero, List.getElem?_cons_succ, List.getElem?_nil, List.length_cons, List.length_nil, Nat.reduceAdd, Nat.reduceSub, Nat.add_zero, Nat.zero_add, Nat.sub_self, Nat.sub_zero])) ?_
      refine wS (v := (.tup [(.agg [(.sl 1 0 x20.1.length 1 false), (eI .i64 x20.2.1)]), (eI .i64 x20.2.2)])) (sv (d_move rfl)) ?_
      refine wS (v := (.agg [(.sl 1 0 x20.1.length 1 false), (eI .i64 x20.2.1)])) (sv (d_ext rfl rfl)) ?_
      refine wS (v := (eI .i64 x20.2.2)) (sv (d_ext rfl rfl)) ?_
      refine wS (v := (.ptr 2 0)) (h' := [some ⟨24, [(.row none 1 (b_Data.map (eI .u8))), (eI .i64 b_N)]⟩, some ⟨5, x20.1.map (eI .u8)⟩, some ⟨24, [(.row (some true) 1 []), (eI .i64 0)]⟩]) (sv (d_alloc ti24 rfl rfl rfl)) ?_
      refine wN (h' := [some ⟨24, [(.row none 1 (b_Data.map (eI .u8))), (eI .i64 b_N)]⟩, some ⟨5, x20.1.map (eI .u8)⟩, some ⟨24, [(.sl 1 0 x20.1.length 1 false), (eI .i64 x20.2.1)]⟩]) (sv (d_store rfl rfl (stP ti24 rfl rfl rfl (Nat.le_of_ble_eq_true rfl) rfl))) ?_
      refine wS (v := (eI .i64 x20.2.2)) (sv (d_assign rfl)) ?_
      refine OpsW.nil ?_
      refine Ex.then_mk ?_
      refine AB.seq ?_
      replace hr := bnd hr; obtain ⟨x27, h_6, hr⟩ := hr
      refine AB.rw ?_
      refine wS (v := (.agg [(.row none 1 (b_Data.map (eI .u8))), (eI .i64 b_N)])) (sv (d_load rfl (ldP rfl (partN (ds := [(.row none 1 (b_Data.map (eI .u8))), (eI .i64 b_N)]) ti24 rfl (Nat.le_of_ble_eq_true rfl) rfl)))) ?_
      refine wS (v := (eI .u64 v)) (sv (d_move rfl)) ?_
      refine wS (v := (eI .i64 vn)) (sv (d_move rfl)) ?_
      refine wC (v := (.tup [(.agg [(.sl 3 0 x27.1.length 1 false), (eI .i64 x27.2.1)]), (eI .i64 x27.2.2)])) (h' := [some ⟨24, [(.row none 1 (b_Data.map (eI .u8))), (eI .i64 b_N)]⟩, some ⟨5, x20.1.map (eI .u8)⟩, some ⟨24, [(.sl 1 0 x20.1.length 1 false), (eI .i64 x20.2.1)]⟩, some ⟨5, x27.1.map (eI .u8)⟩]) rfl (Vm.Fn.lendB (ref18_Append_ok N b_Data b_N v vn x27 h_6) [] (by decide) rfl Lend.nil rfl rfl (by simp only [lent, lendSet, lendSet_nil, rnH, Blk.rn, V.rns, V.rn, sg, List.map_cons, List.map_nil, Option.map_some, Option.map_none, List.drop_succ_cons, List.drop_zero, List.drop_nil, List.set_cons_zero, List.set_cons_succ, List.cons_append, List.nil_append, List.append_nil, rns_eI, rns_eB, rns_eS, rns_eL, List.getElem?_cons_zero, List.getElem?_cons_succ, List.getElem?_nil, List.length_cons, List.length_nil, Nat.reduceAdd, Nat.reduceSub, Nat.add_zero, Nat.zero_add, Nat.sub_self, Nat.sub_zero])) ?_
      refine wS (v := (.tup [(.agg [(.sl 3 0 x27.1.length 1 false), (eI .i64 x27.2.1)]), (eI .i64 x27.2.2)])) (sv (d_move rfl)) ?_
      refine wS (v := (.agg [(.sl 3 0 x27.1.length 1 false), (eI .i64 x27.2.1)])) (sv (d_ext rfl rfl)) ?_
      refine wS (v := (eI .i64 x27.2.2)) (sv (d_ext rfl rfl)) ?_
      refine wS (v := (.ptr 4 0)) (h' := [some ⟨24, [(.row none 1 (b_Data.map (eI .u8))), (eI .i64 b_N)]⟩, some ⟨5, x20.1.map (eI .u8)⟩, some ⟨24, [(.sl 1 0 x20.1.length 1 false), (eI .i64 x20.2.1)]⟩, some ⟨5, x27.1.map (eI .u8)⟩, some ⟨24, [(.row (some true) 1 []), (eI .i64 0)]⟩]) (sv (d_alloc ti24 rfl rfl rfl)) ?_
      refine wN (h' := [some ⟨24, [(.row none 1 (b_Data.map (eI .u8))), (eI .i64 b_N)]⟩, some ⟨5, x20.1.map (eI .u8)⟩, some ⟨24, [(.sl 1 0 x20.1.length 1 false), (eI .i64 x20.2.1)]⟩, some ⟨5, x27.1.map (eI .u8)⟩, some ⟨24, [(.sl 3 0 x27.1.length 1 false), (eI .i64 x27.2.1)]⟩]) (sv (d_store rfl rfl (stP ti24 rfl rfl rfl (Nat.le_of_ble_eq_true rfl) rfl))) ?_
      refine wS (v := (eI .i64 x27.2.2)) (sv (d_assign rfl)) ?_
      refine OpsW.nil ?_
      refine Ex.then_mk ?_
      refine AB.seq_g fun K1 hK1 hG1 => ?_
      have J1 : ∀ (x6 : Bool), law18_BitsAppends_J1 N x6 = some r → K1 (mkF 45 [(6, (eB x6))]) [] := by
        intro x6 hr
        unfold law18_BitsAppends_J1 at hr
        refine hK1 _ _ ?_
        refine AB.ret ?_
        obtain rfl := Option.some.inj hr
        exact done_ret (r1 := (eB x6)) (res1 Try.results3 (rvT rfl)) (Ghost.rn [] rfl rfl (FLe.same rfl FLe.nil) HLe.nil rfl)
      replace hr := bnd hr; obtain ⟨x31, h_7, hr⟩ := hr
      replace hr := bnd hr; obtain ⟨x33, h_9, hr⟩ := hr
      rcases Bool.eq_false_or_eq_true (x31 == x33) with h11 | h11
      · replace hr := iteT hr h11
        rcases Bool.eq_false_or_eq_true (x20.2.2 == x27.2.2) with h12 | h12
        · replace hr := iteT hr h12
          replace hr := bnd hr; obtain ⟨x43, h_13, hr⟩ := hr
          have hc8 : Vm.Fn Try.prog 14 [some ⟨24, [(.row none 1 (b_Data.map (eI .u8))), (eI .i64 b_N)]⟩, some ⟨5, x20.1.map (eI .u8)⟩, some ⟨24, [(.sl 1 0 x20.1.length 1 false), (eI .i64 x20.2.1)]⟩, some ⟨5, x27.1.map (eI .u8)⟩, some ⟨24, [(.sl 3 0 x27.1.length 1 false), (eI .i64 x27.2.1)]⟩] [(.agg [(.row none 1 (b_Data.map (eI .u8))), (eI .i64 b_N)])] (eB x31) [some ⟨24, [(.row none 1 (b_Data.map (eI .u8))), (eI .i64 b_N)]⟩, some ⟨5, x20.1.map (eI .u8)⟩, some ⟨24, [(.sl 1 0 x20.1.length 1 false), (eI .i64 x20.2.1)]⟩, some ⟨5, x27.1.map (eI .u8)⟩, some ⟨24, [(.sl 3 0 x27.1.length 1 false), (eI .i64 x27.2.1)]⟩] := (Vm.Fn.pure (bits_Valid_ok N b_Data b_N x31 h_7) rfl rfl)
          have hc10 : Vm.Fn Try.prog 15 [some ⟨24, [(.row none 1 (b_Data.map (eI .u8))), (eI .i64 b_N)]⟩, some ⟨5, x20.1.map (eI .u8)⟩, some ⟨24, [(.sl 1 0 x20.1.length 1 false), (eI .i64 x20.2.1)]⟩, some ⟨5, x27.1.map (eI .u8)⟩, some ⟨24, [(.sl 3 0 x27.1.length 1 false), (eI .i64 x27.2.1)]⟩] [(.agg [(.row none 1 (b_Data.map (eI .u8))), (eI .i64 b_N)])] (eB x33) [some ⟨24, [(.row none 1 (b_Data.map (eI .u8))), (eI .i64 b_N)]⟩, some ⟨5, x20.1.map (eI .u8)⟩, some ⟨24, [(.sl 1 0 x20.1.length 1 false), (eI .i64 x20.2.1)]⟩, some ⟨5, x27.1.map (eI .u8)⟩, some ⟨24, [(.sl 3 0 x27.1.length 1 false), (eI .i64 x27.2.1)]⟩] := (Vm.Fn.pure (ref18_Valid_ok N b_Data b_N x33 h_9) rfl rfl)
          have hc14 : Vm.Fn Try.prog 16 [some ⟨24, [(.row none 1 (b_Data.map (eI .u8))), (eI .i64 b_N)]⟩, some ⟨5, x20.1.map (eI .u8)⟩, some ⟨24, [(.sl 1 0 x20.1.length 1 false), (eI .i64 x20.2.1)]⟩, some ⟨5, x27.1.map (eI .u8)⟩, some ⟨24, [(.sl 3 0 x27.1.length 1 false), (eI .i64 x27.2.1)]⟩] [(.agg [(.sl 1 0 x20.1.length 1 false), (eI .i64 x20.2.1)]), (.agg [(.sl 3 0 x27.1.length 1 false), (eI .i64 x27.2.1)])] (eB x43) [some ⟨24, [(.row none 1 (b_Data.map (eI .u8))), (eI .i64 b_N)]⟩, some ⟨5, x20.1.map (eI .u8)⟩, some ⟨24, [(.sl 1 0 x20.1.length 1 false), (eI .i64 x20.2.1)]⟩, some ⟨5, x27.1.map (eI .u8)⟩, some ⟨24, [(.sl 3 0 x27.1.length 1 false), (eI .i64 x27.2.1)]⟩] := (Vm.Fn.lendR (ref18_Same_ok N x20.1 x20.2.1 x27.1 x27.2.1 x43 h_13) [] [1, 3] (by decide) rfl (by decide) Lend.nil (Brw.row (exp_agg (exp_cons (exp_sl (d := 3) rfl rfl (fun _ => rfl)) (exp_cons rfl exp_nil))) (Brw.row (exp_agg (exp_cons (exp_sl (d := 3) rfl rfl (fun _ => rfl)) (exp_cons rfl exp_nil))) Brw.nil)) rfl rfB.nil rfl (by simp only [lent, lendSet, lendSet_nil, rnH, Blk.rn, V.rns, V.rn, sg, List.map_cons, List.map_nil, Option.map_some, Option.map_none, List.drop_succ_cons, List.drop_zero, List.drop_nil, List.set_cons_zero, List.set_cons_succ, List.cons_append, List.nil_append, List.append_nil, rns_eI, rns_eB, rns_eS, rns_eL, List.getElem?_cons_zero, List.getElem?_cons_succ, List.getElem?_nil, List.length_cons, List.length_nil, Nat.reduceAdd, Nat.reduceSub, Nat.add_zero, Nat.zero_add, Nat.sub_self, Nat.sub_zero]))
          refine AB.rg (Env.add (Env.add (Env.one mixed hc8 allF (fun _ _ => rfl)) hc10 allF (fun _ _ => rfl) (fun _ h => h)) hc14 allF (fun _ _ => rfl) (fun _ h => h)) (fun _ => by show drawOk allF _ = true; decide +kernel) ?_
          refine tS (v := (.agg [(.row none 1 (b_Data.map (eI .u8))), (eI .i64 b_N)])) (sv (d_load rfl (ldP rfl (partN (ds := [(.row none 1 (b_Data.map (eI .u8))), (eI .i64 b_N)]) ti24 rfl (Nat.le_of_ble_eq_true rfl) rfl)))) ?_
          refine tS (v := (eB x31)) (h' := [some ⟨24, [(.row none 1 (b_Data.map (eI .u8))), (eI .i64 b_N)]⟩, some ⟨5, x20.1.map (eI .u8)⟩, some ⟨24, [(.sl 1 0 x20.1.length 1 false), (eI .i64 x20.2.1)]⟩, some ⟨5, x27.1.map (eI .u8)⟩, some ⟨24, [(.sl 3 0 x27.1.length 1 false), (eI .i64 x27.2.1)]⟩]) (sv (d_call rfl (Env.add_M rfl (Env.add_M rfl Env.one_O)))) ?_
          refine tS (v := (.agg [(.row none 1 (b_Data.map (eI .u8))), (eI .i64 b_N)])) (sv (d_load rfl (ldP rfl (partN (ds := [(.row none 1 (b_Data.map (eI .u8))), (eI .i64 b_N)]) ti24 rfl (Nat.le_of_ble_eq_true rfl) rfl)))) ?_
          refine tS (v := (eB x33)) (h' := [some ⟨24, [(.row none 1 (b_Data.map (eI .u8))), (eI .i64 b_N)]⟩, some ⟨5, x20.1.map (eI .u8)⟩, some ⟨24, [(.sl 1 0 x20.1.length 1 false), (eI .i64 x20.2.1)]⟩, some ⟨5, x27.1.map (eI .u8)⟩, some ⟨24, [(.sl 3 0 x27.1.length 1 false), (eI .i64 x27.2.1)]⟩]) (sv (d_call rfl (Env.add_M rfl Env.add_O))) ?_
          refine tS (v := (eB (x31 == x33))) (sv (d_bin rfl rfl (bin_eqlB _ _ ti4 ..))) ?_
          refine tS (v := (eB (x31 == x33))) (sv (d_move rfl)) ?_
          refine tS (v := (eI .i64 x20.2.2)) (svG rfl rfl h11 (d_move rfl)) ?_
          refine tS (v := (eI .i64 x27.2.2)) (svG rfl rfl h11 (d_move rfl)) ?_
          refine tS (v := (eB (x20.2.2 == x27.2.2))) (svG rfl rfl h11 (d_bin rfl rfl (bin_eql ..))) ?_
          refine tS (v := (eB (x20.2.2 == x27.2.2))) (sv (d_pickT rfl h11 rfl)) ?_
          refine tS (v := (eB (x20.2.2 == x27.2.2))) (sv (d_move rfl)) ?_
          refine tS (v := (.agg [(.sl 1 0 x20.1.length 1 false), (eI .i64 x20.2.1)])) (svG rfl rfl h12 (d_load rfl (ldP rfl (partN (ds := [(.sl 1 0 x20.1.length 1 false), (eI .i64 x20.2.1)]) ti24 rfl (Nat.le_of_ble_eq_true rfl) rfl)))) ?_
          refine tS (v := (.agg [(.sl 3 0 x27.1.length 1 false), (eI .i64 x27.2.1)])) (svG rfl rfl h12 (d_load rfl (ldP rfl (partN (ds := [(.sl 3 0 x27.1.length 1 false), (eI .i64 x27.2.1)]) ti24 rfl (Nat.le_of_ble_eq_true rfl) rfl)))) ?_
          refine tS (v := (eB x43)) (h' := [some ⟨24, [(.row none 1 (b_Data.map (eI .u8))), (eI .i64 b_N)]⟩, some ⟨5, x20.1.map (eI .u8)⟩, some ⟨24, [(.sl 1 0 x20.1.length 1 false), (eI .i64 x20.2.1)]⟩, some ⟨5, x27.1.map (eI .u8)⟩, some ⟨24, [(.sl 3 0 x27.1.length 1 false), (eI .i64 x27.2.1)]⟩]) (svG rfl rfl h12 (d_call rfl Env.add_O)) ?_
          refine tS (v := (eB x43)) (sv (d_pickT rfl h12 rfl)) ?_
          refine tS (v := (eB x43)) (sv (d_assign rfl)) ?_
          refine OpsTo.nil ?_
          refine Ex.then_mk ?_
          exact hG1 _ _ _ _ (Ghost.rn [] rfl rfl (FLe.same rfl FLe.nil) HLe.nil rfl) (J1 x43 hr)
        · replace hr := iteF hr h12
          have hc8 : Vm.Fn Try.prog 14 [some ⟨24, [(.row none 1 (b_Data.map (eI .u8))), (eI .i64 b_N)]⟩, some ⟨5, x20.1.map (eI .u8)⟩, some ⟨24, [(.sl 1 0 x20.1.length 1 false), (eI .i64 x20.2.1)]⟩, some ⟨5, x27.1.map (eI .u8)⟩, some ⟨24, [(.sl 3 0 x27.1.length 1 false), (eI .i64 x27.2.1)]⟩] [(.agg [(.row none 1 (b_Data.map (eI .u8))), (eI .i64 b_N)])] (eB x31) [some ⟨24, [(.row none 1 (b_Data.map (eI .u8))), (eI .i64 b_N)]⟩, some ⟨5, x20.1.map (eI .u8)⟩, some ⟨24, [(.sl 1 0 x20.1.length 1 false), (eI .i64 x20.2.1)]⟩, some ⟨5, x27.1.map (eI .u8)⟩, some ⟨24, [(.sl 3 0 x27.1.length 1 false), (eI .i64 x27.2.1)]⟩] := (Vm.Fn.pure (bits_Valid_ok N b_Data b_N x31 h_7) rfl rfl)
          have hc10 : Vm.Fn Try.prog 15 [some ⟨24, [(.row none 1 (b_Data.map (eI .u8))), (eI .i64 b_N)]⟩, some ⟨5, x20.1.map (eI .u8)⟩, some ⟨24, [(.sl 1 0 x20.1.length 1 false), (eI .i64 x20.2.1)]⟩, some ⟨5, x27.1.map (eI .u8)⟩, some ⟨24, [(.sl 3 0 x27.1.length 1 false), (eI .i64 x27.2.1)]⟩] [(.agg [(.row none 1 (b_Data.map (eI .u8))), (eI .i64 b_N)])] (eB x33) [some ⟨24, [(.row none 1 (b_Data.map (eI .u8))), (eI .i64 b_N)]⟩, some ⟨5, x20.1.map (eI .u8)⟩, some ⟨24, [(.sl 1 0 x20.1.length 1 false), (eI .i64 x20.2.1)]⟩, some ⟨5, x27.1.map (eI .u8)⟩, some ⟨24, [(.sl 3 0 x27.1.length 1 false), (eI .i64 x27.2.1)]⟩] := (Vm.Fn.pure (ref18_Valid_ok N b_Data b_N x33 h_9) rfl rfl)
          refine AB.rg (Env.add (Env.one mixed hc8 allF (fun _ _ => rfl)) hc10 allF (fun _ _ => rfl) (fun _ h => h)) (fun _ => by show drawOk allF _ = true; decide +kernel) ?_
          refine tS (v := (.agg [(.row none 1 (b_Data.map (eI .u8))), (eI .i64 b_N)])) (sv (d_load rfl (ldP rfl (partN (ds := [(.row none 1 (b_Data.map (eI .u8))), (eI .i64 b_N)]) ti24 rfl (Nat.le_of_ble_eq_true rfl) rfl)))) ?_
          refine tS (v := (eB x31)) (h' := [some ⟨24, [(.row none 1 (b_Data.map (eI .u8))), (eI .i64 b_N)]⟩, some ⟨5, x20.1.map (eI .u8)⟩, some ⟨24, [(.sl 1 0 x20.1.length 1 false), (eI .i64 x20.2.1)]⟩, some ⟨5, x27.1.map (eI .u8)⟩, some ⟨24, [(.sl 3 0 x27.1.length 1 false), (eI .i64 x27.2.1)]⟩]) (sv (d_call rfl (Env.add_M rfl Env.one_O))) ?_
          refine tS (v := (.agg [(.row none 1 (b_Data.map (eI .u8))), (eI .i64 b_N)])) (sv (d_load rfl (ldP rfl (partN (ds := [(.row none 1 (b_Data.map (eI .u8))), (eI .i64 b_N)]) ti24 rfl (Nat.le_of_ble_eq_true rfl) rfl)))) ?_
          refine tS (v := (eB x33)) (h' := [some ⟨24, [(.row none 1 (b_Data.map (eI .u8))), (eI .i64 b_N)]⟩, some ⟨5, x20.1.map (eI .u8)⟩, some ⟨24, [(.sl 1 0 x20.1.length 1 false), (eI .i64 x20.2.1)]⟩, some ⟨5, x27.1.map (eI .u8)⟩, some ⟨24, [(.sl 3 0 x27.1.length 1 false), (eI .i64 x27.2.1)]⟩]) (sv (d_call rfl Env.add_O)) ?_
          refine tS (v := (eB (x31 == x33))) (sv (d_bin rfl rfl (bin_eqlB _ _ ti4 ..))) ?_
          refine tS (v := (eB (x31 == x33))) (sv (d_move rfl)) ?_
          refine tS (v := (eI .i64 x20.2.2)) (svG rfl rfl h11 (d_move rfl)) ?_
          refine tS (v := (eI .i64 x27.2.2)) (svG rfl rfl h11 (d_move rfl)) ?_
          refine tS (v := (eB (x20.2.2 == x27.2.2))) (svG rfl rfl h11 (d_bin rfl rfl (bin_eql ..))) ?_
          refine tS (v := (eB (x20.2.2 == x27.2.2))) (sv (d_pickT rfl h11 rfl)) ?_
          refine tS (v := (eB (x20.2.2 == x27.2.2))) (sv (d_move rfl)) ?_
          refine tS (svX rfl rfl h12) ?_
          refine tS (svX rfl rfl h12) ?_
          refine tS (svX rfl rfl h12) ?_
          refine tS (v := (eB false)) (sv (d_pickF rfl h12 rfl)) ?_
          refine tS (v := (eB false)) (sv (d_assign rfl)) ?_
          refine OpsTo.nil ?_
          refine Ex.then_mk ?_
          exact hG1 _ _ _ _ (Ghost.rn [] rfl rfl (FLe.same rfl FLe.nil) HLe.nil rfl) (J1 false hr)
      · replace hr := iteF hr h11
        have hc8 : Vm.Fn Try.prog 14 [some ⟨24, [(.row none 1 (b_Data.map (eI .u8))), (eI .i64 b_N)]⟩, some ⟨5, x20.1.map (eI .u8)⟩, some ⟨24, [(.sl 1 0 x20.1.length 1 false), (eI .i64 x20.2.1)]⟩, some ⟨5, x27.1.map (eI .u8)⟩, some ⟨24, [(.sl 3 0 x27.1.length 1 false), (eI .i64 x27.2.1)]⟩] [(.agg [(.row none 1 (b_Data.map (eI .u8))), (eI .i64 b_N)])] (eB x31) [some ⟨24, [(.row none 1 (b_Data.map (eI .u8))), (eI .i64 b_N)]⟩, some ⟨5, x20.1.map (eI .u8)⟩, some ⟨24, [(.sl 1 0 x20.1.length 1 false), (eI .i64 x20.2.1)]⟩, some ⟨5, x27.1.map (eI .u8)⟩, some ⟨24, [(.sl 3 0 x27.1.length 1 false), (eI .i64 x27.2.1)]⟩] := (Vm.Fn.pure (bits_Valid_ok N b_Data b_N x31 h_7) rfl rfl)
        have hc10 : Vm.Fn Try.prog 15 [some ⟨24, [(.row none 1 (b_Data.map (eI .u8))), (eI .i64 b_N)]⟩, some ⟨5, x20.1.map (eI .u8)⟩, some ⟨24, [(.sl 1 0 x20.1.length 1 false), (eI .i64 x20.2.1)]⟩, some ⟨5, x27.1.map (eI .u8)⟩, some ⟨24, [(.sl 3 0 x27.1.length 1 false), (eI .i64 x27.2.1)]⟩] [(.agg [(.row none 1 (b_Data.map (eI .u8))), (eI .i64 b_N)])] (eB x33) [some ⟨24, [(.row none 1 (b_Data.map (eI .u8))), (eI .i64 b_N)]⟩, some ⟨5, x20.1.map (eI .u8)⟩, some ⟨24, [(.sl 1 0 x20.1.length 1 false), (eI .i64 x20.2.1)]⟩, some ⟨5, x27.1.map (eI .u8)⟩, some ⟨24, [(.sl 3 0 x27.1.length 1 false), (eI .i64 x27.2.1)]⟩] := (Vm.Fn.pure (ref18_Valid_ok N b_Data b_N x33 h_9) rfl rfl)
        refine AB.rg (Env.add (Env.one mixed hc8 allF (fun _ _ => rfl)) hc10 allF (fun _ _ => rfl) (fun _ h => h)) (fun _ => by show drawOk allF _ = true; decide +kernel) ?_
        refine tS (v := (.agg [(.row none 1 (b_Data.map (eI .u8))), (eI .i64 b_N)])) (sv (d_load rfl (ldP rfl (partN (ds := [(.row none 1 (b_Data.map (eI .u8))), (eI .i64 b_N)]) ti24 rfl (Nat.le_of_ble_eq_true rfl) rfl)))) ?_
        refine tS (v := (eB x31)) (h' := [some ⟨24, [(.row none 1 (b_Data.map (eI .u8))), (eI .i64 b_N)]⟩, some ⟨5, x20.1.map (eI .u8)⟩, some ⟨24, [(.sl 1 0 x20.1.length 1 false), (eI .i64 x20.2.1)]⟩, some ⟨5, x27.1.map (eI .u8)⟩, some ⟨24, [(.sl 3 0 x27.1.length 1 false), (eI .i64 x27.2.1)]⟩]) (sv (d_call rfl (Env.add_M rfl Env.one_O))) ?_
        refine tS (v := (.agg [(.row none 1 (b_Data.map (eI .u8))), (eI .i64 b_N)])) (sv (d_load rfl (ldP rfl (partN (ds := [(.row none 1 (b_Data.map (eI .u8))), (eI .i64 b_N)]) ti24 rfl (Nat.le_of_ble_eq_true rfl) rfl)))) ?_
        refine tS (v := (eB x33)) (h' := [some ⟨24, [(.row none 1 (b_Data.map (eI .u8))), (eI .i64 b_N)]⟩, some ⟨5, x20.1.map (eI .u8)⟩, some ⟨24, [(.sl 1 0 x20.1.length 1 false), (eI .i64 x20.2.1)]⟩, some ⟨5, x27.1.map (eI .u8)⟩, some ⟨24, [(.sl 3 0 x27.1.length 1 false), (eI .i64 x27.2.1)]⟩]) (sv (d_call rfl Env.add_O)) ?_
        refine tS (v := (eB (x31 == x33))) (sv (d_bin rfl rfl (bin_eqlB _ _ ti4 ..))) ?_
        refine tS (v := (eB (x31 == x33))) (sv (d_move rfl)) ?_
        refine tS (svX rfl rfl h11) ?_
        refine tS (svX rfl rfl h11) ?_
        refine tS (svX rfl rfl h11) ?_
        refine tS (v := (eB false)) (sv (d_pickF rfl h11 rfl)) ?_
        refine tS (v := (eB false)) (sv (d_move rfl)) ?_
        refine tS (svX rfl rfl rfl) ?_
        refine tS (svX rfl rfl rfl) ?_
        refine tS (svX rfl rfl rfl) ?_
        refine tS (v := (eB false)) (sv (d_pickF rfl rfl rfl)) ?_
        refine tS (v := (eB false)) (sv (d_assign rfl)) ?_
        refine OpsTo.nil ?_
        refine Ex.then_mk ?_
        exact hG1 _ _ _ _ (Ghost.rn [] rfl rfl (FLe.same rfl FLe.nil) HLe.nil rfl) (J1 false hr)
end Go.Proofs.Ytbcmdojknonpgaa
