/- Walks printed by a program of ours (gen.py): each Go function of the list does what its shallow function says. -/
import Derived.Test.YtbcmdojknonpgaaWk1
set_option linter.unusedVariables false
set_option linter.unusedSimpArgs false
namespace Go.Proofs.Ytbcmdojknonpgaa
open Go Go.Vm
set_option maxRecDepth 20000 in
set_option maxHeartbeats 1000000 in
theorem ref18_AppendRice_ok (N : Nat) (b_Data : List Int) (b_N : Int) (v : Int) (p : Int) (r : (List Int) × Int × Int) (hr : ref18_AppendRice N b_Data b_N v p = some r) :
    Vm.Fn Try.prog 18 [] [(.agg [(.row none 1 (b_Data.map (eI .u8))), (eI .i64 b_N)]), (eI .u64 v), (eI .i64 p)] (.tup [(.agg [(.sl 0 0 r.1.length 1 false), (eI .i64 r.2.1)]), (eI .i64 r.2.2)]) [some ⟨5, r.1.map (eI .u8)⟩] := by
  refine fn_ab Try.func18 rfl (by kernel_rfl) Try.ntmps18 (Nat.le_of_ble_eq_true rfl) rfl (fr := [(0, (.agg [(.row none 1 (b_Data.map (eI .u8))), (eI .i64 b_N)])), (1, (eI .u64 v)), (2, (eI .i64 p))]) rfl ?_
  unfold ref18_AppendRice at hr
  refine AB.seq ?_
  refine AB.rw ?_
  refine wS (v := (.ptr 0 0)) (h' := [some ⟨24, [(.row none 1 (b_Data.map (eI .u8))), (eI .i64 b_N)]⟩]) (sv (d_box rfl rfl rfl rfl)) ?_
  refine wS (v := (.ptr 1 0)) (h' := [some ⟨24, [(.row none 1 (b_Data.map (eI .u8))), (eI .i64 b_N)]⟩, some ⟨24, [(.row (some true) 1 []), (eI .i64 0)]⟩]) (sv (d_alloc ti24 rfl rfl rfl)) ?_
  refine wS (v := (eI .i64 0)) (sv (d_assign rfl)) ?_
  refine OpsW.nil ?_
  refine Ex.then_mk ?_
  refine AB.seq ?_
  refine AB.block ?_
  refine AB.seq ?_
  replace hr := bnd hr; obtain ⟨x13, h_1, hr⟩ := hr
  refine AB.rw ?_
  refine wS (v := (.agg [(.row none 1 (b_Data.map (eI .u8))), (eI .i64 b_N)])) (sv (d_load rfl (ldP rfl (partN (ds := [(.row none 1 (b_Data.map (eI .u8))), (eI .i64 b_N)]) ti24 rfl (Nat.le_of_ble_eq_true rfl) rfl)))) ?_
  refine wC (v := (eB x13)) (h' := [some ⟨24, [(.row none 1 (b_Data.map (eI .u8))), (eI .i64 b_N)]⟩, some ⟨24, [(.row (some true) 1 []), (eI .i64 0)]⟩]) rfl (Vm.Fn.pure (ref18_Valid_ok N b_Data b_N x13 h_1) rfl rfl) ?_
  refine wS (v := (eB (!x13))) (sv (d_un rfl (un_not _ _))) ?_
  refine wS (v := (eB (!x13))) (sv (d_assign rfl)) ?_
  refine OpsW.nil ?_
  refine Ex.then_mk ?_
  refine AB.cnd rfl (fun h2 => ?_) (fun h2 => ?_)
  · replace hr := iteT hr h2
    refine AB.seq ?_
    refine AB.rw ?_
    refine wS (v := (.agg [(.row (some true) 1 []), (eI .i64 0)])) (sv (d_build rfl (bldS ti24 pl24 rfl))) ?_
    refine wN (h' := [some ⟨24, [(.row none 1 (b_Data.map (eI .u8))), (eI .i64 b_N)]⟩, some ⟨24, [(.row (some true) 1 []), (eI .i64 0)]⟩]) (sv (d_store rfl rfl (stP ti24 rfl rfl rfl (Nat.le_of_ble_eq_true rfl) rfl))) ?_
    refine wS (v := (eI .i64 6)) (sv (d_assign rfl)) ?_
    refine OpsW.nil ?_
    refine Ex.then_mk ?_
    refine AB.ret ?_
    refine Ex.inBlock_ret_mk ?_
    refine Ex.then_ret_mk ?_
    obtain rfl := Option.some.inj hr
    exact done_ret (r1 := (.tup [(.agg [(.row (some true) 1 []), (eI .i64 0)]), (eI .i64 6)])) (res2 Try.results18 (rvC rfl (ldP rfl (partN (ds := [(.row (some true) 1 []), (eI .i64 0)]) ti24 rfl (Nat.le_of_ble_eq_true rfl) rfl))) (rvT rfl)) (Ghost.trans (Ghost.virt (fr' := [(0, (.tup [(.agg [(.sl 2 0 0 1 false), (eI .i64 0)]), (eI .i64 6)]))]) (h1 := [some ⟨24, [(.row none 1 (b_Data.map (eI .u8))), (eI .i64 b_N)]⟩, some ⟨24, [(.row (some true) 1 []), (eI .i64 0)]⟩]) 5 (FLe.le rfl (V.le_tup (V.les_cons (V.le_agg (V.les_cons (V.le_virt rfl) (V.les_cons (V.le_refl _ _) V.les_nil))) (V.les_cons (V.le_refl _ _) V.les_nil))) FLe.nil) (HLv.live (V.les_refl _ _) rfl (HLv.live (V.les_refl _ _) rfl HLv.nil))) (Ghost.rn [2] rfl rfl (FLe.le rfl (V.le_tup (V.les_cons (V.le_agg (V.les_cons (by first | exact V.le_refl _ _ | (simp only [len_set, len_cpy]; exact V.le_refl _ _)) (V.les_cons (V.le_refl _ _) V.les_nil))) (V.les_cons (V.le_refl _ _) V.les_nil))) FLe.nil) (HLe.live rfl V.les_nil rfl HLe.nil) rfl))
  · replace hr := iteF hr h2
    refine AB.seq_g fun K1 hK1 hG1 => ?_
    have J1 : ∀ (x16 : Bool), ref18_AppendRice_J1 N b_Data b_N v p x16 = some r → K1 (mkF 75 [(1, (eI .u64 v)), (2, (eI .i64 p)), (3, (.ptr 0 0)), (6, (.ptr 1 0)), (16, (eB x16))]) [some ⟨24, [(.row none 1 (b_Data.map (eI .u8))), (eI .i64 b_N)]⟩, some ⟨24, [(.row (some true) 1 []), (eI .i64 0)]⟩] := by
      intro x16 hr
      unfold ref18_AppendRice_J1 at hr
      refine hK1 _ _ ?_
      refine AB.cnd rfl (fun h3 => ?_) (fun h3 => ?_)
      · replace hr := iteT hr h3
        refine AB.seq ?_
        refine AB.rw ?_
        refine wS (v := (.agg [(.row (some true) 1 []), (eI .i64 0)])) (sv (d_build rfl (bldS ti24 pl24 rfl))) ?_
        refine wN (h' := [some ⟨24, [(.row none 1 (b_Data.map (eI .u8))), (eI .i64 b_N)]⟩, some ⟨24, [(.row (some true) 1 []), (eI .i64 0)]⟩]) (sv (d_store rfl rfl (stP ti24 rfl rfl rfl (Nat.le_of_ble_eq_true rfl) rfl))) ?_
        refine wS (v := (eI .i64 5)) (sv (d_assign rfl)) ?_
        refine OpsW.nil ?_
        refine Ex.then_mk ?_
        refine AB.ret ?_
        refine Ex.inBlock_ret_mk ?_
        refine Ex.then_ret_mk ?_
        obtain rfl := Option.some.inj hr
        exact done_ret (r1 := (.tup [(.agg [(.row (some true) 1 []), (eI .i64 0)]), (eI .i64 5)])) (res2 Try.results18 (rvC rfl (ldP rfl (partN (ds := [(.row (some true) 1 []), (eI .i64 0)]) ti24 rfl (Nat.le_of_ble_eq_true rfl) rfl))) (rvT rfl)) (Ghost.trans (Ghost.virt (fr' := [(0, (.tup [(.agg [(.sl 2 0 0 1 false), (eI .i64 0)]), (eI .i64 5)]))]) (h1 := [some ⟨24, [(.row none 1 (b_Data.map (eI .u8))), (eI .i64 b_N)]⟩, some ⟨24, [(.row (some true) 1 []), (eI .i64 0)]⟩]) 5 (FLe.le rfl (V.le_tup (V.les_cons (V.le_agg (V.les_cons (V.le_virt rfl) (V.les_cons (V.le_refl _ _) V.les_nil))) (V.les_cons (V.le_refl _ _) V.les_nil))) FLe.nil) (HLv.live (V.les_refl _ _) rfl (HLv.live (V.les_refl _ _) rfl HLv.nil))) (Ghost.rn [2] rfl rfl (FLe.le rfl (V.le_tup (V.les_cons (V.le_agg (V.les_cons (by first | exact V.le_refl _ _ | (simp only [len_set, len_cpy]; exact V.le_refl _ _)) (V.les_cons (V.le_refl _ _) V.les_nil))) (V.les_cons (V.le_refl _ _) V.les_nil))) FLe.nil) (HLe.live rfl V.les_nil rfl HLe.nil) rfl))
      · replace hr := iteF hr h3
        refine AB.seq_g fun K2 hK2 hG2 => ?_
        have J2 : ∀ (x24 : Bool), ref18_AppendRice_J2 N b_Data b_N v p x24 = some r → K2 (mkF 75 [(1, (eI .u64 v)), (2, (eI .i64 p)), (3, (.ptr 0 0)), (6, (.ptr 1 0)), (24, (eB x24))]) [some ⟨24, [(.row none 1 (b_Data.map (eI .u8))), (eI .i64 b_N)]⟩, some ⟨24, [(.row (some true) 1 []), (eI .i64 0)]⟩] := by
          intro x24 hr
          unfold ref18_AppendRice_J2 at hr
          refine hK2 _ _ ?_
          refine AB.cnd rfl (fun h4 => ?_) (fun h4 => ?_)
          · replace hr := iteT hr h4
            refine AB.seq ?_
            refine AB.rw ?_
            refine wS (v := (.agg [(.row (some true) 1 []), (eI .i64 0)])) (sv (d_build rfl (bldS ti24 pl24 rfl))) ?_
            refine wN (h' := [some ⟨24, [(.row none 1 (b_Data.map (eI .u8))), (eI .i64 b_N)]⟩, some ⟨24, [(.row (some true) 1 []), (eI .i64 0)]⟩]) (sv (d_store rfl rfl (stP ti24 rfl rfl rfl (Nat.le_of_ble_eq_true rfl) rfl))) ?_
            refine wS (v := (eI .i64 4)) (sv (d_assign rfl)) ?_
            refine OpsW.nil ?_
            refine Ex.then_mk ?_
            refine AB.ret ?_
            refine Ex.inBlock_ret_mk ?_
            refine Ex.then_ret_mk ?_
            obtain rfl := Option.some.inj hr
            exact done_ret (r1 := (.tup [(.agg [(.row (some true) 1 []), (eI .i64 0)]), (eI .i64 4)])) (res2 Try.results18 (rvC rfl (ldP rfl (partN (ds := [(.row (some true) 1 []), (eI .i64 0)]) ti24 rfl (Nat.le_of_ble_eq_true rfl) rfl))) (rvT rfl)) (Ghost.trans (Ghost.virt (fr' := [(0, (.tup [(.agg [(.sl 2 0 0 1 false), (eI .i64 0)]), (eI .i64 4)]))]) (h1 := [some ⟨24, [(.row none 1 (b_Data.map (eI .u8))), (eI .i64 b_N)]⟩, some ⟨24, [(.row (some true) 1 []), (eI .i64 0)]⟩]) 5 (FLe.le rfl (V.le_tup (V.les_cons (V.le_agg (V.les_cons (V.le_virt rfl) (V.les_cons (V.le_refl _ _) V.les_nil))) (V.les_cons (V.le_refl _ _) V.les_nil))) FLe.nil) (HLv.live (V.les_refl _ _) rfl (HLv.live (V.les_refl _ _) rfl HLv.nil))) (Ghost.rn [2] rfl rfl (FLe.le rfl (V.le_tup (V.les_cons (V.le_agg (V.les_cons (by first | exact V.le_refl _ _ | (simp only [len_set, len_cpy]; exact V.le_refl _ _)) (V.les_cons (V.le_refl _ _) V.les_nil))) (V.les_cons (V.le_refl _ _) V.les_nil))) FLe.nil) (HLe.live rfl V.les_nil rfl HLe.nil) rfl))
          · replace hr := iteF hr h4
            refine AB.skip ?_
            refine Ex.inBlock_mk ?_
            refine Ex.then_mk ?_
            refine AB.seq_g fun K3 hK3 hG3 => ?_
            have J3 : ∀ (l2 : List Int), ref18_AppendRice_J3 N b_N v p l2 = some r → K3 (mkF 75 [(1, (eI .u64 v)), (2, (eI .i64 p)), (6, (.ptr 0 0)), (8, (.ptr 1 0))]) [some ⟨24, [(.row (some true) 1 []), (eI .i64 0)]⟩, some ⟨24, [(.sl 2 0 l2.length 1 false), (eI .i64 b_N)]⟩, some ⟨5, l2.map (eI .u8)⟩] := by
              intro l2 hr
              unfold ref18_AppendRice_J3 at hr
              refine hK3 _ _ ?_
              refine AB.seq_g fun K4 hK4 hG4 => ?_
              have J4 : ∀ (c1 : Int) (l2_1 : List Int), ref18_AppendRice_J4 N v p c1 l2_1 = some r → K4 (mkF 75 [(1, (eI .u64 v)), (2, (eI .i64 p)), (6, (.ptr 0 0)), (8, (.ptr 1 0))]) [some ⟨24, [(.row (some true) 1 []), (eI .i64 0)]⟩, some ⟨24, [(.sl 2 0 l2_1.length 1 false), (eI .i64 c1)]⟩, some ⟨5, l2_1.map (eI .u8)⟩] := by
                intro c1 l2_1 hr
                unfold ref18_AppendRice_J4 at hr
                refine hK4 _ _ ?_
                refine AB.seq ?_
                replace hr := bnd hr; obtain ⟨x60, h_5, hr⟩ := hr
                refine AB.rw ?_
                refine wS (v := (.agg [(.sl 2 0 l2_1.length 1 false), (eI .i64 c1)])) (sv (d_load rfl (ldP rfl (partN (ds := [(.sl 2 0 l2_1.length 1 false), (eI .i64 c1)]) ti24 rfl (Nat.le_of_ble_eq_true rfl) rfl)))) ?_
                refine wC (v := (.agg [(.sl 3 0 x60.1.length 1 false), (eI .i64 x60.2)])) (h' := [some ⟨24, [(.row (some true) 1 []), (eI .i64 0)]⟩, some ⟨24, [(.sl 2 0 l2_1.length 1 false), (eI .i64 c1)]⟩, none, some ⟨5, x60.1.map (eI .u8)⟩]) rfl (Vm.Fn.lendB (ref18_put_ok N l2_1 c1 false x60 h_5) [2] (by decide) rfl (Lend.cons rfl (rns_map (fun _ => rfl) _) Lend.nil) rfl rfl (by simp only [lent, lendSet, lendSet_nil, rnH, Blk.rn, V.rns, V.rn, sg, List.map_cons, List.map_nil, Option.map_some, Option.map_none, List.drop_succ_cons, List.drop_zero, List.drop_nil, List.set_cons_zero, List.set_cons_succ, List.cons_append, List.nil_append, List.append_nil, rns_eI, rns_eB, rns_eS, rns_eL, List.getElem?_cons_zero, List.getElem?_cons_succ, List.getElem?_nil, List.length_cons, List.length_nil, Nat.reduceAdd, Nat.reduceSub, Nat.add_zero, Nat.zero_add, Nat.sub_self, Nat.sub_zero])) ?_
                refine wN (h' := [some ⟨24, [(.row (some true) 1 []), (eI .i64 0)]⟩, some ⟨24, [(.sl 3 0 x60.1.length 1 false), (eI .i64 x60.2)]⟩, none, some ⟨5, x60.1.map (eI .u8)⟩]) (sv (d_store rfl rfl (stP ti24 rfl rfl rfl (Nat.le_of_ble_eq_true rfl) rfl))) ?_
                refine OpsW.nil ?_
                refine Ex.then_mk ?_
                refine AB.seq_g fun K5 hK5 hG5 => ?_
                have J5 : ∀ (c1_1 : Int) (l2_2 : List Int), ref18_AppendRice_J5 N c1_1 l2_2 = some r → K5 (mkF 75 [(6, (.ptr 0 0)), (8, (.ptr 1 0))]) [some ⟨24, [(.row (some true) 1 []), (eI .i64 0)]⟩, some ⟨24, [(.sl 2 0 l2_2.length 1 false), (eI .i64 c1_1)]⟩, some ⟨5, l2_2.map (eI .u8)⟩] := by
                  intro c1_1 l2_2 hr
                  unfold ref18_AppendRice_J5 at hr
                  refine hK5 _ _ ?_
                  refine AB.seq ?_
                  refine AB.rw ?_
                  refine wS (v := (.agg [(.sl 2 0 l2_2.length 1 false), (eI .i64 c1_1)])) (sv (d_load rfl (ldP rfl (partN (ds := [(.sl 2 0 l2_2.length 1 false), (eI .i64 c1_1)]) ti24 rfl (Nat.le_of_ble_eq_true rfl) rfl)))) ?_
                  refine wN (h' := [some ⟨24, [(.sl 2 0 l2_2.length 1 false), (eI .i64 c1_1)]⟩, some ⟨24, [(.sl 2 0 l2_2.length 1 false), (eI .i64 c1_1)]⟩, some ⟨5, l2_2.map (eI .u8)⟩]) (sv (d_store rfl rfl (stP ti24 rfl rfl rfl (Nat.le_of_ble_eq_true rfl) rfl))) ?_
                  refine wS (v := (eI .i64 0)) (sv (d_assign rfl)) ?_
                  refine OpsW.nil ?_
                  refine Ex.then_mk ?_
                  refine AB.ret ?_
                  obtain rfl := Option.some.inj hr
                  exact done_ret (r1 := (.tup [(.agg [(.sl 2 0 l2_2.length 1 false), (eI .i64 c1_1)]), (eI .i64 0)])) (res2 Try.results18 (rvC rfl (ldP rfl (partN (ds := [(.sl 2 0 l2_2.length 1 false), (eI .i64 c1_1)]) ti24 rfl (Nat.le_of_ble_eq_true rfl) rfl))) (rvT rfl)) (Ghost.rn [2] rfl rfl (FLe.same rfl FLe.nil) (HLe.live rfl (les_map (fun _ => rfl) _) (all_map (fun _ => rfl) _) HLe.nil) rfl)
                refine AB.seq ?_
                refine AB.rw ?_
                refine wS (v := (eI .i64 p)) (sv (d_move rfl)) ?_
                refine wS (v := (eI .i64 (IntKind.i64.wrap (p - 1)))) (sv (d_bin rfl rfl (bin_sub ..))) ?_
                refine wS (v := (eI .i64 (IntKind.i64.wrap (p - 1)))) (sv (d_assign rfl)) ?_
                refine OpsW.nil ?_
                refine Ex.then_mk ?_
                replace hr := bnd hr; obtain ⟨res6, hL6, hr⟩ := hr
                refine AB.block ?_
                refine AB.loopN (fun m s h => ∃ (vi : Int) (c1_2 : Int) (l2_3 : List Int), ref18_AppendRice_L6 N v m vi c1_2 l2_3 = some res6 ∧ Ghost 0 s h (mkF 75 [(1, (eI .u64 v)), (6, (.ptr 0 0)), (8, (.ptr 1 0)), (10, (eI .i64 vi))]) [some ⟨24, [(.row (some true) 1 []), (eI .i64 0)]⟩, some ⟨24, [(.sl 2 0 l2_3.length 1 false), (eI .i64 c1_2)]⟩, some ⟨5, l2_3.map (eI .u8)⟩]) (n := N) ⟨IntKind.i64.wrap (p - 1), x60.2, x60.1, hL6, (Ghost.rn [0, 1, 3] rfl rfl (FLe.same rfl (FLe.same rfl (FLe.same rfl (FLe.same rfl FLe.nil)))) (HLe.live rfl (V.les_refl _ _) rfl (HLe.live rfl (V.les_refl _ _) rfl (HLe.live rfl (les_map (fun _ => rfl) _) (all_map (fun _ => rfl) _) HLe.nil))) rfl)⟩ (by rintro s h ⟨_, _, _, h0, _⟩; simp [ref18_AppendRice_L6] at h0) ?_
                rintro m6 s h ⟨vi, c1_2, l2_3, hr6, hg⟩
                refine AB.ghost hg ?_
                clear hg hL6
                rw [ref18_AppendRice_L6] at hr6
                refine AB.seq ?_
                refine AB.seq ?_
                refine AB.rw ?_
                refine wS (v := (eI .i64 vi)) (sv (d_move rfl)) ?_
                refine wS (v := (eB (decide (0 ≤ vi)))) (sv (d_bin rfl rfl (bin_geq ..))) ?_
                refine OpsW.nil ?_
                refine Ex.then_mk ?_
                refine AB.cnd rfl (fun h6 => ?_) (fun h6 => ?_)
                · replace hr6 := iteT hr6 h6
                  refine AB.skip ?_
                  refine Ex.then_mk ?_
                  refine AB.seq ?_
                  refine AB.block ?_
                  replace hr6 := bnd hr6; obtain ⟨x70, h_7, hr6⟩ := hr6
                  replace hr6 := bnd hr6; obtain ⟨x73, h_8, hr6⟩ := hr6
                  have hc9 : Vm.Fn Try.prog 26 [some ⟨24, [(.row (some true) 1 []), (eI .i64 0)]⟩, some ⟨24, [(.sl 2 0 l2_3.length 1 false), (eI .i64 c1_2)]⟩, some ⟨5, l2_3.map (eI .u8)⟩] [(.agg [(.sl 2 0 l2_3.length 1 false), (eI .i64 c1_2)]), (eB ((bits .and .u64 x70 1) == 1))] (.agg [(.sl 3 0 x73.1.length 1 false), (eI .i64 x73.2)]) [some ⟨24, [(.row (some true) 1 []), (eI .i64 0)]⟩, some ⟨24, [(.sl 2 0 l2_3.length 1 false), (eI .i64 c1_2)]⟩, none, some ⟨5, x73.1.map (eI .u8)⟩] := (Vm.Fn.lendB (ref18_put_ok N l2_3 c1_2 ((bits .and .u64 x70 1) == 1) x73 h_8) [2] (by decide) rfl (Lend.cons rfl (rns_map (fun _ => rfl) _) Lend.nil) rfl rfl (by simp only [lent, lendSet, lendSet_nil, rnH, Blk.rn, V.rns, V.rn, sg, List.map_cons, List.map_nil, Option.map_some, Option.map_none, List.drop_succ_cons, List.drop_zero, List.drop_nil, List.set_cons_zero, List.set_cons_succ, List.cons_append, List.nil_append, List.append_nil, rns_eI, rns_eB, rns_eS, rns_eL, List.getElem?_cons_zero, List.getElem?_cons_succ, List.getElem?_nil, List.length_cons, List.length_nil, Nat.reduceAdd, Nat.reduceSub, Nat.add_zero, Nat.zero_add, Nat.sub_self, Nat.sub_zero]))
                  refine AB.rg (Env.one mixed hc9 noF (fun _ h => by cases h)) (fun _ => by show drawOk noF _ = true; decide +kernel) ?_
                  refine tS (v := (.agg [(.sl 2 0 l2_3.length 1 false), (eI .i64 c1_2)])) (sv (d_load rfl (ldP rfl (partN (ds := [(.sl 2 0 l2_3.length 1 false), (eI .i64 c1_2)]) ti24 rfl (Nat.le_of_ble_eq_true rfl) rfl)))) ?_
                  refine tS (v := (eI .u64 v)) (sv (d_move rfl)) ?_
                  refine tS (v := (eI .i64 vi)) (sv (d_move rfl)) ?_
                  refine tS (v := (eI .u64 x70)) (sv (d_bin rfl rfl (bin_shr' _ _ _ _ h_7))) ?_
                  refine tS (v := (eI .u64 (bits .and .u64 x70 1))) (sv (d_bin rfl rfl (bin_and ..))) ?_
                  refine tS (v := (eB ((bits .and .u64 x70 1) == 1))) (sv (d_bin rfl rfl (bin_eql ..))) ?_
                  refine tS (v := (.agg [(.sl 3 0 x73.1.length 1 false), (eI .i64 x73.2)])) (h' := [some ⟨24, [(.row (some true) 1 []), (eI .i64 0)]⟩, some ⟨24, [(.sl 2 0 l2_3.length 1 false), (eI .i64 c1_2)]⟩, none, some ⟨5, x73.1.map (eI .u8)⟩]) (sv (d_call rfl Env.one_O)) ?_
                  refine tN (h' := [some ⟨24, [(.row (some true) 1 []), (eI .i64 0)]⟩, some ⟨24, [(.sl 3 0 x73.1.length 1 false), (eI .i64 x73.2)]⟩, none, some ⟨5, x73.1.map (eI .u8)⟩]) (sv (d_store rfl rfl (stP ti24 rfl rfl rfl (Nat.le_of_ble_eq_true rfl) rfl))) ?_
                  refine OpsTo.nil ?_
                  refine Ex.inBlock_mk ?_
                  refine Ex.then_mk ?_
                  refine AB.rw ?_
                  refine wS (v := (eI .i64 vi)) (sv (d_move rfl)) ?_
                  refine wS (v := (eI .i64 (IntKind.i64.wrap (vi - 1)))) (sv (d_bin rfl rfl (bin_sub ..))) ?_
                  refine wS (v := (eI .i64 (IntKind.i64.wrap (vi - 1)))) (sv (d_assign rfl)) ?_
                  refine OpsW.nil ?_
                  refine Ex.then_mk ?_
                  exact ⟨IntKind.i64.wrap (vi - 1), x73.2, x73.1, hr6, (Ghost.rn [0, 1, 3] rfl rfl (FLe.same rfl (FLe.same rfl (FLe.same rfl (FLe.same rfl FLe.nil)))) (HLe.live rfl (V.les_refl _ _) rfl (HLe.live rfl (V.les_refl _ _) rfl (HLe.live rfl (les_map (fun _ => rfl) _) (all_map (fun _ => rfl) _) HLe.nil))) rfl)⟩
                · replace hr6 := iteF hr6 h6
                  refine AB.exit ?_
                  refine Ex.then_exit_mk ?_
                  refine Ex.then_exit_mk ?_
                  refine Ex.inBlock_same_mk ?_
                  obtain rfl := Option.some.inj hr6
                  refine Ex.then_mk ?_
                  exact hG5 _ _ _ _ (Ghost.rn [0, 1, 2] rfl rfl (FLe.same rfl (FLe.same rfl FLe.nil)) (HLe.live rfl (V.les_refl _ _) rfl (HLe.live rfl (V.les_refl _ _) rfl (HLe.live rfl (les_map (fun _ => rfl) _) (all_map (fun _ => rfl) _) HLe.nil))) rfl) (J5 c1_2 l2_3 hr)
              refine AB.seq ?_
              replace hr := bnd hr; obtain ⟨x52, h_10, hr⟩ := hr
              refine AB.rw ?_
              refine wS (v := (eI .u64 v)) (sv (d_move rfl)) ?_
              refine wS (v := (eI .i64 p)) (sv (d_move rfl)) ?_
              refine wS (v := (eI .u64 x52)) (sv (d_bin rfl rfl (bin_shr' _ _ _ _ h_10))) ?_
              refine wS (v := (eI .u64 x52)) (sv (d_assign rfl)) ?_
              refine OpsW.nil ?_
              refine Ex.then_mk ?_
              replace hr := bnd hr; obtain ⟨res7, hL7, hr⟩ := hr
              refine AB.block ?_
              refine AB.loopN (fun m s h => ∃ (k : Int) (c1_3 : Int) (l2_4 : List Int), ref18_AppendRice_L7 N v p m k c1_3 l2_4 = some res7 ∧ Ghost 0 s h (mkF 75 [(1, (eI .u64 v)), (2, (eI .i64 p)), (6, (.ptr 0 0)), (8, (.ptr 1 0)), (9, (eI .u64 k))]) [some ⟨24, [(.row (some true) 1 []), (eI .i64 0)]⟩, some ⟨24, [(.sl 2 0 l2_4.length 1 false), (eI .i64 c1_3)]⟩, some ⟨5, l2_4.map (eI .u8)⟩]) (n := N) ⟨x52, b_N, l2, hL7, (Ghost.rn [0, 1, 2] rfl rfl (FLe.same rfl (FLe.same rfl (FLe.same rfl (FLe.same rfl (FLe.same rfl FLe.nil))))) (HLe.live rfl (V.les_refl _ _) rfl (HLe.live rfl (V.les_refl _ _) rfl (HLe.live rfl (les_map (fun _ => rfl) _) (all_map (fun _ => rfl) _) HLe.nil))) rfl)⟩ (by rintro s h ⟨_, _, _, h0, _⟩; simp [ref18_AppendRice_L7] at h0) ?_
              rintro m7 s h ⟨k, c1_3, l2_4, hr7, hg⟩
              refine AB.ghost hg ?_
              clear hg hL7
              rw [ref18_AppendRice_L7] at hr7
              refine AB.seq ?_
              refine AB.seq ?_
              refine AB.rw ?_
              refine wS (v := (eI .u64 k)) (sv (d_move rfl)) ?_
              refine wS (v := (eB (decide (0 < k)))) (sv (d_bin rfl rfl (bin_gtr ..))) ?_
              refine OpsW.nil ?_
              refine Ex.then_mk ?_
              refine AB.cnd rfl (fun h11 => ?_) (fun h11 => ?_)
              · replace hr7 := iteT hr7 h11
                refine AB.skip ?_
                refine Ex.then_mk ?_
                refine AB.seq ?_
                refine AB.block ?_
                replace hr7 := bnd hr7; obtain ⟨x58, h_12, hr7⟩ := hr7
                refine AB.rw ?_
                refine wS (v := (.agg [(.sl 2 0 l2_4.length 1 false), (eI .i64 c1_3)])) (sv (d_load rfl (ldP rfl (partN (ds := [(.sl 2 0 l2_4.length 1 false), (eI .i64 c1_3)]) ti24 rfl (Nat.le_of_ble_eq_true rfl) rfl)))) ?_
                refine wC (v := (.agg [(.sl 3 0 x58.1.length 1 false), (eI .i64 x58.2)])) (h' := [some ⟨24, [(.row (some true) 1 []), (eI .i64 0)]⟩, some ⟨24, [(.sl 2 0 l2_4.length 1 false), (eI .i64 c1_3)]⟩, none, some ⟨5, x58.1.map (eI .u8)⟩]) rfl (Vm.Fn.lendB (ref18_put_ok N l2_4 c1_3 true x58 h_12) [2] (by decide) rfl (Lend.cons rfl (rns_map (fun _ => rfl) _) Lend.nil) rfl rfl (by simp only [lent, lendSet, lendSet_nil, rnH, Blk.rn, V.rns, V.rn, sg, List.map_cons, List.map_nil, Option.map_some, Option.map_none, List.drop_succ_cons, List.drop_zero, List.drop_nil, List.set_cons_zero, List.set_cons_succ, List.cons_append, List.nil_append, List.append_nil, rns_eI, rns_eB, rns_eS, rns_eL, List.getElem?_cons_zero, List.getElem?_cons_succ, List.getElem?_nil, List.length_cons, List.length_nil, Nat.reduceAdd, Nat.reduceSub, Nat.add_zero, Nat.zero_add, Nat.sub_self, Nat.sub_zero])) ?_
                refine wN (h' := [some ⟨24, [(.row (some true) 1 []), (eI .i64 0)]⟩, some ⟨24, [(.sl 3 0 x58.1.length 1 false), (eI .i64 x58.2)]⟩, none, some ⟨5, x58.1.map (eI .u8)⟩]) (sv (d_store rfl rfl (stP ti24 rfl rfl rfl (Nat.le_of_ble_eq_true rfl) rfl))) ?_
                refine OpsW.nil ?_
                refine Ex.inBlock_mk ?_
                refine Ex.then_mk ?_
                refine AB.rw ?_
                refine wS (v := (eI .u64 k)) (sv (d_move rfl)) ?_
                refine wS (v := (eI .u64 (IntKind.u64.wrap (k - 1)))) (sv (d_bin rfl rfl (bin_sub ..))) ?_
                refine wS (v := (eI .u64 (IntKind.u64.wrap (k - 1)))) (sv (d_assign rfl)) ?_
                refine OpsW.nil ?_
                refine Ex.then_mk ?_
                exact ⟨IntKind.u64.wrap (k - 1), x58.2, x58.1, hr7, (Ghost.rn [0, 1, 3] rfl rfl (FLe.same rfl (FLe.same rfl (FLe.same rfl (FLe.same rfl (FLe.same rfl FLe.nil))))) (HLe.live rfl (V.les_refl _ _) rfl (HLe.live rfl (V.les_refl _ _) rfl (HLe.live rfl (les_map (fun _ => rfl) _) (all_map (fun _ => rfl) _) HLe.nil))) rfl)⟩
              · replace hr7 := iteF hr7 h11
                refine AB.exit ?_
                refine Ex.then_exit_mk ?_
                refine Ex.then_exit_mk ?_
                refine Ex.inBlock_same_mk ?_
                obtain rfl := Option.some.inj hr7
                refine Ex.then_mk ?_
                exact hG4 _ _ _ _ (Ghost.rn [0, 1, 2] rfl rfl (FLe.same rfl (FLe.same rfl (FLe.same rfl (FLe.same rfl FLe.nil)))) (HLe.live rfl (V.les_refl _ _) rfl (HLe.live rfl (V.les_refl _ _) rfl (HLe.live rfl (les_map (fun _ => rfl) _) (all_map (fun _ => rfl) _) HLe.nil))) rfl) (J4 c1_3 l2_4 hr)
            replace hr := bnd hr; obtain ⟨x46, h_13, hr⟩ := hr
            refine AB.rd (memF []) (memF [25]) mixed ?_
            refine DrawG.pick (n := 8) (i := 0) (by decide +kernel) rfl (gS (v := (.ptr 0 0)) (sv (d_fa rfl (fap24_0 ..)))) ?_
            refine DrawG.pick (n := 7) (i := 1) (by decide +kernel) rfl (gS (v := (.row none 1 (b_Data.map (eI .u8)))) (sv (d_load rfl (ldP rfl (part1 ti22 rfl rfl))))) ?_
            refine DrawG.pick (n := 6) (i := 4) (by decide +kernel) rfl (gS (v := (.ptr 0 1)) (sv (d_fa rfl (fap24_1 ..)))) ?_
            refine DrawG.pick (n := 5) (i := 5) (by decide +kernel) rfl (gS (v := (eI .i64 b_N)) (sv (d_load rfl (ldP rfl (part1 ti3 rfl rfl))))) ?_
            refine DrawG.fork (n := 4) [2, 7] (by decide +kernel) (by decide) ?_
            refine (Fork.cons rfl (gS (v := (.sl 2 0 1 1 false)) (h' := [some ⟨24, [(.row none 1 (b_Data.map (eI .u8))), (eI .i64 b_N)]⟩, some ⟨24, [(.row (some true) 1 []), (eI .i64 0)]⟩, some ⟨22, [b_Data].map (eL 1 (eI .u8))⟩]) (sv (d_buildS rfl (bldL1 (xs := [b_Data].map (eL 1 (eI .u8))) ti52 ti22 (Nat.le_of_ble_eq_true rfl) (Nat.le_of_ble_eq_true rfl) rfl rfl rfl rfl rfl rfl rfl)))) ?_ (Fork.cons rfl (gS (v := (.ptr 2 0)) (h' := [some ⟨24, [(.row none 1 (b_Data.map (eI .u8))), (eI .i64 b_N)]⟩, some ⟨24, [(.row (some true) 1 []), (eI .i64 0)]⟩, some ⟨24, [(.row (some true) 1 []), (eI .i64 0)]⟩]) (sv (d_alloc ti24 rfl rfl rfl))) ?_ Fork.nil))
            · refine DrawG.fork (n := 3) [3, 7] (by decide +kernel) (by decide) ?_
              refine (Fork.cons rfl (gC (v := (.sl 3 0 x46.length 1 false)) (h' := [some ⟨24, [(.row none 1 (b_Data.map (eI .u8))), (eI .i64 b_N)]⟩, some ⟨24, [(.row (some true) 1 []), (eI .i64 0)]⟩, some ⟨22, [b_Data].map (eL 1 (eI .u8))⟩, some ⟨5, x46.map (eI .u8)⟩]) (Vm.Fn.lendR (ref01_Join_ok N [b_Data] x46 h_13) [] [2] (by decide) rfl (by decide) Lend.nil (Brw.row (exp_slT rfl rfl (fun _ => rfl)) Brw.nil) rfl (rfB.live (rfs_map (fun _ => rfl) _) rfB.nil) rfl (by simp only [lent, lendSet, lendSet_nil, rnH, Blk.rn, V.rns, V.rn, sg, List.map_cons, List.map_nil, Option.map_some, Option.map_none, List.drop_succ_cons, List.drop_zero, List.drop_nil, List.set_cons_zero, List.set_cons_succ, List.cons_append, List.nil_append, List.append_nil, rns_eI, rns_eB, rns_eS, rns_eL, List.getElem?_cons_zero, List.getElem?_cons_succ, List.getElem?_nil, List.length_cons, List.length_nil, Nat.reduceAdd, Nat.reduceSub, Nat.add_zero, Nat.zero_add, Nat.sub_self, Nat.sub_zero])) (fun h => absurd h (by decide)) (fun _ => ⟨_, rfl⟩) (sv (d_call rfl orc1_hit))) ?_ (Fork.cons rfl (gS (v := (.ptr 3 0)) (h' := [some ⟨24, [(.row none 1 (b_Data.map (eI .u8))), (eI .i64 b_N)]⟩, some ⟨24, [(.row (some true) 1 []), (eI .i64 0)]⟩, some ⟨22, [b_Data].map (eL 1 (eI .u8))⟩, some ⟨24, [(.row (some true) 1 []), (eI .i64 0)]⟩]) (sv (d_alloc ti24 rfl rfl rfl))) ?_ Fork.nil))
              · refine DrawG.pick (n := 2) (i := 6) (by decide +kernel) rfl (gS (v := (.agg [(.sl 3 0 x46.length 1 false), (eI .i64 b_N)])) (sv (d_build rfl (bldS ti24 pl24 rfl)))) ?_
                refine DrawG.pick (n := 1) (i := 7) (by decide +kernel) rfl (gS (v := (.ptr 4 0)) (h' := [some ⟨24, [(.row none 1 (b_Data.map (eI .u8))), (eI .i64 b_N)]⟩, some ⟨24, [(.row (some true) 1 []), (eI .i64 0)]⟩, some ⟨22, [b_Data].map (eL 1 (eI .u8))⟩, some ⟨5, x46.map (eI .u8)⟩, some ⟨24, [(.row (some true) 1 []), (eI .i64 0)]⟩]) (sv (d_alloc ti24 rfl rfl rfl))) ?_
                refine DrawG.pick (n := 0) (i := 8) (by decide +kernel) rfl (gN (h' := [some ⟨24, [(.row none 1 (b_Data.map (eI .u8))), (eI .i64 b_N)]⟩, some ⟨24, [(.row (some true) 1 []), (eI .i64 0)]⟩, some ⟨22, [b_Data].map (eL 1 (eI .u8))⟩, some ⟨5, x46.map (eI .u8)⟩, some ⟨24, [(.sl 3 0 x46.length 1 false), (eI .i64 b_N)]⟩]) (sv (d_store rfl rfl (stP ti24 rfl rfl rfl (Nat.le_of_ble_eq_true rfl) rfl)))) ?_
                refine DrawG.nil (by decide +kernel) ?_
                refine Ex.then_mk ?_
                exact hG3 _ _ _ _ (Ghost.rn [1, 4, 3] rfl rfl (FLe.same rfl (FLe.same rfl (FLe.same rfl (FLe.same rfl FLe.nil)))) (HLe.live rfl (V.les_refl _ _) rfl (HLe.live rfl (V.les_refl _ _) rfl (HLe.live rfl (les_map (fun _ => rfl) _) (all_map (fun _ => rfl) _) HLe.nil))) rfl) (J3 x46 hr)
              · refine DrawG.pick (n := 2) (i := 3) (by decide +kernel) rfl (gC (v := (.sl 4 0 x46.length 1 false)) (h' := [some ⟨24, [(.row none 1 (b_Data.map (eI .u8))), (eI .i64 b_N)]⟩, some ⟨24, [(.row (some true) 1 []), (eI .i64 0)]⟩, some ⟨22, [b_Data].map (eL 1 (eI .u8))⟩, some ⟨24, [(.row (some true) 1 []), (eI .i64 0)]⟩, some ⟨5, x46.map (eI .u8)⟩]) (Vm.Fn.lendR (ref01_Join_ok N [b_Data] x46 h_13) [] [2] (by decide) rfl (by decide) Lend.nil (Brw.row (exp_slT rfl rfl (fun _ => rfl)) Brw.nil) rfl (rfB.live (rfs_map (fun _ => rfl) _) rfB.nil) rfl (by simp only [lent, lendSet, lendSet_nil, rnH, Blk.rn, V.rns, V.rn, sg, List.map_cons, List.map_nil, Option.map_some, Option.map_none, List.drop_succ_cons, List.drop_zero, List.drop_nil, List.set_cons_zero, List.set_cons_succ, List.cons_append, List.nil_append, List.append_nil, rns_eI, rns_eB, rns_eS, rns_eL, List.getElem?_cons_zero, List.getElem?_cons_succ, List.getElem?_nil, List.length_cons, List.length_nil, Nat.reduceAdd, Nat.reduceSub, Nat.add_zero, Nat.zero_add, Nat.sub_self, Nat.sub_zero])) (fun h => absurd h (by decide)) (fun _ => ⟨_, rfl⟩) (sv (d_call rfl orc1_hit))) ?_
                refine DrawG.pick (n := 1) (i := 6) (by decide +kernel) rfl (gS (v := (.agg [(.sl 4 0 x46.length 1 false), (eI .i64 b_N)])) (sv (d_build rfl (bldS ti24 pl24 rfl)))) ?_
                refine DrawG.pick (n := 0) (i := 8) (by decide +kernel) rfl (gN (h' := [some ⟨24, [(.row none 1 (b_Data.map (eI .u8))), (eI .i64 b_N)]⟩, some ⟨24, [(.row (some true) 1 []), (eI .i64 0)]⟩, some ⟨22, [b_Data].map (eL 1 (eI .u8))⟩, some ⟨24, [(.sl 4 0 x46.length 1 false), (eI .i64 b_N)]⟩, some ⟨5, x46.map (eI .u8)⟩]) (sv (d_store rfl rfl (stP ti24 rfl rfl rfl (Nat.le_of_ble_eq_true rfl) rfl)))) ?_
                refine DrawG.nil (by decide +kernel) ?_
                refine Ex.then_mk ?_
                exact hG3 _ _ _ _ (Ghost.rn [1, 3, 4] rfl rfl (FLe.same rfl (FLe.same rfl (FLe.same rfl (FLe.same rfl FLe.nil)))) (HLe.live rfl (V.les_refl _ _) rfl (HLe.live rfl (V.les_refl _ _) rfl (HLe.live rfl (les_map (fun _ => rfl) _) (all_map (fun _ => rfl) _) HLe.nil))) rfl) (J3 x46 hr)
            · refine DrawG.pick (n := 3) (i := 2) (by decide +kernel) rfl (gS (v := (.sl 3 0 1 1 false)) (h' := [some ⟨24, [(.row none 1 (b_Data.map (eI .u8))), (eI .i64 b_N)]⟩, some ⟨24, [(.row (some true) 1 []), (eI .i64 0)]⟩, some ⟨24, [(.row (some true) 1 []), (eI .i64 0)]⟩, some ⟨22, [b_Data].map (eL 1 (eI .u8))⟩]) (sv (d_buildS rfl (bldL1 (xs := [b_Data].map (eL 1 (eI .u8))) ti52 ti22 (Nat.le_of_ble_eq_true rfl) (Nat.le_of_ble_eq_true rfl) rfl rfl rfl rfl rfl rfl rfl)))) ?_
              refine DrawG.pick (n := 2) (i := 3) (by decide +kernel) rfl (gC (v := (.sl 4 0 x46.length 1 false)) (h' := [some ⟨24, [(.row none 1 (b_Data.map (eI .u8))), (eI .i64 b_N)]⟩, some ⟨24, [(.row (some true) 1 []), (eI .i64 0)]⟩, some ⟨24, [(.row (some true) 1 []), (eI .i64 0)]⟩, some ⟨22, [b_Data].map (eL 1 (eI .u8))⟩, some ⟨5, x46.map (eI .u8)⟩]) (Vm.Fn.lendR (ref01_Join_ok N [b_Data] x46 h_13) [] [3] (by decide) rfl (by decide) Lend.nil (Brw.row (exp_slT rfl rfl (fun _ => rfl)) Brw.nil) rfl (rfB.live (rfs_map (fun _ => rfl) _) rfB.nil) rfl (by simp only [lent, lendSet, lendSet_nil, rnH, Blk.rn, V.rns, V.rn, sg, List.map_cons, List.map_nil, Option.map_some, Option.map_none, List.drop_succ_cons, List.drop_zero, List.drop_nil, List.set_cons_zero, List.set_cons_succ, List.cons_append, List.nil_append, List.append_nil, rns_eI, rns_eB, rns_eS, rns_eL, List.getElem?_cons_zero, List.getElem?_cons_succ, List.getElem?_nil, List.length_cons, List.length_nil, Nat.reduceAdd, Nat.reduceSub, Nat.add_zero, Nat.zero_add, Nat.sub_self, Nat.sub_zero])) (fun h => absurd h (by decide)) (fun _ => ⟨_, rfl⟩) (sv (d_call rfl orc1_hit))) ?_
              refine DrawG.pick (n := 1) (i := 6) (by decide +kernel) rfl (gS (v := (.agg [(.sl 4 0 x46.length 1 false), (eI .i64 b_N)])) (sv (d_build rfl (bldS ti24 pl24 rfl)))) ?_
              refine DrawG.pick (n := 0) (i := 8) (by decide +kernel) rfl (gN (h' := [some ⟨24, [(.row none 1 (b_Data.map (eI .u8))), (eI .i64 b_N)]⟩, some ⟨24, [(.row (some true) 1 []), (eI .i64 0)]⟩, some ⟨24, [(.sl 4 0 x46.length 1 false), (eI .i64 b_N)]⟩, some ⟨22, [b_Data].map (eL 1 (eI .u8))⟩, some ⟨5, x46.map (eI .u8)⟩]) (sv (d_store rfl rfl (stP ti24 rfl rfl rfl (Nat.le_of_ble_eq_true rfl) rfl)))) ?_
              refine DrawG.nil (by decide +kernel) ?_
              refine Ex.then_mk ?_
              exact hG3 _ _ _ _ (Ghost.rn [1, 2, 4] rfl rfl (FLe.same rfl (FLe.same rfl (FLe.same rfl (FLe.same rfl FLe.nil)))) (HLe.live rfl (V.les_refl _ _) rfl (HLe.live rfl (V.les_refl _ _) rfl (HLe.live rfl (les_map (fun _ => rfl) _) (all_map (fun _ => rfl) _) HLe.nil))) rfl) (J3 x46 hr)
        replace hr := bnd hr; obtain ⟨x27, h_15, hr⟩ := hr
        rcases Bool.eq_false_or_eq_true (decide (65536 < x27)) with h16 | h16
        · replace hr := iteT hr h16
          refine AB.rg E0 (fun _ => by show drawOk (fun _ => false) _ = true; decide +kernel) ?_
          refine tS (v := (eI .u64 v)) (sv (d_move rfl)) ?_
          refine tS (v := (eI .i64 p)) (sv (d_move rfl)) ?_
          refine tS (v := (eI .u64 x27)) (sv (d_bin rfl rfl (bin_shr' _ _ _ _ h_15))) ?_
          refine tS (v := (eB (decide (65536 < x27)))) (sv (d_bin rfl rfl (bin_gtr ..))) ?_
          refine tS (v := (eB (decide (65536 < x27)))) (sv (d_move rfl)) ?_
          refine tS (svX rfl rfl h16) ?_
          refine tS (svX rfl rfl h16) ?_
          refine tS (svX rfl rfl h16) ?_
          refine tS (svX rfl rfl h16) ?_
          refine tS (svX rfl rfl h16) ?_
          refine tS (svX rfl rfl h16) ?_
          refine tS (svX rfl rfl h16) ?_
          refine tS (svX rfl rfl h16) ?_
          refine tS (svX rfl rfl h16) ?_
          refine tS (svX rfl rfl h16) ?_
          refine tS (svX rfl rfl h16) ?_
          refine tS (v := (eB true)) (sv (d_pickT rfl h16 rfl)) ?_
          refine tS (v := (eB true)) (sv (d_assign rfl)) ?_
          refine OpsTo.nil ?_
          refine Ex.then_mk ?_
          exact hG2 _ _ _ _ (Ghost.rn [0, 1] rfl rfl (FLe.same rfl (FLe.same rfl (FLe.same rfl (FLe.same rfl (FLe.same rfl FLe.nil))))) (HLe.live rfl (V.les_refl _ _) rfl (HLe.live rfl (V.les_refl _ _) rfl HLe.nil)) rfl) (J2 true hr)
        · replace hr := iteF hr h16
          refine AB.rg E0 (fun _ => by show drawOk (fun _ => false) _ = true; decide +kernel) ?_
          refine tS (v := (eI .u64 v)) (sv (d_move rfl)) ?_
          refine tS (v := (eI .i64 p)) (sv (d_move rfl)) ?_
          refine tS (v := (eI .u64 x27)) (sv (d_bin rfl rfl (bin_shr' _ _ _ _ h_15))) ?_
          refine tS (v := (eB (decide (65536 < x27)))) (sv (d_bin rfl rfl (bin_gtr ..))) ?_
          refine tS (v := (eB (decide (65536 < x27)))) (sv (d_move rfl)) ?_
          refine tS (v := (.ptr 0 1)) (svG rfl rfl h16 (d_fa rfl (fap24_1 ..))) ?_
          refine tS (v := (eI .i64 b_N)) (svG rfl rfl h16 (d_load rfl (ldP rfl (part1 ti3 rfl rfl)))) ?_
          refine tS (v := (eI .u64 v)) (svG rfl rfl h16 (d_move rfl)) ?_
          refine tS (v := (eI .i64 p)) (svG rfl rfl h16 (d_move rfl)) ?_
          refine tS (v := (eI .u64 x27)) (svG rfl rfl h16 (d_bin rfl rfl (bin_shr' _ _ _ _ h_15))) ?_
          refine tS (v := (eI .i64 (IntKind.i64.wrap x27))) (svG rfl rfl h16 (d_conv rfl (conv_int _ ⟨_, ti25⟩ ti3 rfl))) ?_
          refine tS (v := (eI .i64 (IntKind.i64.wrap (b_N + (IntKind.i64.wrap x27))))) (svG rfl rfl h16 (d_bin rfl rfl (bin_add ..))) ?_
          refine tS (v := (eI .i64 (IntKind.i64.wrap ((IntKind.i64.wrap (b_N + (IntKind.i64.wrap x27))) + 1)))) (svG rfl rfl h16 (d_bin rfl rfl (bin_add ..))) ?_
          refine tS (v := (eI .i64 p)) (svG rfl rfl h16 (d_move rfl)) ?_
          refine tS (v := (eI .i64 (IntKind.i64.wrap ((IntKind.i64.wrap ((IntKind.i64.wrap (b_N + (IntKind.i64.wrap x27))) + 1)) + p)))) (svG rfl rfl h16 (d_bin rfl rfl (bin_add ..))) ?_
          refine tS (v := (eB (decide (1600000 < (IntKind.i64.wrap ((IntKind.i64.wrap ((IntKind.i64.wrap (b_N + (IntKind.i64.wrap x27))) + 1)) + p)))))) (svG rfl rfl h16 (d_bin rfl rfl (bin_gtr ..))) ?_
          refine tS (v := (eB (decide (1600000 < (IntKind.i64.wrap ((IntKind.i64.wrap ((IntKind.i64.wrap (b_N + (IntKind.i64.wrap x27))) + 1)) + p)))))) (sv (d_pickF rfl h16 rfl)) ?_
          refine tS (v := (eB (decide (1600000 < (IntKind.i64.wrap ((IntKind.i64.wrap ((IntKind.i64.wrap (b_N + (IntKind.i64.wrap x27))) + 1)) + p)))))) (sv (d_assign rfl)) ?_
          refine OpsTo.nil ?_
          refine Ex.then_mk ?_
          exact hG2 _ _ _ _ (Ghost.rn [0, 1] rfl rfl (FLe.same rfl (FLe.same rfl (FLe.same rfl (FLe.same rfl (FLe.same rfl FLe.nil))))) (HLe.live rfl (V.les_refl _ _) rfl (HLe.live rfl (V.les_refl _ _) rfl HLe.nil)) rfl) (J2 (decide (1600000 < (IntKind.i64.wrap ((IntKind.i64.wrap ((IntKind.i64.wrap (b_N + (IntKind.i64.wrap x27))) + 1)) + p)))) hr)
    rcases Bool.eq_false_or_eq_true (decide (p < 0)) with h17 | h17
    · replace hr := iteT hr h17
      refine AB.rw ?_
      refine wS (v := (eI .i64 p)) (sv (d_move rfl)) ?_
      refine wS (v := (eB (decide (p < 0)))) (sv (d_bin rfl rfl (bin_lss ..))) ?_
      refine wS (v := (eB (decide (p < 0)))) (sv (d_move rfl)) ?_
      refine wS (svX rfl rfl h17) ?_
      refine wS (svX rfl rfl h17) ?_
      refine wS (v := (eB true)) (sv (d_pickT rfl h17 rfl)) ?_
      refine wS (v := (eB true)) (sv (d_assign rfl)) ?_
      refine OpsW.nil ?_
      refine Ex.then_mk ?_
      exact hG1 _ _ _ _ (Ghost.rn [0, 1] rfl rfl (FLe.same rfl (FLe.same rfl (FLe.same rfl (FLe.same rfl (FLe.same rfl FLe.nil))))) (HLe.live rfl (V.les_refl _ _) rfl (HLe.live rfl (V.les_refl _ _) rfl HLe.nil)) rfl) (J1 true hr)
    · replace hr := iteF hr h17
      refine AB.rw ?_
      refine wS (v := (eI .i64 p)) (sv (d_move rfl)) ?_
      refine wS (v := (eB (decide (p < 0)))) (sv (d_bin rfl rfl (bin_lss ..))) ?_
      refine wS (v := (eB (decide (p < 0)))) (sv (d_move rfl)) ?_
      refine wS (v := (eI .i64 p)) (svG rfl rfl h17 (d_move rfl)) ?_
      refine wS (v := (eB (decide (32 < p)))) (svG rfl rfl h17 (d_bin rfl rfl (bin_gtr ..))) ?_
      refine wS (v := (eB (decide (32 < p)))) (sv (d_pickF rfl h17 rfl)) ?_
      refine wS (v := (eB (decide (32 < p)))) (sv (d_assign rfl)) ?_
      refine OpsW.nil ?_
      refine Ex.then_mk ?_
      exact hG1 _ _ _ _ (Ghost.rn [0, 1] rfl rfl (FLe.same rfl (FLe.same rfl (FLe.same rfl (FLe.same rfl (FLe.same rfl FLe.nil))))) (HLe.live rfl (V.les_refl _ _) rfl (HLe.live rfl (V.les_refl _ _) rfl HLe.nil)) rfl) (J1 (decide (32 < p)) hr)
set_option maxRecDepth 20000 in
set_option maxHeartbeats 1000000 in
theorem law18_BitsRice_ok (N : Nat) (b_Data : List Int) (b_N : Int) (v : Int) (p : Int) (r : Bool) (hr : law18_BitsRice N b_Data b_N v p = some r) :
    Vm.Fn Try.prog 4 [] [(.agg [(.row none 1 (b_Data.map (eI .u8))), (eI .i64 b_N)]), (eI .u64 v), (eI .i64 p)] (eB r) [] := by
  refine fn_ab Try.func4 rfl (by kernel_rfl) Try.ntmps4 (Nat.le_of_ble_eq_true rfl) rfl (fr := [(0, (.agg [(.row none 1 (b_Data.map (eI .u8))), (eI .i64 b_N)])), (1, (eI .u64 v)), (2, (eI .i64 p))]) rfl ?_
  unfold law18_BitsRice at hr
  refine AB.seq ?_
  refine AB.rw ?_
  refine wS (v := (.ptr 0 0)) (h' := [some ⟨24, [(.row none 1 (b_Data.map (eI .u8))), (eI .i64 b_N)]⟩]) (sv (d_box rfl rfl rfl rfl)) ?_
  refine wS (v := (eB false)) (sv (d_assign rfl)) ?_
  refine OpsW.nil ?_
  refine Ex.then_mk ?_
  refine AB.seq ?_
  refine AB.seq ?_
  replace hr := bnd hr; obtain ⟨x11, h_1, hr⟩ := hr
  refine AB.rw ?_
  refine wC (v := (eB x11)) (h' := [some ⟨24, [(.row none 1 (b_Data.map (eI .u8))), (eI .i64 b_N)]⟩]) rfl (Vm.Fn.pure (law18_sane_ok N x11 h_1) rfl rfl) ?_
  refine wS (v := (eB (!x11))) (sv (d_un rfl (un_not _ _))) ?_
  refine OpsW.nil ?_
  refine Ex.then_mk ?_
  refine AB.cnd rfl (fun h2 => ?_) (fun h2 => ?_)
  · replace hr := iteT hr h2
    refine AB.seq ?_
    refine AB.rw ?_
    refine wS (v := (eB false)) (sv (d_assign rfl)) ?_
    refine OpsW.nil ?_
    refine Ex.then_mk ?_
    refine AB.ret ?_
    refine Ex.then_ret_mk ?_
    obtain rfl := Option.some.inj hr
    exact done_ret (r1 := (eB false)) (res1 Try.results4 (rvT rfl)) (Ghost.rn [] rfl rfl (FLe.same rfl FLe.nil) HLe.nil rfl)
  · replace hr := iteF hr h2
    refine AB.skip ?_
    refine Ex.then_mk ?_
    refine AB.seq ?_
    refine AB.seq ?_
    replace hr := bnd hr; obtain ⟨x14, h_3, hr⟩ := hr
    refine AB.rw ?_
    refine wS (v := (.agg [(.row none 1 (b_Data.map (eI .u8))), (eI .i64 b_N)])) (sv (d_load rfl (ldP rfl (partN (ds := [(.row none 1 (b_Data.map (eI .u8))), (eI .i64 b_N)]) ti24 rfl (Nat.le_of_ble_eq_true rfl) rfl)))) ?_
    refine wC (v := (eB x14)) (h' := [some ⟨24, [(.row none 1 (b_Data.map (eI .u8))), (eI .i64 b_N)]⟩]) rfl (Vm.Fn.pure (law18_kept_ok N b_Data b_N x14 h_3) rfl rfl) ?_
    refine wS (v := (eB (!x14))) (sv (d_un rfl (un_not _ _))) ?_
    refine OpsW.nil ?_
    refine Ex.then_mk ?_
    refine AB.cnd rfl (fun h4 => ?_) (fun h4 => ?_)
    · replace hr := iteT hr h4
      refine AB.seq ?_
      refine AB.rw ?_
      refine wS (v := (eB true)) (sv (d_assign rfl)) ?_
      refine OpsW.nil ?_
      refine Ex.then_mk ?_
      refine AB.ret ?_
      refine Ex.then_ret_mk ?_
      obtain rfl := Option.some.inj hr
      exact done_ret (r1 := (eB true)) (res1 Try.results4 (rvT rfl)) (Ghost.rn [] rfl rfl (FLe.same rfl FLe.nil) HLe.nil rfl)
    · replace hr := iteF hr h4
      refine AB.skip ?_
      refine Ex.then_mk ?_
      refine AB.seq ?_
      replace hr := bnd hr; obtain ⟨x20, h_5, hr⟩ := hr
      refine AB.rw ?_
      refine wS (v := (.agg [(.row none 1 (b_Data.map (eI .u8))), (eI .i64 b_N)])) (sv (d_load rfl (ldP rfl (partN (ds := [(.row none 1 (b_Data.map (eI .u8))), (eI .i64 b_N)]) ti24 rfl (Nat.le_of_ble_eq_true rfl) rfl)))) ?_
      refine wS (v := (eI .u64 v)) (sv (d_move rfl)) ?_
      refine wS (v := (eI .i64 p)) (sv (d_move rfl)) ?_
      refine wC (v := (.tup [(.agg [(.sl 1 0 x20.1.length 1 false), (eI .i64 x20.2.1)]), (eI .i64 x20.2.2)])) (h' := [some ⟨24, [(.row none 1 (b_Data.map (eI .u8))), (eI .i64 b_N)]⟩, some ⟨5, x20.1.map (eI .u8)⟩]) rfl (Vm.Fn.lendB (bits_AppendRice_ok N b_Data b_N v p x20 h_5) [] (by decide) rfl Lend.nil rfl rfl (by simp only [lent, lendSet, lendSet_nil, rnH, Blk.rn, V.rns, V.rn, sg, List.map_cons, List.map_nil, Option.map_some, Option.map_none, List.drop_succ_cons, List.drop_zero, List.drop_nil, List.set_cons_zero, List.set_cons_succ, List.cons_append, List.nil_append, List.append_nil, rns_eI, rns_eB, rns_eS, rns_eL, List.getElem?_cons_zero, List.getElem?_cons_succ, List.getElem?_nil, List.length_cons, List.length_nil, Nat.reduceAdd, Nat.reduceSub, Nat.add_zero, Nat.zero_add, Nat.sub_self, Nat.sub_zero])) ?_
      refine wS (v := (.tup [(.agg [(.sl 1 0 x20.1.length 1 false), (eI .i64 x20.2.1)]), (eI .i64 x20.2.2)])) (sv (d_move rfl)) ?_
      refine wS (v := (.agg [(.sl 1 0 x20.1.length 1 false), (eI .i64 x20.2.1)])) (sv (d_ext rfl rfl)) ?_
      refine wS (v := (eI .i64 x20.2.2)) (sv (d_ext rfl rfl)) ?_
      refine wS (v := (.ptr 2 0)) (h' := [some ⟨24, [(.row none 1 (b_Data.map (eI .u8))), (eI .i64 b_N)]⟩, some ⟨5, x20.1.map (eI .u8)⟩, some ⟨24, [(.row (some true) 1 []), (eI .i64 0)]⟩]) (sv (d_alloc ti24 rfl rfl rfl)) ?_
      refine wN (h' := [some ⟨24, [(.row none 1 (b_Data.map (eI .u8))), (eI .i64 b_N)]⟩, some ⟨5, x20.1.map (eI .u8)⟩, some ⟨24, [(.sl 1 0 x20.1.length 1 false), (eI .i64 x20.2.1)]⟩]) (sv (d_store rfl rfl (stP ti24 rfl rfl rfl (Nat.le_of_ble_eq_true rfl) rfl))) ?_
      refine wS (v := (eI .i64 x20.2.2)) (sv (d_assign rfl)) ?_
      refine OpsW.nil ?_
      refine Ex.then_mk ?_
      refine AB.seq ?_
      replace hr := bnd hr; obtain ⟨x27, h_6, hr⟩ := hr
      refine AB.rw ?_
      refine wS (v := (.agg [(.row none 1 (b_Data.map (eI .u8))), (eI .i64 b_N)])) (sv (d_load rfl (ldP rfl (partN (ds := [(.row none 1 (b_Data.map (eI .u8))), (eI .i64 b_N)]) ti24 rfl (Nat.le_of_ble_eq_true rfl) rfl)))) ?_
      refine wS (v := (eI .u64 v)) (sv (d_move rfl)) ?_
      refine wS (v := (eI .i64 p)) (sv (d_move rfl)) ?_
      refine wC (v := (.tup [(.agg [(.sl 3 0 x27.1.length 1 false), (eI .i64 x27.2.1)]), (eI .i64 x27.2.2)])) (h' := [some ⟨24, [(.row none 1 (b_Data.map (eI .u8))), (eI .i64 b_N)]⟩, some ⟨5, x20.1.map (eI .u8)⟩, some ⟨24, [(.sl 1 0 x20.1.length 1 false), (eI .i64 x20.2.1)]⟩, some ⟨5, x27.1.map (eI .u8)⟩]) rfl (Vm.Fn.lendB (ref18_AppendRice_ok N b_Data b_N v p x27 h_6) [] (by decide) rfl Lend.nil rfl rfl (by simp only [lent, lendSet, lendSet_nil, rnH, Blk.rn, V.rns, V.rn, sg, List.map_cons, List.map_nil, Option.map_some, Option.map_none, List.drop_succ_cons, List.drop_zero, List.drop_nil, List.set_cons_zero, List.set_cons_succ, List.cons_append, List.nil_append, List.append_nil, rns_eI, rns_eB, rns_eS, rns_eL, List.getElem?_cons_zero, List.getElem?_cons_succ, List.getElem?_nil, List.length_cons, List.length_nil, Nat.reduceAdd, Nat.reduceSub, Nat.add_zero, Nat.zero_add, Nat.sub_self, Nat.sub_zero])) ?_
      refine wS (v := (.tup [(.agg [(.sl 3 0 x27.1.length 1 false), (eI .i64 x27.2.1)]), (eI .i64 x27.2.2)])) (sv (d_move rfl)) ?_
      refine wS (v := (.agg [(.sl 3 0 x27.1.length 1 false), (eI .i64 x27.2.1)])) (sv (d_ext rfl rfl)) ?_
      refine wS (v := (eI .i64 x27.2.2)) (sv (d_ext rfl rfl)) ?_
      refine wS (v := (.ptr 4 0)) (h' := [some ⟨24, [(.row none 1 (b_Data.map (eI .u8))), (eI .i64 b_N)]⟩, some ⟨5, x20.1.map (eI .u8)⟩, some ⟨24, [(.sl 1 0 x20.1.length 1 false), (eI .i64 x20.2.1)]⟩, some ⟨5, x27.1.map (eI .u8)⟩, some ⟨24, [(.row (some true) 1 []), (eI .i64 0)]⟩]) (sv (d_alloc ti24 rfl rfl rfl)) ?_
      refine wN (h' := [some ⟨24, [(.row none 1 (b_Data.map (eI .u8))), (eI .i64 b_N)]⟩, some ⟨5, x20.1.map (eI .u8)⟩, some ⟨24, [(.sl 1 0 x20.1.length 1 false), (eI .i64 x20.2.1)]⟩, some ⟨5, x27.1.map (eI .u8)⟩, some ⟨24, [(.sl 3 0 x27.1.length 1 false), (eI .i64 x27.2.1)]⟩]) (sv (d_store rfl rfl (stP ti24 rfl rfl rfl (Nat.le_of_ble_eq_true rfl) rfl))) ?_
      refine wS (v := (eI .i64 x27.2.2)) (sv (d_assign rfl)) ?_
      refine OpsW.nil ?_
      refine Ex.then_mk ?_
      refine AB.seq_g fun K1 hK1 hG1 => ?_
      have J1 : ∀ (x6 : Bool), law18_BitsRice_J1 N x6 = some r → K1 (mkF 38 [(6, (eB x6))]) [] := by
        intro x6 hr
        unfold law18_BitsRice_J1 at hr
        refine hK1 _ _ ?_
        refine AB.ret ?_
        obtain rfl := Option.some.inj hr
        exact done_ret (r1 := (eB x6)) (res1 Try.results4 (rvT rfl)) (Ghost.rn [] rfl rfl (FLe.same rfl FLe.nil) HLe.nil rfl)
      rcases Bool.eq_false_or_eq_true (x20.2.2 == x27.2.2) with h7 | h7
      · replace hr := iteT hr h7
        replace hr := bnd hr; obtain ⟨x36, h_8, hr⟩ := hr
        refine AB.rw ?_
        refine wS (v := (eI .i64 x20.2.2)) (sv (d_move rfl)) ?_
        refine wS (v := (eI .i64 x27.2.2)) (sv (d_move rfl)) ?_
        refine wS (v := (eB (x20.2.2 == x27.2.2))) (sv (d_bin rfl rfl (bin_eql ..))) ?_
        refine wS (v := (eB (x20.2.2 == x27.2.2))) (sv (d_move rfl)) ?_
        refine wS (v := (.agg [(.sl 1 0 x20.1.length 1 false), (eI .i64 x20.2.1)])) (svG rfl rfl h7 (d_load rfl (ldP rfl (partN (ds := [(.sl 1 0 x20.1.length 1 false), (eI .i64 x20.2.1)]) ti24 rfl (Nat.le_of_ble_eq_true rfl) rfl)))) ?_
        refine wS (v := (.agg [(.sl 3 0 x27.1.length 1 false), (eI .i64 x27.2.1)])) (svG rfl rfl h7 (d_load rfl (ldP rfl (partN (ds := [(.sl 3 0 x27.1.length 1 false), (eI .i64 x27.2.1)]) ti24 rfl (Nat.le_of_ble_eq_true rfl) rfl)))) ?_
        refine wCG (v := (eB x36)) (h' := [some ⟨24, [(.row none 1 (b_Data.map (eI .u8))), (eI .i64 b_N)]⟩, some ⟨5, x20.1.map (eI .u8)⟩, some ⟨24, [(.sl 1 0 x20.1.length 1 false), (eI .i64 x20.2.1)]⟩, some ⟨5, x27.1.map (eI .u8)⟩, some ⟨24, [(.sl 3 0 x27.1.length 1 false), (eI .i64 x27.2.1)]⟩]) rfl rfl h7 rfl (Vm.Fn.lendR (ref18_Same_ok N x20.1 x20.2.1 x27.1 x27.2.1 x36 h_8) [] [1, 3] (by decide) rfl (by decide) Lend.nil (Brw.row (exp_agg (exp_cons (exp_sl (d := 3) rfl rfl (fun _ => rfl)) (exp_cons rfl exp_nil))) (Brw.row (exp_agg (exp_cons (exp_sl (d := 3) rfl rfl (fun _ => rfl)) (exp_cons rfl exp_nil))) Brw.nil)) rfl rfB.nil rfl (by simp only [lent, lendSet, lendSet_nil, rnH, Blk.rn, V.rns, V.rn, sg, List.map_cons, List.map_nil, Option.map_some, Option.map_none, List.drop_succ_cons, List.drop_zero, List.drop_nil, List.set_cons_zero, List.set_cons_succ, List.cons_append, List.nil_append, List.append_nil, rns_eI, rns_eB, rns_eS, rns_eL, List.getElem?_cons_zero, List.getElem?_cons_succ, List.getElem?_nil, List.length_cons, List.length_nil, Nat.reduceAdd, Nat.reduceSub, Nat.add_zero, Nat.zero_add, Nat.sub_self, Nat.sub_zero])) ?_
        refine wS (v := (eB x36)) (sv (d_pickT rfl h7 rfl)) ?_
        refine wS (v := (eB x36)) (sv (d_assign rfl)) ?_
        refine OpsW.nil ?_
        refine Ex.then_mk ?_
        exact hG1 _ _ _ _ (Ghost.rn [] rfl rfl (FLe.same rfl FLe.nil) HLe.nil rfl) (J1 x36 hr)
      · replace hr := iteF hr h7
        refine AB.rw ?_
        refine wS (v := (eI .i64 x20.2.2)) (sv (d_move rfl)) ?_
        refine wS (v := (eI .i64 x27.2.2)) (sv (d_move rfl)) ?_
        refine wS (v := (eB (x20.2.2 == x27.2.2))) (sv (d_bin rfl rfl (bin_eql ..))) ?_
        refine wS (v := (eB (x20.2.2 == x27.2.2))) (sv (d_move rfl)) ?_
        refine wS (svX rfl rfl h7) ?_
        refine wS (svX rfl rfl h7) ?_
        refine wS (svX rfl rfl h7) ?_
        refine wS (v := (eB false)) (sv (d_pickF rfl h7 rfl)) ?_
        refine wS (v := (eB false)) (sv (d_assign rfl)) ?_
        refine OpsW.nil ?_
        refine Ex.then_mk ?_
        exact hG1 _ _ _ _ (Ghost.rn [] rfl rfl (FLe.same rfl FLe.nil) HLe.nil rfl) (J1 false hr)
set_option maxRecDepth 20000 in
set_option maxHeartbeats 1000000 in
theorem bits_bit_ok (N : Nat) (b_Data : List Int) (b_N : Int) (vi : Int) (r : Bool) (hr : bits_bit N b_Data b_N vi = some r) :
    Vm.Fn Try.prog 32 [] [(.agg [(.row none 1 (b_Data.map (eI .u8))), (eI .i64 b_N)]), (eI .i64 vi)] (eB r) [] := by
  refine fn_ab Try.func32 rfl (by kernel_rfl) Try.ntmps32 (Nat.le_of_ble_eq_true rfl) rfl (fr := [(0, (.agg [(.row none 1 (b_Data.map (eI .u8))), (eI .i64 b_N)])), (1, (eI .i64 vi))]) rfl ?_
  unfold bits_bit at hr
  refine AB.seq ?_
  refine AB.rw ?_
  refine wS (v := (.ptr 0 0)) (h' := [some ⟨24, [(.row none 1 (b_Data.map (eI .u8))), (eI .i64 b_N)]⟩]) (sv (d_box rfl rfl rfl rfl)) ?_
  refine wS (v := (eB false)) (sv (d_assign rfl)) ?_
  refine OpsW.nil ?_
  refine Ex.then_mk ?_
  refine AB.seq ?_
  replace hr := bnd hr; obtain ⟨x9, h_1, hr⟩ := hr
  replace hr := bnd hr; obtain ⟨x13, h_2, hr⟩ := hr
  refine AB.rg E0 (fun _ => by show drawOk (fun _ => false) _ = true; decide +kernel) ?_
  refine tS (v := (.ptr 0 0)) (sv (d_fa rfl (fap24_0 ..))) ?_
  refine tS (v := (.row none 1 (b_Data.map (eI .u8)))) (sv (d_load rfl (ldP rfl (part1 ti22 rfl rfl)))) ?_
  refine tS (v := (eI .i64 vi)) (sv (d_move rfl)) ?_
  refine tS (v := (eI .i64 (IntKind.i64.wrap (Int.tdiv vi 8)))) (sv (d_bin rfl rfl (bin_quo' _ _ _ _ rfl))) ?_
  refine tS (sv (d_ia rfl rfl (iaR ti22 ti5 h_1))) ?_
  refine tS (v := (eI .u8 x9)) (sv (d_load rfl (ldR h_1 (part1 ti5 rfl rfl)))) ?_
  refine tS (v := (eI .i64 vi)) (sv (d_move rfl)) ?_
  refine tS (v := (eI .i64 (Int.tmod vi 8))) (sv (d_bin rfl rfl (bin_rem' _ _ _ _ rfl))) ?_
  refine tS (v := (eI .u8 x13)) (sv (d_bin rfl rfl (bin_shr' _ _ _ _ h_2))) ?_
  refine tS (v := (eI .u8 (bits .and .u8 x9 x13))) (sv (d_bin rfl rfl (bin_and ..))) ?_
  refine tS (v := (eB ((bits .and .u8 x9 x13) != 0))) (sv (d_bin rfl rfl (bin_neq ..))) ?_
  refine tS (v := (eB ((bits .and .u8 x9 x13) != 0))) (sv (d_assign rfl)) ?_
  refine OpsTo.nil ?_
  refine Ex.then_mk ?_
  refine AB.ret ?_
  obtain rfl := Option.some.inj hr
  exact done_ret (r1 := (eB ((bits .and .u8 x9 x13) != 0))) (res1 Try.results32 (rvT rfl)) (Ghost.rn [] rfl rfl (FLe.same rfl FLe.nil) HLe.nil rfl)
set_option maxRecDepth 20000 in
set_option maxHeartbeats 1000000 in
theorem bits_number_ok (N : Nat) (b_Data : List Int) (b_N : Int) (vat : Int) (vn : Int) (r : Int) (hr : bits_number N b_Data b_N vat vn = some r) :
    Vm.Fn Try.prog 30 [] [(.agg [(.row none 1 (b_Data.map (eI .u8))), (eI .i64 b_N)]), (eI .i64 vat), (eI .i64 vn)] (eI .u64 r) [] := by
  refine fn_ab Try.func30 rfl (by kernel_rfl) Try.ntmps30 (Nat.le_of_ble_eq_true rfl) rfl (fr := [(0, (.agg [(.row none 1 (b_Data.map (eI .u8))), (eI .i64 b_N)])), (1, (eI .i64 vat)), (2, (eI .i64 vn))]) rfl ?_
  unfold bits_number at hr
  refine AB.seq ?_
  refine AB.rw ?_
  refine wS (v := (.ptr 0 0)) (h' := [some ⟨24, [(.row none 1 (b_Data.map (eI .u8))), (eI .i64 b_N)]⟩]) (sv (d_box rfl rfl rfl rfl)) ?_
  refine wS (v := (eI .u64 0)) (sv (d_assign rfl)) ?_
  refine OpsW.nil ?_
  refine Ex.then_mk ?_
  refine AB.seq ?_
  refine AB.rw ?_
  refine wS (v := (eI .u64 0)) (sv (d_assign rfl)) ?_
  refine OpsW.nil ?_
  refine Ex.then_mk ?_
  refine AB.seq_g fun K1 hK1 hG1 => ?_
  have J1 : ∀ (v : Int), bits_number_J1 N v = some r → K1 (mkF 24 [(7, (eI .u64 v))]) [] := by
    intro v hr
    unfold bits_number_J1 at hr
    refine hK1 _ _ ?_
    refine AB.seq ?_
    refine AB.rw ?_
    refine wS (v := (eI .u64 v)) (sv (d_move rfl)) ?_
    refine wS (v := (eI .u64 v)) (sv (d_assign rfl)) ?_
    refine OpsW.nil ?_
    refine Ex.then_mk ?_
    refine AB.ret ?_
    obtain rfl := Option.some.inj hr
    exact done_ret (r1 := (eI .u64 v)) (res1 Try.results30 (rvT rfl)) (Ghost.rn [] rfl rfl (FLe.same rfl FLe.nil) HLe.nil rfl)
  refine AB.seq ?_
  refine AB.rw ?_
  refine wS (v := (eI .i64 vn)) (sv (d_move rfl)) ?_
  refine wS (v := (eI .i64 0)) (sv (d_move rfl)) ?_
  refine OpsW.nil ?_
  refine Ex.then_mk ?_
  replace hr := bnd hr; obtain ⟨res2, hL2, hr⟩ := hr
  refine AB.block ?_
  refine AB.loopN (fun m s h => ∃ (v_1 : Int) (x10 : Int), bits_number_L2 N b_Data b_N vat vn m v_1 x10 = some res2 ∧ Ghost 0 s h (mkF 24 [(1, (eI .i64 vat)), (3, (.ptr 0 0)), (7, (eI .u64 v_1)), (9, (eI .i64 vn)), (10, (eI .i64 x10))]) [some ⟨24, [(.row none 1 (b_Data.map (eI .u8))), (eI .i64 b_N)]⟩]) (n := N) ⟨0, 0, hL2, (Ghost.rn [0] rfl rfl (FLe.same rfl (FLe.same rfl (FLe.same rfl (FLe.same rfl (FLe.same rfl FLe.nil))))) (HLe.live rfl (V.les_refl _ _) rfl HLe.nil) rfl)⟩ (by rintro s h ⟨_, _, h0, _⟩; simp [bits_number_L2] at h0) ?_
  rintro m2 s h ⟨v_1, x10, hr2, hg⟩
  refine AB.ghost hg ?_
  clear hg hL2
  rw [bits_number_L2] at hr2
  refine AB.seq ?_
  refine AB.rw ?_
  refine wS (v := (eB (decide (x10 < vn)))) (sv (d_bin rfl rfl (bin_lss ..))) ?_
  refine OpsW.nil ?_
  refine Ex.then_mk ?_
  refine AB.seq ?_
  refine AB.cnd rfl (fun h1 => ?_) (fun h1 => ?_)
  · replace hr2 := iteT hr2 h1
    refine AB.skip ?_
    refine Ex.then_mk ?_
    refine AB.seq_g fun K3 hK3 hG3 => ?_
    have J3 : ∀ (v_2 : Int), bits_number_J3 N b_Data b_N vat vn x10 (bits_number_L2 N b_Data b_N vat vn m2) v_2 = some res2 → K3 (mkF 24 [(1, (eI .i64 vat)), (3, (.ptr 0 0)), (7, (eI .u64 v_2)), (9, (eI .i64 vn)), (10, (eI .i64 x10))]) [some ⟨24, [(.row none 1 (b_Data.map (eI .u8))), (eI .i64 b_N)]⟩] := by
      intro v_2 hr2
      unfold bits_number_J3 at hr2
      refine hK3 _ _ ?_
      refine AB.rw ?_
      refine wS (v := (eI .i64 (IntKind.i64.wrap (x10 + 1)))) (sv (d_bin rfl rfl (bin_add ..))) ?_
      refine wS (v := (eI .i64 (IntKind.i64.wrap (x10 + 1)))) (sv (d_move rfl)) ?_
      refine OpsW.nil ?_
      refine Ex.then_mk ?_
      exact ⟨v_2, IntKind.i64.wrap (x10 + 1), hr2, (Ghost.rn [0] rfl rfl (FLe.same rfl (FLe.same rfl (FLe.same rfl (FLe.same rfl (FLe.same rfl FLe.nil))))) (HLe.live rfl (V.les_refl _ _) rfl HLe.nil) rfl)⟩
    refine AB.block ?_
    refine AB.seq ?_
    refine AB.rw ?_
    refine wS (v := (eI .i64 x10)) (sv (d_move rfl)) ?_
    refine wS (v := (eI .i64 x10)) (sv (d_assign rfl)) ?_
    refine OpsW.nil ?_
    refine Ex.then_mk ?_
    refine AB.seq ?_
    replace hr2 := bnd hr2; obtain ⟨x14, h_2, hr2⟩ := hr2
    refine AB.rw ?_
    refine wS (v := (eI .u64 v_1)) (sv (d_move rfl)) ?_
    refine wS (v := (eI .u64 x14)) (sv (d_bin rfl rfl (bin_shl' _ _ _ _ h_2))) ?_
    refine wS (v := (eI .u64 x14)) (sv (d_assign rfl)) ?_
    refine OpsW.nil ?_
    refine Ex.then_mk ?_
    refine AB.seq ?_
    replace hr2 := bnd hr2; obtain ⟨x19, h_3, hr2⟩ := hr2
    refine AB.rw ?_
    refine wS (v := (.agg [(.row none 1 (b_Data.map (eI .u8))), (eI .i64 b_N)])) (sv (d_load rfl (ldP rfl (partN (ds := [(.row none 1 (b_Data.map (eI .u8))), (eI .i64 b_N)]) ti24 rfl (Nat.le_of_ble_eq_true rfl) rfl)))) ?_
    refine wS (v := (eI .i64 vat)) (sv (d_move rfl)) ?_
    refine wS (v := (eI .i64 x10)) (sv (d_move rfl)) ?_
    refine wS (v := (eI .i64 (IntKind.i64.wrap (vat + x10)))) (sv (d_bin rfl rfl (bin_add ..))) ?_
    refine wC (v := (eB x19)) (h' := [some ⟨24, [(.row none 1 (b_Data.map (eI .u8))), (eI .i64 b_N)]⟩]) rfl (Vm.Fn.pure (bits_bit_ok N b_Data b_N (IntKind.i64.wrap (vat + x10)) x19 h_3) rfl rfl) ?_
    refine OpsW.nil ?_
    refine Ex.then_mk ?_
    refine AB.cnd rfl (fun h4 => ?_) (fun h4 => ?_)
    · replace hr2 := iteT hr2 h4
      refine AB.rw ?_
      refine wS (v := (eI .u64 x14)) (sv (d_move rfl)) ?_
      refine wS (v := (eI .u64 (bits .or .u64 x14 1))) (sv (d_bin rfl rfl (bin_or ..))) ?_
      refine wS (v := (eI .u64 (bits .or .u64 x14 1))) (sv (d_assign rfl)) ?_
      refine OpsW.nil ?_
      refine Ex.inBlock_mk ?_
      refine Ex.then_mk ?_
      exact hG3 _ _ _ _ (Ghost.rn [0] rfl rfl (FLe.same rfl (FLe.same rfl (FLe.same rfl (FLe.same rfl (FLe.same rfl FLe.nil))))) (HLe.live rfl (V.les_refl _ _) rfl HLe.nil) rfl) (J3 (bits .or .u64 x14 1) hr2)
    · replace hr2 := iteF hr2 h4
      refine AB.skip ?_
      refine Ex.inBlock_mk ?_
      refine Ex.then_mk ?_
      exact hG3 _ _ _ _ (Ghost.rn [0] rfl rfl (FLe.same rfl (FLe.same rfl (FLe.same rfl (FLe.same rfl (FLe.same rfl FLe.nil))))) (HLe.live rfl (V.les_refl _ _) rfl HLe.nil) rfl) (J3 x14 hr2)
  · replace hr2 := iteF hr2 h1
    refine AB.exit ?_
    refine Ex.then_exit_mk ?_
    refine Ex.then_exit_mk ?_
    refine Ex.inBlock_same_mk ?_
    obtain rfl := Option.some.inj hr2
    refine Ex.then_mk ?_
    exact hG1 _ _ _ _ (Ghost.rn [] rfl rfl (FLe.same rfl FLe.nil) HLe.nil rfl) (J1 v_1 hr)
set_option maxRecDepth 20000 in
set_option maxHeartbeats 1000000 in
theorem bits_Read_ok (N : Nat) (b_Data : List Int) (b_N : Int) (vat : Int) (vn : Int) (r : Int × Int × Int) (hr : bits_Read N b_Data b_N vat vn = some r) :
    Vm.Fn Try.prog 19 [] [(.agg [(.row none 1 (b_Data.map (eI .u8))), (eI .i64 b_N)]), (eI .i64 vat), (eI .i64 vn)] (.tup [(eI .u64 r.1), (eI .i64 r.2.1), (eI .i64 r.2.2)]) [] := by
  refine fn_ab Try.func19 rfl (by kernel_rfl) Try.ntmps19 (Nat.le_of_ble_eq_true rfl) rfl (fr := [(0, (.agg [(.row none 1 (b_Data.map (eI .u8))), (eI .i64 b_N)])), (1, (eI .i64 vat)), (2, (eI .i64 vn))]) rfl ?_
  unfold bits_Read at hr
  refine AB.seq ?_
  refine AB.rw ?_
  refine wS (v := (.ptr 0 0)) (h' := [some ⟨24, [(.row none 1 (b_Data.map (eI .u8))), (eI .i64 b_N)]⟩]) (sv (d_box rfl rfl rfl rfl)) ?_
  refine wS (v := (eI .u64 0)) (sv (d_assign rfl)) ?_
  refine wS (v := (eI .i64 0)) (sv (d_assign rfl)) ?_
  refine wS (v := (eI .i64 0)) (sv (d_assign rfl)) ?_
  refine OpsW.nil ?_
  refine Ex.then_mk ?_
  refine AB.seq ?_
  refine AB.seq ?_
  replace hr := bnd hr; obtain ⟨x10, h_1, hr⟩ := hr
  refine AB.rw ?_
  refine wS (v := (.agg [(.row none 1 (b_Data.map (eI .u8))), (eI .i64 b_N)])) (sv (d_load rfl (ldP rfl (partN (ds := [(.row none 1 (b_Data.map (eI .u8))), (eI .i64 b_N)]) ti24 rfl (Nat.le_of_ble_eq_true rfl) rfl)))) ?_
  refine wC (v := (eB x10)) (h' := [some ⟨24, [(.row none 1 (b_Data.map (eI .u8))), (eI .i64 b_N)]⟩]) rfl (Vm.Fn.pure (bits_Valid_ok N b_Data b_N x10 h_1) rfl rfl) ?_
  refine wS (v := (eB (!x10))) (sv (d_un rfl (un_not _ _))) ?_
  refine OpsW.nil ?_
  refine Ex.then_mk ?_
  refine AB.cnd rfl (fun h2 => ?_) (fun h2 => ?_)
  · replace hr := iteT hr h2
    refine AB.seq ?_
    refine AB.rw ?_
    refine wS (v := (eI .u64 0)) (sv (d_assign rfl)) ?_
    refine wS (v := (eI .i64 0)) (sv (d_assign rfl)) ?_
    refine wS (v := (eI .i64 6)) (sv (d_assign rfl)) ?_
    refine OpsW.nil ?_
    refine Ex.then_mk ?_
    refine AB.ret ?_
    refine Ex.then_ret_mk ?_
    obtain rfl := Option.some.inj hr
    exact done_ret (r1 := (.tup [(eI .u64 0), (eI .i64 0), (eI .i64 6)])) (res3 Try.results19 (rvT rfl) (rvT rfl) (rvT rfl)) (Ghost.rn [] rfl rfl (FLe.same rfl FLe.nil) HLe.nil rfl)
  · replace hr := iteF hr h2
    refine AB.skip ?_
    refine Ex.then_mk ?_
    refine AB.seq ?_
    refine AB.seq_g fun K1 hK1 hG1 => ?_
    have J1 : ∀ (x27 : Bool), bits_Read_J1 N b_Data b_N vat vn x27 = some r → K1 (mkF 41 [(1, (eI .i64 vat)), (2, (eI .i64 vn)), (3, (.ptr 0 0)), (27, (eB x27))]) [some ⟨24, [(.row none 1 (b_Data.map (eI .u8))), (eI .i64 b_N)]⟩] := by
      intro x27 hr
      unfold bits_Read_J1 at hr
      refine hK1 _ _ ?_
      refine AB.cnd rfl (fun h3 => ?_) (fun h3 => ?_)
      · replace hr := iteT hr h3
        refine AB.seq ?_
        refine AB.rw ?_
        refine wS (v := (eI .u64 0)) (sv (d_assign rfl)) ?_
        refine wS (v := (eI .i64 0)) (sv (d_assign rfl)) ?_
        refine wS (v := (eI .i64 5)) (sv (d_assign rfl)) ?_
        refine OpsW.nil ?_
        refine Ex.then_mk ?_
        refine AB.ret ?_
        refine Ex.then_ret_mk ?_
        obtain rfl := Option.some.inj hr
        exact done_ret (r1 := (.tup [(eI .u64 0), (eI .i64 0), (eI .i64 5)])) (res3 Try.results19 (rvT rfl) (rvT rfl) (rvT rfl)) (Ghost.rn [] rfl rfl (FLe.same rfl FLe.nil) HLe.nil rfl)
      · replace hr := iteF hr h3
        refine AB.skip ?_
        refine Ex.then_mk ?_
        refine AB.seq ?_
        refine AB.seq ?_
        refine AB.rw ?_
        refine wS (v := (.ptr 0 1)) (sv (d_fa rfl (fap24_1 ..))) ?_
        refine wS (v := (eI .i64 b_N)) (sv (d_load rfl (ldP rfl (part1 ti3 rfl rfl)))) ?_
        refine wS (v := (eI .i64 vat)) (sv (d_move rfl)) ?_
        refine wS (v := (eI .i64 (IntKind.i64.wrap (b_N - vat)))) (sv (d_bin rfl rfl (bin_sub ..))) ?_
        refine wS (v := (eI .i64 vn)) (sv (d_move rfl)) ?_
        refine wS (v := (eB (decide ((IntKind.i64.wrap (b_N - vat)) < vn)))) (sv (d_bin rfl rfl (bin_lss ..))) ?_
        refine OpsW.nil ?_
        refine Ex.then_mk ?_
        refine AB.cnd rfl (fun h4 => ?_) (fun h4 => ?_)
        · replace hr := iteT hr h4
          refine AB.seq ?_
          refine AB.rw ?_
          refine wS (v := (eI .u64 0)) (sv (d_assign rfl)) ?_
          refine wS (v := (eI .i64 0)) (sv (d_assign rfl)) ?_
          refine wS (v := (eI .i64 1)) (sv (d_assign rfl)) ?_
          refine OpsW.nil ?_
          refine Ex.then_mk ?_
          refine AB.ret ?_
          refine Ex.then_ret_mk ?_
          obtain rfl := Option.some.inj hr
          exact done_ret (r1 := (.tup [(eI .u64 0), (eI .i64 0), (eI .i64 1)])) (res3 Try.results19 (rvT rfl) (rvT rfl) (rvT rfl)) (Ghost.rn [] rfl rfl (FLe.same rfl FLe.nil) HLe.nil rfl)
        · replace hr := iteF hr h4
          refine AB.skip ?_
          refine Ex.then_mk ?_
          refine AB.seq ?_
          replace hr := bnd hr; obtain ⟨x37, h_5, hr⟩ := hr
          refine AB.rw ?_
          refine wS (v := (.agg [(.row none 1 (b_Data.map (eI .u8))), (eI .i64 b_N)])) (sv (d_load rfl (ldP rfl (partN (ds := [(.row none 1 (b_Data.map (eI .u8))), (eI .i64 b_N)]) ti24 rfl (Nat.le_of_ble_eq_true rfl) rfl)))) ?_
          refine wS (v := (eI .i64 vat)) (sv (d_move rfl)) ?_
          refine wS (v := (eI .i64 vn)) (sv (d_move rfl)) ?_
          refine wC (v := (eI .u64 x37)) (h' := [some ⟨24, [(.row none 1 (b_Data.map (eI .u8))), (eI .i64 b_N)]⟩]) rfl (Vm.Fn.pure (bits_number_ok N b_Data b_N vat vn x37 h_5) rfl rfl) ?_
          refine wS (v := (eI .i64 vat)) (sv (d_move rfl)) ?_
          refine wS (v := (eI .i64 vn)) (sv (d_move rfl)) ?_
          refine wS (v := (eI .i64 (IntKind.i64.wrap (vat + vn)))) (sv (d_bin rfl rfl (bin_add ..))) ?_
          refine wS (v := (eI .u64 x37)) (sv (d_assign rfl)) ?_
          refine wS (v := (eI .i64 (IntKind.i64.wrap (vat + vn)))) (sv (d_assign rfl)) ?_
          refine wS (v := (eI .i64 0)) (sv (d_assign rfl)) ?_
          refine OpsW.nil ?_
          refine Ex.then_mk ?_
          refine AB.ret ?_
          obtain rfl := Option.some.inj hr
          exact done_ret (r1 := (.tup [(eI .u64 x37), (eI .i64 (IntKind.i64.wrap (vat + vn))), (eI .i64 0)])) (res3 Try.results19 (rvT rfl) (rvT rfl) (rvT rfl)) (Ghost.rn [] rfl rfl (FLe.same rfl FLe.nil) HLe.nil rfl)
    rcases Bool.eq_false_or_eq_true (decide (vn < 0)) with h6 | h6
    · replace hr := iteT hr h6
      refine AB.rw ?_
      refine wS (v := (eI .i64 vn)) (sv (d_move rfl)) ?_
      refine wS (v := (eB (decide (vn < 0)))) (sv (d_bin rfl rfl (bin_lss ..))) ?_
      refine wS (v := (eB (decide (vn < 0)))) (sv (d_move rfl)) ?_
      refine wS (svX rfl rfl h6) ?_
      refine wS (svX rfl rfl h6) ?_
      refine wS (v := (eB true)) (sv (d_pickT rfl h6 rfl)) ?_
      refine wS (v := (eB true)) (sv (d_move rfl)) ?_
      refine wS (svX rfl rfl rfl) ?_
      refine wS (svX rfl rfl rfl) ?_
      refine wS (v := (eB true)) (sv (d_pickT rfl rfl rfl)) ?_
      refine wS (v := (eB true)) (sv (d_move rfl)) ?_
      refine wS (svX rfl rfl rfl) ?_
      refine wS (svX rfl rfl rfl) ?_
      refine wS (svX rfl rfl rfl) ?_
      refine wS (svX rfl rfl rfl) ?_
      refine wS (v := (eB true)) (sv (d_pickT rfl rfl rfl)) ?_
      refine OpsW.nil ?_
      refine Ex.then_mk ?_
      exact hG1 _ _ _ _ (Ghost.rn [0] rfl rfl (FLe.same rfl (FLe.same rfl (FLe.same rfl (FLe.same rfl FLe.nil)))) (HLe.live rfl (V.les_refl _ _) rfl HLe.nil) rfl) (J1 true hr)
    · replace hr := iteF hr h6
      rcases Bool.eq_false_or_eq_true (decide (64 < vn)) with h7 | h7
      · replace hr := iteT hr h7
        refine AB.rw ?_
        refine wS (v := (eI .i64 vn)) (sv (d_move rfl)) ?_
        refine wS (v := (eB (decide (vn < 0)))) (sv (d_bin rfl rfl (bin_lss ..))) ?_
        refine wS (v := (eB (decide (vn < 0)))) (sv (d_move rfl)) ?_
        refine wS (v := (eI .i64 vn)) (svG rfl rfl h6 (d_move rfl)) ?_
        refine wS (v := (eB (decide (64 < vn)))) (svG rfl rfl h6 (d_bin rfl rfl (bin_gtr ..))) ?_
        refine wS (v := (eB (decide (64 < vn)))) (sv (d_pickF rfl h6 rfl)) ?_
        refine wS (v := (eB (decide (64 < vn)))) (sv (d_move rfl)) ?_
        refine wS (svX rfl rfl h7) ?_
        refine wS (svX rfl rfl h7) ?_
        refine wS (v := (eB true)) (sv (d_pickT rfl h7 rfl)) ?_
        refine wS (v := (eB true)) (sv (d_move rfl)) ?_
        refine wS (svX rfl rfl rfl) ?_
        refine wS (svX rfl rfl rfl) ?_
        refine wS (svX rfl rfl rfl) ?_
        refine wS (svX rfl rfl rfl) ?_
        refine wS (v := (eB true)) (sv (d_pickT rfl rfl rfl)) ?_
        refine OpsW.nil ?_
        refine Ex.then_mk ?_
        exact hG1 _ _ _ _ (Ghost.rn [0] rfl rfl (FLe.same rfl (FLe.same rfl (FLe.same rfl (FLe.same rfl FLe.nil)))) (HLe.live rfl (V.les_refl _ _) rfl HLe.nil) rfl) (J1 true hr)
      · replace hr := iteF hr h7
        rcases Bool.eq_false_or_eq_true (decide (vat < 0)) with h8 | h8
        · replace hr := iteT hr h8
          refine AB.rw ?_
          refine wS (v := (eI .i64 vn)) (sv (d_move rfl)) ?_
          refine wS (v := (eB (decide (vn < 0)))) (sv (d_bin rfl rfl (bin_lss ..))) ?_
          refine wS (v := (eB (decide (vn < 0)))) (sv (d_move rfl)) ?_
          refine wS (v := (eI .i64 vn)) (svG rfl rfl h6 (d_move rfl)) ?_
          refine wS (v := (eB (decide (64 < vn)))) (svG rfl rfl h6 (d_bin rfl rfl (bin_gtr ..))) ?_
          refine wS (v := (eB (decide (64 < vn)))) (sv (d_pickF rfl h6 rfl)) ?_
          refine wS (v := (eB (decide (64 < vn)))) (sv (d_move rfl)) ?_
          refine wS (v := (eI .i64 vat)) (svG rfl rfl h7 (d_move rfl)) ?_
          refine wS (v := (eB (decide (vat < 0)))) (svG rfl rfl h7 (d_bin rfl rfl (bin_lss ..))) ?_
          refine wS (v := (eB (decide (vat < 0)))) (sv (d_pickF rfl h7 rfl)) ?_
          refine wS (v := (eB (decide (vat < 0)))) (sv (d_move rfl)) ?_
          refine wS (svX rfl rfl h8) ?_
          refine wS (svX rfl rfl h8) ?_
          refine wS (svX rfl rfl h8) ?_
          refine wS (svX rfl rfl h8) ?_
          refine wS (v := (eB true)) (sv (d_pickT rfl h8 rfl)) ?_
          refine OpsW.nil ?_
          refine Ex.then_mk ?_
          exact hG1 _ _ _ _ (Ghost.rn [0] rfl rfl (FLe.same rfl (FLe.same rfl (FLe.same rfl (FLe.same rfl FLe.nil)))) (HLe.live rfl (V.les_refl _ _) rfl HLe.nil) rfl) (J1 true hr)
        · replace hr := iteF hr h8
          refine AB.rw ?_
          refine wS (v := (eI .i64 vn)) (sv (d_move rfl)) ?_
          refine wS (v := (eB (decide (vn < 0)))) (sv (d_bin rfl rfl (bin_lss ..))) ?_
          refine wS (v := (eB (decide (vn < 0)))) (sv (d_move rfl)) ?_
          refine wS (v := (eI .i64 vn)) (svG rfl rfl h6 (d_move rfl)) ?_
          refine wS (v := (eB (decide (64 < vn)))) (svG rfl rfl h6 (d_bin rfl rfl (bin_gtr ..))) ?_
          refine wS (v := (eB (decide (64 < vn)))) (sv (d_pickF rfl h6 rfl)) ?_
          refine wS (v := (eB (decide (64 < vn)))) (sv (d_move rfl)) ?_
          refine wS (v := (eI .i64 vat)) (svG rfl rfl h7 (d_move rfl)) ?_
          refine wS (v := (eB (decide (vat < 0)))) (svG rfl rfl h7 (d_bin rfl rfl (bin_lss ..))) ?_
          refine wS (v := (eB (decide (vat < 0)))) (sv (d_pickF rfl h7 rfl)) ?_
          refine wS (v := (eB (decide (vat < 0)))) (sv (d_move rfl)) ?_
          refine wS (v := (eI .i64 vat)) (svG rfl rfl h8 (d_move rfl)) ?_
          refine wS (v := (.ptr 0 1)) (svG rfl rfl h8 (d_fa rfl (fap24_1 ..))) ?_
          refine wS (v := (eI .i64 b_N)) (svG rfl rfl h8 (d_load rfl (ldP rfl (part1 ti3 rfl rfl)))) ?_
          refine wS (v := (eB (decide (b_N < vat)))) (svG rfl rfl h8 (d_bin rfl rfl (bin_gtr ..))) ?_
          refine wS (v := (eB (decide (b_N < vat)))) (sv (d_pickF rfl h8 rfl)) ?_
          refine OpsW.nil ?_
          refine Ex.then_mk ?_
          exact hG1 _ _ _ _ (Ghost.rn [0] rfl rfl (FLe.same rfl (FLe.same rfl (FLe.same rfl (FLe.same rfl FLe.nil)))) (HLe.live rfl (V.les_refl _ _) rfl HLe.nil) rfl) (J1 (decide (b_N < vat)) hr)
set_option maxRecDepth 20000 in
set_option maxHeartbeats 1000000 in
theorem ref18_number_ok (N : Nat) (b_Data : List Int) (b_N : Int) (vat : Int) (vn : Int) (r : Int) (hr : ref18_number N b_Data b_N vat vn = some r) :
    Vm.Fn Try.prog 31 [] [(.agg [(.row none 1 (b_Data.map (eI .u8))), (eI .i64 b_N)]), (eI .i64 vat), (eI .i64 vn)] (eI .u64 r) [] := by
  refine fn_ab Try.func31 rfl (by kernel_rfl) Try.ntmps31 (Nat.le_of_ble_eq_true rfl) rfl (fr := [(0, (.agg [(.row none 1 (b_Data.map (eI .u8))), (eI .i64 b_N)])), (1, (eI .i64 vat)), (2, (eI .i64 vn))]) rfl ?_
  unfold ref18_number at hr
  refine AB.seq ?_
  refine AB.rw ?_
  refine wS (v := (.ptr 0 0)) (h' := [some ⟨24, [(.row none 1 (b_Data.map (eI .u8))), (eI .i64 b_N)]⟩]) (sv (d_box rfl rfl rfl rfl)) ?_
  refine wS (v := (eI .u64 0)) (sv (d_assign rfl)) ?_
  refine OpsW.nil ?_
  refine Ex.then_mk ?_
  refine AB.seq ?_
  refine AB.rw ?_
  refine wS (v := (eI .u64 0)) (sv (d_assign rfl)) ?_
  refine OpsW.nil ?_
  refine Ex.then_mk ?_
  refine AB.seq_g fun K1 hK1 hG1 => ?_
  have J1 : ∀ (v : Int), ref18_number_J1 N v = some r → K1 (mkF 25 [(7, (eI .u64 v))]) [] := by
    intro v hr
    unfold ref18_number_J1 at hr
    refine hK1 _ _ ?_
    refine AB.seq ?_
    refine AB.rw ?_
    refine wS (v := (eI .u64 v)) (sv (d_move rfl)) ?_
    refine wS (v := (eI .u64 v)) (sv (d_assign rfl)) ?_
    refine OpsW.nil ?_
    refine Ex.then_mk ?_
    refine AB.ret ?_
    obtain rfl := Option.some.inj hr
    exact done_ret (r1 := (eI .u64 v)) (res1 Try.results31 (rvT rfl)) (Ghost.rn [] rfl rfl (FLe.same rfl FLe.nil) HLe.nil rfl)
  refine AB.seq ?_
  refine AB.rw ?_
  refine wS (v := (eI .i64 vat)) (sv (d_move rfl)) ?_
  refine wS (v := (eI .i64 vat)) (sv (d_assign rfl)) ?_
  refine OpsW.nil ?_
  refine Ex.then_mk ?_
  replace hr := bnd hr; obtain ⟨res2, hL2, hr⟩ := hr
  refine AB.block ?_
  refine AB.loopN (fun m s h => ∃ (v_1 : Int) (vi : Int), ref18_number_L2 N b_Data b_N vat vn m v_1 vi = some res2 ∧ Ghost 0 s h (mkF 25 [(1, (eI .i64 vat)), (2, (eI .i64 vn)), (3, (.ptr 0 0)), (7, (eI .u64 v_1)), (8, (eI .i64 vi))]) [some ⟨24, [(.row none 1 (b_Data.map (eI .u8))), (eI .i64 b_N)]⟩]) (n := N) ⟨0, vat, hL2, (Ghost.rn [0] rfl rfl (FLe.same rfl (FLe.same rfl (FLe.same rfl (FLe.same rfl (FLe.same rfl FLe.nil))))) (HLe.live rfl (V.les_refl _ _) rfl HLe.nil) rfl)⟩ (by rintro s h ⟨_, _, h0, _⟩; simp [ref18_number_L2] at h0) ?_
  rintro m2 s h ⟨v_1, vi, hr2, hg⟩
  refine AB.ghost hg ?_
  clear hg hL2
  rw [ref18_number_L2] at hr2
  refine AB.seq ?_
  refine AB.seq ?_
  refine AB.rw ?_
  refine wS (v := (eI .i64 vi)) (sv (d_move rfl)) ?_
  refine wS (v := (eI .i64 vat)) (sv (d_move rfl)) ?_
  refine wS (v := (eI .i64 vn)) (sv (d_move rfl)) ?_
  refine wS (v := (eI .i64 (IntKind.i64.wrap (vat + vn)))) (sv (d_bin rfl rfl (bin_add ..))) ?_
  refine wS (v := (eB (decide (vi < (IntKind.i64.wrap (vat + vn)))))) (sv (d_bin rfl rfl (bin_lss ..))) ?_
  refine OpsW.nil ?_
  refine Ex.then_mk ?_
  refine AB.cnd rfl (fun h1 => ?_) (fun h1 => ?_)
  · replace hr2 := iteT hr2 h1
    refine AB.skip ?_
    refine Ex.then_mk ?_
    refine AB.seq_g fun K3 hK3 hG3 => ?_
    have J3 : ∀ (v_2 : Int), ref18_number_J3 N b_Data b_N vat vn vi (ref18_number_L2 N b_Data b_N vat vn m2) v_2 = some res2 → K3 (mkF 25 [(1, (eI .i64 vat)), (2, (eI .i64 vn)), (3, (.ptr 0 0)), (7, (eI .u64 v_2)), (8, (eI .i64 vi))]) [some ⟨24, [(.row none 1 (b_Data.map (eI .u8))), (eI .i64 b_N)]⟩] := by
      intro v_2 hr2
      unfold ref18_number_J3 at hr2
      refine hK3 _ _ ?_
      refine AB.rw ?_
      refine wS (v := (eI .i64 vi)) (sv (d_move rfl)) ?_
      refine wS (v := (eI .i64 (IntKind.i64.wrap (vi + 1)))) (sv (d_bin rfl rfl (bin_add ..))) ?_
      refine wS (v := (eI .i64 (IntKind.i64.wrap (vi + 1)))) (sv (d_assign rfl)) ?_
      refine OpsW.nil ?_
      refine Ex.then_mk ?_
      exact ⟨v_2, IntKind.i64.wrap (vi + 1), hr2, (Ghost.rn [0] rfl rfl (FLe.same rfl (FLe.same rfl (FLe.same rfl (FLe.same rfl (FLe.same rfl FLe.nil))))) (HLe.live rfl (V.les_refl _ _) rfl HLe.nil) rfl)⟩
    refine AB.block ?_
    refine AB.seq ?_
    refine AB.rw ?_
    refine wS (v := (eI .u64 v_1)) (sv (d_move rfl)) ?_
    refine wS (v := (eI .u64 (IntKind.u64.wrap (v_1 * 2)))) (sv (d_bin rfl rfl (bin_mul ..))) ?_
    refine wS (v := (eI .u64 (IntKind.u64.wrap (v_1 * 2)))) (sv (d_assign rfl)) ?_
    refine OpsW.nil ?_
    refine Ex.then_mk ?_
    refine AB.seq ?_
    replace hr2 := bnd hr2; obtain ⟨x21, h_2, hr2⟩ := hr2
    refine AB.rw ?_
    refine wS (v := (.agg [(.row none 1 (b_Data.map (eI .u8))), (eI .i64 b_N)])) (sv (d_load rfl (ldP rfl (partN (ds := [(.row none 1 (b_Data.map (eI .u8))), (eI .i64 b_N)]) ti24 rfl (Nat.le_of_ble_eq_true rfl) rfl)))) ?_
    refine wS (v := (eI .i64 vi)) (sv (d_move rfl)) ?_
    refine wC (v := (eB x21)) (h' := [some ⟨24, [(.row none 1 (b_Data.map (eI .u8))), (eI .i64 b_N)]⟩]) rfl (Vm.Fn.pure (ref18_bit_ok N b_Data b_N vi x21 h_2) rfl rfl) ?_
    refine OpsW.nil ?_
    refine Ex.then_mk ?_
    refine AB.cnd rfl (fun h3 => ?_) (fun h3 => ?_)
    · replace hr2 := iteT hr2 h3
      refine AB.rw ?_
      refine wS (v := (eI .u64 (IntKind.u64.wrap (v_1 * 2)))) (sv (d_move rfl)) ?_
      refine wS (v := (eI .u64 (IntKind.u64.wrap ((IntKind.u64.wrap (v_1 * 2)) + 1)))) (sv (d_bin rfl rfl (bin_add ..))) ?_
      refine wS (v := (eI .u64 (IntKind.u64.wrap ((IntKind.u64.wrap (v_1 * 2)) + 1)))) (sv (d_assign rfl)) ?_
      refine OpsW.nil ?_
      refine Ex.inBlock_mk ?_
      refine Ex.then_mk ?_
      exact hG3 _ _ _ _ (Ghost.rn [0] rfl rfl (FLe.same rfl (FLe.same rfl (FLe.same rfl (FLe.same rfl (FLe.same rfl FLe.nil))))) (HLe.live rfl (V.les_refl _ _) rfl HLe.nil) rfl) (J3 (IntKind.u64.wrap ((IntKind.u64.wrap (v_1 * 2)) + 1)) hr2)
    · replace hr2 := iteF hr2 h3
      refine AB.skip ?_
      refine Ex.inBlock_mk ?_
      refine Ex.then_mk ?_
      exact hG3 _ _ _ _ (Ghost.rn [0] rfl rfl (FLe.same rfl (FLe.same rfl (FLe.same rfl (FLe.same rfl (FLe.same rfl FLe.nil))))) (HLe.live rfl (V.les_refl _ _) rfl HLe.nil) rfl) (J3 (IntKind.u64.wrap (v_1 * 2)) hr2)
  · replace hr2 := iteF hr2 h1
    refine AB.exit ?_
    refine Ex.then_exit_mk ?_
    refine Ex.then_exit_mk ?_
    refine Ex.inBlock_same_mk ?_
    obtain rfl := Option.some.inj hr2
    refine Ex.then_mk ?_
    exact hG1 _ _ _ _ (Ghost.rn [] rfl rfl (FLe.same rfl FLe.nil) HLe.nil rfl) (J1 v_1 hr)
set_option maxRecDepth 20000 in
set_option maxHeartbeats 1000000 in
theorem ref18_Read_ok (N : Nat) (b_Data : List Int) (b_N : Int) (vat : Int) (vn : Int) (r : Int × Int × Int) (hr : ref18_Read N b_Data b_N vat vn = some r) :
    Vm.Fn Try.prog 20 [] [(.agg [(.row none 1 (b_Data.map (eI .u8))), (eI .i64 b_N)]), (eI .i64 vat), (eI .i64 vn)] (.tup [(eI .u64 r.1), (eI .i64 r.2.1), (eI .i64 r.2.2)]) [] := by
  refine fn_ab Try.func20 rfl (by kernel_rfl) Try.ntmps20 (Nat.le_of_ble_eq_true rfl) rfl (fr := [(0, (.agg [(.row none 1 (b_Data.map (eI .u8))), (eI .i64 b_N)])), (1, (eI .i64 vat)), (2, (eI .i64 vn))]) rfl ?_
  unfold ref18_Read at hr
  refine AB.seq ?_
  refine AB.rw ?_
  refine wS (v := (.ptr 0 0)) (h' := [some ⟨24, [(.row none 1 (b_Data.map (eI .u8))), (eI .i64 b_N)]⟩]) (sv (d_box rfl rfl rfl rfl)) ?_
  refine wS (v := (eI .u64 0)) (sv (d_assign rfl)) ?_
  refine wS (v := (eI .i64 0)) (sv (d_assign rfl)) ?_
  refine wS (v := (eI .i64 0)) (sv (d_assign rfl)) ?_
  refine OpsW.nil ?_
  refine Ex.then_mk ?_
  refine AB.seq ?_
  refine AB.block ?_
  refine AB.seq ?_
  replace hr := bnd hr; obtain ⟨x11, h_1, hr⟩ := hr
  refine AB.rw ?_
  refine wS (v := (.agg [(.row none 1 (b_Data.map (eI .u8))), (eI .i64 b_N)])) (sv (d_load rfl (ldP rfl (partN (ds := [(.row none 1 (b_Data.map (eI .u8))), (eI .i64 b_N)]) ti24 rfl (Nat.le_of_ble_eq_true rfl) rfl)))) ?_
  refine wC (v := (eB x11)) (h' := [some ⟨24, [(.row none 1 (b_Data.map (eI .u8))), (eI .i64 b_N)]⟩]) rfl (Vm.Fn.pure (ref18_Valid_ok N b_Data b_N x11 h_1) rfl rfl) ?_
  refine wS (v := (eB (!x11))) (sv (d_un rfl (un_not _ _))) ?_
  refine wS (v := (eB (!x11))) (sv (d_assign rfl)) ?_
  refine OpsW.nil ?_
  refine Ex.then_mk ?_
  refine AB.cnd rfl (fun h2 => ?_) (fun h2 => ?_)
  · replace hr := iteT hr h2
    refine AB.seq ?_
    refine AB.rw ?_
    refine wS (v := (eI .u64 0)) (sv (d_assign rfl)) ?_
    refine wS (v := (eI .i64 0)) (sv (d_assign rfl)) ?_
    refine wS (v := (eI .i64 6)) (sv (d_assign rfl)) ?_
    refine OpsW.nil ?_
    refine Ex.then_mk ?_
    refine AB.ret ?_
    refine Ex.inBlock_ret_mk ?_
    refine Ex.then_ret_mk ?_
    obtain rfl := Option.some.inj hr
    exact done_ret (r1 := (.tup [(eI .u64 0), (eI .i64 0), (eI .i64 6)])) (res3 Try.results20 (rvT rfl) (rvT rfl) (rvT rfl)) (Ghost.rn [] rfl rfl (FLe.same rfl FLe.nil) HLe.nil rfl)
  · replace hr := iteF hr h2
    refine AB.seq_g fun K1 hK1 hG1 => ?_
    have J1 : ∀ (x13 : Bool), ref18_Read_J1 N b_Data b_N vat vn x13 = some r → K1 (mkF 44 [(1, (eI .i64 vat)), (2, (eI .i64 vn)), (3, (.ptr 0 0)), (13, (eB x13))]) [some ⟨24, [(.row none 1 (b_Data.map (eI .u8))), (eI .i64 b_N)]⟩] := by
      intro x13 hr
      unfold ref18_Read_J1 at hr
      refine hK1 _ _ ?_
      refine AB.cnd rfl (fun h3 => ?_) (fun h3 => ?_)
      · replace hr := iteT hr h3
        refine AB.seq ?_
        refine AB.rw ?_
        refine wS (v := (eI .u64 0)) (sv (d_assign rfl)) ?_
        refine wS (v := (eI .i64 0)) (sv (d_assign rfl)) ?_
        refine wS (v := (eI .i64 5)) (sv (d_assign rfl)) ?_
        refine OpsW.nil ?_
        refine Ex.then_mk ?_
        refine AB.ret ?_
        refine Ex.inBlock_ret_mk ?_
        refine Ex.then_ret_mk ?_
        obtain rfl := Option.some.inj hr
        exact done_ret (r1 := (.tup [(eI .u64 0), (eI .i64 0), (eI .i64 5)])) (res3 Try.results20 (rvT rfl) (rvT rfl) (rvT rfl)) (Ghost.rn [] rfl rfl (FLe.same rfl FLe.nil) HLe.nil rfl)
      · replace hr := iteF hr h3
        refine AB.seq ?_
        refine AB.rw ?_
        refine wS (v := (.ptr 0 1)) (sv (d_fa rfl (fap24_1 ..))) ?_
        refine wS (v := (eI .i64 b_N)) (sv (d_load rfl (ldP rfl (part1 ti3 rfl rfl)))) ?_
        refine wS (v := (eI .i64 vat)) (sv (d_move rfl)) ?_
        refine wS (v := (eI .i64 (IntKind.i64.wrap (b_N - vat)))) (sv (d_bin rfl rfl (bin_sub ..))) ?_
        refine wS (v := (eI .i64 vn)) (sv (d_move rfl)) ?_
        refine wS (v := (eB (decide ((IntKind.i64.wrap (b_N - vat)) < vn)))) (sv (d_bin rfl rfl (bin_lss ..))) ?_
        refine wS (v := (eB (decide ((IntKind.i64.wrap (b_N - vat)) < vn)))) (sv (d_assign rfl)) ?_
        refine OpsW.nil ?_
        refine Ex.then_mk ?_
        refine AB.cnd rfl (fun h4 => ?_) (fun h4 => ?_)
        · replace hr := iteT hr h4
          refine AB.seq ?_
          refine AB.rw ?_
          refine wS (v := (eI .u64 0)) (sv (d_assign rfl)) ?_
          refine wS (v := (eI .i64 0)) (sv (d_assign rfl)) ?_
          refine wS (v := (eI .i64 1)) (sv (d_assign rfl)) ?_
          refine OpsW.nil ?_
          refine Ex.then_mk ?_
          refine AB.ret ?_
          refine Ex.inBlock_ret_mk ?_
          refine Ex.then_ret_mk ?_
          obtain rfl := Option.some.inj hr
          exact done_ret (r1 := (.tup [(eI .u64 0), (eI .i64 0), (eI .i64 1)])) (res3 Try.results20 (rvT rfl) (rvT rfl) (rvT rfl)) (Ghost.rn [] rfl rfl (FLe.same rfl FLe.nil) HLe.nil rfl)
        · replace hr := iteF hr h4
          refine AB.skip ?_
          refine Ex.inBlock_mk ?_
          refine Ex.then_mk ?_
          refine AB.seq ?_
          replace hr := bnd hr; obtain ⟨x40, h_5, hr⟩ := hr
          refine AB.rw ?_
          refine wS (v := (.agg [(.row none 1 (b_Data.map (eI .u8))), (eI .i64 b_N)])) (sv (d_load rfl (ldP rfl (partN (ds := [(.row none 1 (b_Data.map (eI .u8))), (eI .i64 b_N)]) ti24 rfl (Nat.le_of_ble_eq_true rfl) rfl)))) ?_
          refine wS (v := (eI .i64 vat)) (sv (d_move rfl)) ?_
          refine wS (v := (eI .i64 vn)) (sv (d_move rfl)) ?_
          refine wC (v := (eI .u64 x40)) (h' := [some ⟨24, [(.row none 1 (b_Data.map (eI .u8))), (eI .i64 b_N)]⟩]) rfl (Vm.Fn.pure (ref18_number_ok N b_Data b_N vat vn x40 h_5) rfl rfl) ?_
          refine wS (v := (eI .i64 vat)) (sv (d_move rfl)) ?_
          refine wS (v := (eI .i64 vn)) (sv (d_move rfl)) ?_
          refine wS (v := (eI .i64 (IntKind.i64.wrap (vat + vn)))) (sv (d_bin rfl rfl (bin_add ..))) ?_
          refine wS (v := (eI .u64 x40)) (sv (d_assign rfl)) ?_
          refine wS (v := (eI .i64 (IntKind.i64.wrap (vat + vn)))) (sv (d_assign rfl)) ?_
          refine wS (v := (eI .i64 0)) (sv (d_assign rfl)) ?_
          refine OpsW.nil ?_
          refine Ex.then_mk ?_
          refine AB.ret ?_
          obtain rfl := Option.some.inj hr
          exact done_ret (r1 := (.tup [(eI .u64 x40), (eI .i64 (IntKind.i64.wrap (vat + vn))), (eI .i64 0)])) (res3 Try.results20 (rvT rfl) (rvT rfl) (rvT rfl)) (Ghost.rn [] rfl rfl (FLe.same rfl FLe.nil) HLe.nil rfl)
    rcases Bool.eq_false_or_eq_true (decide (vn < 0)) with h6 | h6
    · replace hr := iteT hr h6
      refine AB.rw ?_
      refine wS (v := (eI .i64 vn)) (sv (d_move rfl)) ?_
      refine wS (v := (eB (decide (vn < 0)))) (sv (d_bin rfl rfl (bin_lss ..))) ?_
      refine wS (v := (eB (decide (vn < 0)))) (sv (d_move rfl)) ?_
      refine wS (svX rfl rfl h6) ?_
      refine wS (svX rfl rfl h6) ?_
      refine wS (v := (eB true)) (sv (d_pickT rfl h6 rfl)) ?_
      refine wS (v := (eB true)) (sv (d_move rfl)) ?_
      refine wS (svX rfl rfl rfl) ?_
      refine wS (svX rfl rfl rfl) ?_
      refine wS (v := (eB true)) (sv (d_pickT rfl rfl rfl)) ?_
      refine wS (v := (eB true)) (sv (d_move rfl)) ?_
      refine wS (svX rfl rfl rfl) ?_
      refine wS (svX rfl rfl rfl) ?_
      refine wS (svX rfl rfl rfl) ?_
      refine wS (svX rfl rfl rfl) ?_
      refine wS (v := (eB true)) (sv (d_pickT rfl rfl rfl)) ?_
      refine wS (v := (eB true)) (sv (d_assign rfl)) ?_
      refine OpsW.nil ?_
      refine Ex.then_mk ?_
      exact hG1 _ _ _ _ (Ghost.rn [0] rfl rfl (FLe.same rfl (FLe.same rfl (FLe.same rfl (FLe.same rfl FLe.nil)))) (HLe.live rfl (V.les_refl _ _) rfl HLe.nil) rfl) (J1 true hr)
    · replace hr := iteF hr h6
      rcases Bool.eq_false_or_eq_true (decide (64 < vn)) with h7 | h7
      · replace hr := iteT hr h7
        refine AB.rw ?_
        refine wS (v := (eI .i64 vn)) (sv (d_move rfl)) ?_
        refine wS (v := (eB (decide (vn < 0)))) (sv (d_bin rfl rfl (bin_lss ..))) ?_
        refine wS (v := (eB (decide (vn < 0)))) (sv (d_move rfl)) ?_
        refine wS (v := (eI .i64 vn)) (svG rfl rfl h6 (d_move rfl)) ?_
        refine wS (v := (eB (decide (64 < vn)))) (svG rfl rfl h6 (d_bin rfl rfl (bin_gtr ..))) ?_
        refine wS (v := (eB (decide (64 < vn)))) (sv (d_pickF rfl h6 rfl)) ?_
        refine wS (v := (eB (decide (64 < vn)))) (sv (d_move rfl)) ?_
        refine wS (svX rfl rfl h7) ?_
        refine wS (svX rfl rfl h7) ?_
        refine wS (v := (eB true)) (sv (d_pickT rfl h7 rfl)) ?_
        refine wS (v := (eB true)) (sv (d_move rfl)) ?_
        refine wS (svX rfl rfl rfl) ?_
        refine wS (svX rfl rfl rfl) ?_
        refine wS (svX rfl rfl rfl) ?_
        refine wS (svX rfl rfl rfl) ?_
        refine wS (v := (eB true)) (sv (d_pickT rfl rfl rfl)) ?_
        refine wS (v := (eB true)) (sv (d_assign rfl)) ?_
        refine OpsW.nil ?_
        refine Ex.then_mk ?_
        exact hG1 _ _ _ _ (Ghost.rn [0] rfl rfl (FLe.same rfl (FLe.same rfl (FLe.same rfl (FLe.same rfl FLe.nil)))) (HLe.live rfl (V.les_refl _ _) rfl HLe.nil) rfl) (J1 true hr)
      · replace hr := iteF hr h7
        rcases Bool.eq_false_or_eq_true (decide (vat < 0)) with h8 | h8
        · replace hr := iteT hr h8
          refine AB.rw ?_
          refine wS (v := (eI .i64 vn)) (sv (d_move rfl)) ?_
          refine wS (v := (eB (decide (vn < 0)))) (sv (d_bin rfl rfl (bin_lss ..))) ?_
          refine wS (v := (eB (decide (vn < 0)))) (sv (d_move rfl)) ?_
          refine wS (v := (eI .i64 vn)) (svG rfl rfl h6 (d_move rfl)) ?_
          refine wS (v := (eB (decide (64 < vn)))) (svG rfl rfl h6 (d_bin rfl rfl (bin_gtr ..))) ?_
          refine wS (v := (eB (decide (64 < vn)))) (sv (d_pickF rfl h6 rfl)) ?_
          refine wS (v := (eB (decide (64 < vn)))) (sv (d_move rfl)) ?_
          refine wS (v := (eI .i64 vat)) (svG rfl rfl h7 (d_move rfl)) ?_
          refine wS (v := (eB (decide (vat < 0)))) (svG rfl rfl h7 (d_bin rfl rfl (bin_lss ..))) ?_
          refine wS (v := (eB (decide (vat < 0)))) (sv (d_pickF rfl h7 rfl)) ?_
          refine wS (v := (eB (decide (vat < 0)))) (sv (d_move rfl)) ?_
          refine wS (svX rfl rfl h8) ?_
          refine wS (svX rfl rfl h8) ?_
          refine wS (svX rfl rfl h8) ?_
          refine wS (svX rfl rfl h8) ?_
          refine wS (v := (eB true)) (sv (d_pickT rfl h8 rfl)) ?_
          refine wS (v := (eB true)) (sv (d_assign rfl)) ?_
          refine OpsW.nil ?_
          refine Ex.then_mk ?_
          exact hG1 _ _ _ _ (Ghost.rn [0] rfl rfl (FLe.same rfl (FLe.same rfl (FLe.same rfl (FLe.same rfl FLe.nil)))) (HLe.live rfl (V.les_refl _ _) rfl HLe.nil) rfl) (J1 true hr)
        · replace hr := iteF hr h8
          refine AB.rw ?_
          refine wS (v := (eI .i64 vn)) (sv (d_move rfl)) ?_
          refine wS (v := (eB (decide (vn < 0)))) (sv (d_bin rfl rfl (bin_lss ..))) ?_
          refine wS (v := (eB (decide (vn < 0)))) (sv (d_move rfl)) ?_
          refine wS (v := (eI .i64 vn)) (svG rfl rfl h6 (d_move rfl)) ?_
          refine wS (v := (eB (decide (64 < vn)))) (svG rfl rfl h6 (d_bin rfl rfl (bin_gtr ..))) ?_
          refine wS (v := (eB (decide (64 < vn)))) (sv (d_pickF rfl h6 rfl)) ?_
          refine wS (v := (eB (decide (64 < vn)))) (sv (d_move rfl)) ?_
          refine wS (v := (eI .i64 vat)) (svG rfl rfl h7 (d_move rfl)) ?_
          refine wS (v := (eB (decide (vat < 0)))) (svG rfl rfl h7 (d_bin rfl rfl (bin_lss ..))) ?_
          refine wS (v := (eB (decide (vat < 0)))) (sv (d_pickF rfl h7 rfl)) ?_
          refine wS (v := (eB (decide (vat < 0)))) (sv (d_move rfl)) ?_
          refine wS (v := (eI .i64 vat)) (svG rfl rfl h8 (d_move rfl)) ?_
          refine wS (v := (.ptr 0 1)) (svG rfl rfl h8 (d_fa rfl (fap24_1 ..))) ?_
          refine wS (v := (eI .i64 b_N)) (svG rfl rfl h8 (d_load rfl (ldP rfl (part1 ti3 rfl rfl)))) ?_
          refine wS (v := (eB (decide (b_N < vat)))) (svG rfl rfl h8 (d_bin rfl rfl (bin_gtr ..))) ?_
          refine wS (v := (eB (decide (b_N < vat)))) (sv (d_pickF rfl h8 rfl)) ?_
          refine wS (v := (eB (decide (b_N < vat)))) (sv (d_assign rfl)) ?_
          refine OpsW.nil ?_
          refine Ex.then_mk ?_
          exact hG1 _ _ _ _ (Ghost.rn [0] rfl rfl (FLe.same rfl (FLe.same rfl (FLe.same rfl (FLe.same rfl FLe.nil)))) (HLe.live rfl (V.les_refl _ _) rfl HLe.nil) rfl) (J1 (decide (b_N < vat)) hr)
set_option maxRecDepth 20000 in
set_option maxHeartbeats 1000000 in
theorem law18_BitsReads_ok (N : Nat) (b_Data : List Int) (b_N : Int) (vat : Int) (vn : Int) (r : Bool) (hr : law18_BitsReads N b_Data b_N vat vn = some r) :
    Vm.Fn Try.prog 5 [] [(.agg [(.row none 1 (b_Data.map (eI .u8))), (eI .i64 b_N)]), (eI .i64 vat), (eI .i64 vn)] (eB r) [] := by
  refine fn_ab Try.func5 rfl (by kernel_rfl) Try.ntmps5 (Nat.le_of_ble_eq_true rfl) rfl (fr := [(0, (.agg [(.row none 1 (b_Data.map (eI .u8))), (eI .i64 b_N)])), (1, (eI .i64 vat)), (2, (eI .i64 vn))]) rfl ?_
  unfold law18_BitsReads at hr
  refine AB.seq ?_
  refine AB.rw ?_
  refine wS (v := (.ptr 0 0)) (h' := [some ⟨24, [(.row none 1 (b_Data.map (eI .u8))), (eI .i64 b_N)]⟩]) (sv (d_box rfl rfl rfl rfl)) ?_
  refine wS (v := (eB false)) (sv (d_assign rfl)) ?_
  refine OpsW.nil ?_
  refine Ex.then_mk ?_
  refine AB.seq ?_
  refine AB.seq ?_
  replace hr := bnd hr; obtain ⟨x13, h_1, hr⟩ := hr
  refine AB.rw ?_
  refine wC (v := (eB x13)) (h' := [some ⟨24, [(.row none 1 (b_Data.map (eI .u8))), (eI .i64 b_N)]⟩]) rfl (Vm.Fn.pure (law18_sane_ok N x13 h_1) rfl rfl) ?_
  refine wS (v := (eB (!x13))) (sv (d_un rfl (un_not _ _))) ?_
  refine OpsW.nil ?_
  refine Ex.then_mk ?_
  refine AB.cnd rfl (fun h2 => ?_) (fun h2 => ?_)
  · replace hr := iteT hr h2
    refine AB.seq ?_
    refine AB.rw ?_
    refine wS (v := (eB false)) (sv (d_assign rfl)) ?_
    refine OpsW.nil ?_
    refine Ex.then_mk ?_
    refine AB.ret ?_
    refine Ex.then_ret_mk ?_
    obtain rfl := Option.some.inj hr
    exact done_ret (r1 := (eB false)) (res1 Try.results5 (rvT rfl)) (Ghost.rn [] rfl rfl (FLe.same rfl FLe.nil) HLe.nil rfl)
  · replace hr := iteF hr h2
    refine AB.skip ?_
    refine Ex.then_mk ?_
    refine AB.seq ?_
    refine AB.seq ?_
    replace hr := bnd hr; obtain ⟨x16, h_3, hr⟩ := hr
    refine AB.rw ?_
    refine wS (v := (.agg [(.row none 1 (b_Data.map (eI .u8))), (eI .i64 b_N)])) (sv (d_load rfl (ldP rfl (partN (ds := [(.row none 1 (b_Data.map (eI .u8))), (eI .i64 b_N)]) ti24 rfl (Nat.le_of_ble_eq_true rfl) rfl)))) ?_
    refine wC (v := (eB x16)) (h' := [some ⟨24, [(.row none 1 (b_Data.map (eI .u8))), (eI .i64 b_N)]⟩]) rfl (Vm.Fn.pure (law18_kept_ok N b_Data b_N x16 h_3) rfl rfl) ?_
    refine wS (v := (eB (!x16))) (sv (d_un rfl (un_not _ _))) ?_
    refine OpsW.nil ?_
    refine Ex.then_mk ?_
    refine AB.cnd rfl (fun h4 => ?_) (fun h4 => ?_)
    · replace hr := iteT hr h4
      refine AB.seq ?_
      refine AB.rw ?_
      refine wS (v := (eB true)) (sv (d_assign rfl)) ?_
      refine OpsW.nil ?_
      refine Ex.then_mk ?_
      refine AB.ret ?_
      refine Ex.then_ret_mk ?_
      obtain rfl := Option.some.inj hr
      exact done_ret (r1 := (eB true)) (res1 Try.results5 (rvT rfl)) (Ghost.rn [] rfl rfl (FLe.same rfl FLe.nil) HLe.nil rfl)
    · replace hr := iteF hr h4
      refine AB.skip ?_
      refine Ex.then_mk ?_
      refine AB.seq ?_
      replace hr := bnd hr; obtain ⟨x22, h_5, hr⟩ := hr
      refine AB.rw ?_
      refine wS (v := (.agg [(.row none 1 (b_Data.map (eI .u8))), (eI .i64 b_N)])) (sv (d_load rfl (ldP rfl (partN (ds := [(.row none 1 (b_Data.map (eI .u8))), (eI .i64 b_N)]) ti24 rfl (Nat.le_of_ble_eq_true rfl) rfl)))) ?_
      refine wS (v := (eI .i64 vat)) (sv (d_move rfl)) ?_
      refine wS (v := (eI .i64 vn)) (sv (d_move rfl)) ?_
      refine wC (v := (.tup [(eI .u64 x22.1), (eI .i64 x22.2.1), (eI .i64 x22.2.2)])) (h' := [some ⟨24, [(.row none 1 (b_Data.map (eI .u8))), (eI .i64 b_N)]⟩]) rfl (Vm.Fn.pure (bits_Read_ok N b_Data b_N vat vn x22 h_5) rfl rfl) ?_
      refine wS (v := (.tup [(eI .u64 x22.1), (eI .i64 x22.2.1), (eI .i64 x22.2.2)])) (sv (d_move rfl)) ?_
      refine wS (v := (eI .u64 x22.1)) (sv (d_ext rfl rfl)) ?_
      refine wS (v := (eI .i64 x22.2.1)) (sv (d_ext rfl rfl)) ?_
      refine wS (v := (eI .i64 x22.2.2)) (sv (d_ext rfl rfl)) ?_
      refine wS (v := (eI .u64 x22.1)) (sv (d_assign rfl)) ?_
      refine wS (v := (eI .i64 x22.2.1)) (sv (d_assign rfl)) ?_
      refine wS (v := (eI .i64 x22.2.2)) (sv (d_assign rfl)) ?_
      refine OpsW.nil ?_
      refine Ex.then_mk ?_
      refine AB.seq ?_
      replace hr := bnd hr; obtain ⟨x30, h_6, hr⟩ := hr
      refine AB.rw ?_
      refine wS (v := (.agg [(.row none 1 (b_Data.map (eI .u8))), (eI .i64 b_N)])) (sv (d_load rfl (ldP rfl (partN (ds := [(.row none 1 (b_Data.map (eI .u8))), (eI .i64 b_N)]) ti24 rfl (Nat.le_of_ble_eq_true rfl) rfl)))) ?_
      refine wS (v := (eI .i64 vat)) (sv (d_move rfl)) ?_
      refine wS (v := (eI .i64 vn)) (sv (d_move rfl)) ?_
      refine wC (v := (.tup [(eI .u64 x30.1), (eI .i64 x30.2.1), (eI .i64 x30.2.2)])) (h' := [some ⟨24, [(.row none 1 (b_Data.map (eI .u8))), (eI .i64 b_N)]⟩]) rfl (Vm.Fn.pure (ref18_Read_ok N b_Data b_N vat vn x30 h_6) rfl rfl) ?_
      refine wS (v := (.tup [(eI .u64 x30.1), (eI .i64 x30.2.1), (eI .i64 x30.2.2)])) (sv (d_move rfl)) ?_
      refine wS (v := (eI .u64 x30.1)) (sv (d_ext rfl rfl)) ?_
      refine wS (v := (eI .i64 x30.2.1)) (sv (d_ext rfl rfl)) ?_
      refine wS (v := (eI .i64 x30.2.2)) (sv (d_ext rfl rfl)) ?_
      refine wS (v := (eI .u64 x30.1)) (sv (d_assign rfl)) ?_
      refine wS (v := (eI .i64 x30.2.1)) (sv (d_assign rfl)) ?_
      refine wS (v := (eI .i64 x30.2.2)) (sv (d_assign rfl)) ?_
      refine OpsW.nil ?_
      refine Ex.then_mk ?_
      refine AB.seq_g fun K1 hK1 hG1 => ?_
      have J1 : ∀ (x6 : Bool), law18_BitsReads_J1 N x6 = some r → K1 (mkF 47 [(6, (eB x6))]) [] := by
        intro x6 hr
        unfold law18_BitsReads_J1 at hr
        refine hK1 _ _ ?_
        refine AB.ret ?_
        obtain rfl := Option.some.inj hr
        exact done_ret (r1 := (eB x6)) (res1 Try.results5 (rvT rfl)) (Ghost.rn [] rfl rfl (FLe.same rfl FLe.nil) HLe.nil rfl)
      rcases Bool.eq_false_or_eq_true (x22.1 == x30.1) with h7 | h7
      · replace hr := iteT hr h7
        rcases Bool.eq_false_or_eq_true (x22.2.1 == x30.2.1) with h8 | h8
        · replace hr := iteT hr h8
          refine AB.rw ?_
          refine wS (v := (eI .u64 x22.1)) (sv (d_move rfl)) ?_
          refine wS (v := (eI .u64 x30.1)) (sv (d_move rfl)) ?_
          refine wS (v := (eB (x22.1 == x30.1))) (sv (d_bin rfl rfl (bin_eql ..))) ?_
          refine wS (v := (eB (x22.1 == x30.1))) (sv (d_move rfl)) ?_
          refine wS (v := (eI .i64 x22.2.1)) (svG rfl rfl h7 (d_move rfl)) ?_
          refine wS (v := (eI .i64 x30.2.1)) (svG rfl rfl h7 (d_move rfl)) ?_
          refine wS (v := (eB (x22.2.1 == x30.2.1))) (svG rfl rfl h7 (d_bin rfl rfl (bin_eql ..))) ?_
          refine wS (v := (eB (x22.2.1 == x30.2.1))) (sv (d_pickT rfl h7 rfl)) ?_
          refine wS (v := (eB (x22.2.1 == x30.2.1))) (sv (d_move rfl)) ?_
          refine wS (v := (eI .i64 x22.2.2)) (svG rfl rfl h8 (d_move rfl)) ?_
          refine wS (v := (eI .i64 x30.2.2)) (svG rfl rfl h8 (d_move rfl)) ?_
          refine wS (v := (eB (x22.2.2 == x30.2.2))) (svG rfl rfl h8 (d_bin rfl rfl (bin_eql ..))) ?_
          refine wS (v := (eB (x22.2.2 == x30.2.2))) (sv (d_pickT rfl h8 rfl)) ?_
          refine wS (v := (eB (x22.2.2 == x30.2.2))) (sv (d_assign rfl)) ?_
          refine OpsW.nil ?_
          refine Ex.then_mk ?_
          exact hG1 _ _ _ _ (Ghost.rn [] rfl rfl (FLe.same rfl FLe.nil) HLe.nil rfl) (J1 (x22.2.2 == x30.2.2) hr)
        · replace hr := iteF hr h8
          refine AB.rw ?_
          refine wS (v := (eI .u64 x22.1)) (sv (d_move rfl)) ?_
          refine wS (v := (eI .u64 x30.1)) (sv (d_move rfl)) ?_
          refine wS (v := (eB (x22.1 == x30.1))) (sv (d_bin rfl rfl (bin_eql ..))) ?_
          refine wS (v := (eB (x22.1 == x30.1))) (sv (d_move rfl)) ?_
          refine wS (v := (eI .i64 x22.2.1)) (svG rfl rfl h7 (d_move rfl)) ?_
          refine wS (v := (eI .i64 x30.2.1)) (svG rfl rfl h7 (d_move rfl)) ?_
          refine wS (v := (eB (x22.2.1 == x30.2.1))) (svG rfl rfl h7 (d_bin rfl rfl (bin_eql ..))) ?_
          refine wS (v := (eB (x22.2.1 == x30.2.1))) (sv (d_pickT rfl h7 rfl)) ?_
          refine wS (v := (eB (x22.2.1 == x30.2.1))) (sv (d_move rfl)) ?_
          refine wS (svX rfl rfl h8) ?_
          refine wS (svX rfl rfl h8) ?_
          refine wS (svX rfl rfl h8) ?_
          refine wS (v := (eB false)) (sv (d_pickF rfl h8 rfl)) ?_
          refine wS (v := (eB false)) (sv (d_assign rfl)) ?_
          refine OpsW.nil ?_
          refine Ex.then_mk ?_
          exact hG1 _ _ _ _ (Ghost.rn [] rfl rfl (FLe.same rfl FLe.nil) HLe.nil rfl) (J1 false hr)
      · replace hr := iteF hr h7
        refine AB.rw ?_
        refine wS (v := (eI .u64 x22.1)) (sv (d_move rfl)) ?_
        refine wS (v := (eI .u64 x30.1)) (sv (d_move rfl)) ?_
        refine wS (v := (eB (x22.1 == x30.1))) (sv (d_bin rfl rfl (bin_eql ..))) ?_
        refine wS (v := (eB (x22.1 == x30.1))) (sv (d_move rfl)) ?_
        refine wS (svX rfl rfl h7) ?_
        refine wS (svX rfl rfl h7) ?_
        refine wS (svX rfl rfl h7) ?_
        refine wS (v := (eB false)) (sv (d_pickF rfl h7 rfl)) ?_
        refine wS (v := (eB false)) (sv (d_move rfl)) ?_
        refine wS (svX rfl rfl rfl) ?_
        refine wS (svX rfl rfl rfl) ?_
        refine wS (svX rfl rfl rfl) ?_
        refine wS (v := (eB false)) (sv (d_pickF rfl rfl rfl)) ?_
        refine wS (v := (eB false)) (sv (d_assign rfl)) ?_
        refine OpsW.nil ?_
        refine Ex.then_mk ?_
        exact hG1 _ _ _ _ (Ghost.rn [] rfl rfl (FLe.same rfl FLe.nil) HLe.nil rfl) (J1 false hr)
set_option maxRecDepth 20000 in
set_option maxHeartbeats 1000000 in
theorem law18_BitsBack_ok (N : Nat) (b_Data : List Int) (b_N : Int) (v : Int) (vn : Int) (r : Bool) (hr : law18_BitsBack N b_Data b_N v vn = some r) :
    Vm.Fn Try.prog 6 [] [(.agg [(.row none 1 (b_Data.map (eI .u8))), (eI .i64 b_N)]), (eI .u64 v), (eI .u8 vn)] (eB r) [] := by
  refine fn_ab Try.func6 rfl (by kernel_rfl) Try.ntmps6 (Nat.le_of_ble_eq_true rfl) rfl (fr := [(0, (.agg [(.row none 1 (b_Data.map (eI .u8))), (eI .i64 b_N)])), (1, (eI .u64 v)), (2, (eI .u8 vn))]) rfl ?_
  unfold law18_BitsBack at hr
  refine AB.seq ?_
  refine AB.rw ?_
  refine wS (v := (.ptr 0 0)) (h' := [some ⟨24, [(.row none 1 (b_Data.map (eI .u8))), (eI .i64 b_N)]⟩]) (sv (d_box rfl rfl rfl rfl)) ?_
  refine wS (v := (eB false)) (sv (d_assign rfl)) ?_
  refine OpsW.nil ?_
  refine Ex.then_mk ?_
  refine AB.seq ?_
  refine AB.seq ?_
  replace hr := bnd hr; obtain ⟨x21, h_1, hr⟩ := hr
  refine AB.rw ?_
  refine wC (v := (eB x21)) (h' := [some ⟨24, [(.row none 1 (b_Data.map (eI .u8))), (eI .i64 b_N)]⟩]) rfl (Vm.Fn.pure (law18_sane_ok N x21 h_1) rfl rfl) ?_
  refine wS (v := (eB (!x21))) (sv (d_un rfl (un_not _ _))) ?_
  refine OpsW.nil ?_
  refine Ex.then_mk ?_
  refine AB.cnd rfl (fun h2 => ?_) (fun h2 => ?_)
  · replace hr := iteT hr h2
    refine AB.seq ?_
    refine AB.rw ?_
    refine wS (v := (eB false)) (sv (d_assign rfl)) ?_
    refine OpsW.nil ?_
    refine Ex.then_mk ?_
    refine AB.ret ?_
    refine Ex.then_ret_mk ?_
    obtain rfl := Option.some.inj hr
    exact done_ret (r1 := (eB false)) (res1 Try.results6 (rvT rfl)) (Ghost.rn [] rfl rfl (FLe.same rfl FLe.nil) HLe.nil rfl)
  · replace hr := iteF hr h2
    refine AB.skip ?_
    refine Ex.then_mk ?_
    refine AB.seq ?_
    refine AB.rw ?_
    refine wS (v := (eI .u8 vn)) (sv (d_move rfl)) ?_
    refine wS (v := (eI .u8 (Int.tmod vn 65))) (sv (d_bin rfl rfl (bin_rem' _ _ _ _ rfl))) ?_
    refine wS (v := (eI .i64 (IntKind.i64.wrap (Int.tmod vn 65)))) (sv (d_conv rfl (conv_int _ ⟨_, ti5⟩ ti3 rfl))) ?_
    refine wS (v := (eI .i64 (IntKind.i64.wrap (Int.tmod vn 65)))) (sv (d_assign rfl)) ?_
    refine OpsW.nil ?_
    refine Ex.then_mk ?_
    refine AB.seq ?_
    refine AB.seq_g fun K1 hK1 hG1 => ?_
    have J1 : ∀ (x33 : Bool), law18_BitsBack_J1 N b_Data b_N v vn x33 = some r → K1 (mkF 126 [(1, (eI .u64 v)), (3, (.ptr 0 0)), (7, (eI .i64 (IntKind.i64.wrap (Int.tmod vn 65)))), (33, (eB x33))]) [some ⟨24, [(.row none 1 (b_Data.map (eI .u8))), (eI .i64 b_N)]⟩] := by
      intro x33 hr
      unfold law18_BitsBack_J1 at hr
      refine hK1 _ _ ?_
      refine AB.cnd rfl (fun h3 => ?_) (fun h3 => ?_)
      · replace hr := iteT hr h3
        refine AB.seq ?_
        refine AB.rw ?_
        refine wS (v := (eB true)) (sv (d_assign rfl)) ?_
        refine OpsW.nil ?_
        refine Ex.then_mk ?_
        refine AB.ret ?_
        refine Ex.then_ret_mk ?_
        obtain rfl := Option.some.inj hr
        exact done_ret (r1 := (eB true)) (res1 Try.results6 (rvT rfl)) (Ghost.rn [] rfl rfl (FLe.same rfl FLe.nil) HLe.nil rfl)
      · replace hr := iteF hr h3
        refine AB.skip ?_
        refine Ex.then_mk ?_
        refine AB.seq ?_
        replace hr := bnd hr; obtain ⟨x38, h_4, hr⟩ := hr
        refine AB.rw ?_
        refine wS (v := (.agg [(.row none 1 (b_Data.map (eI .u8))), (eI .i64 b_N)])) (sv (d_load rfl (ldP rfl (partN (ds := [(.row none 1 (b_Data.map (eI .u8))), (eI .i64 b_N)]) ti24 rfl (Nat.le_of_ble_eq_true rfl) rfl)))) ?_
        refine wS (v := (eI .u64 v)) (sv (d_move rfl)) ?_
        refine wS (v := (eI .i64 (IntKind.i64.wrap (Int.tmod vn 65)))) (sv (d_move rfl)) ?_
        refine wC (v := (.tup [(.agg [(.sl 1 0 x38.1.length 1 false), (eI .i64 x38.2.1)]), (eI .i64 x38.2.2)])) (h' := [some ⟨24, [(.row none 1 (b_Data.map (eI .u8))), (eI .i64 b_N)]⟩, some ⟨5, x38.1.map (eI .u8)⟩]) rfl (Vm.Fn.lendB (bits_Append_ok N b_Data b_N v (IntKind.i64.wrap (Int.tmod vn 65)) x38 h_4) [] (by decide) rfl Lend.nil rfl rfl (by simp only [lent, lendSet, lendSet_nil, rnH, Blk.rn, V.rns, V.rn, sg, List.map_cons, List.map_nil, Option.map_some, Option.map_none, List.drop_succ_cons, List.drop_zero, List.drop_nil, List.set_cons_zero, List.set_cons_succ, List.cons_append, List.nil_append, List.append_nil, rns_eI, rns_eB, rns_eS, rns_eL, List.getElem?_cons_zero, List.getElem?_cons_succ, List.getElem?_nil, List.length_cons, List.length_nil, Nat.reduceAdd, Nat.reduceSub, Nat.add_zero, Nat.zero_add, Nat.sub_self, Nat.sub_zero])) ?_
        refine wS (v := (.tup [(.agg [(.sl 1 0 x38.1.length 1 false), (eI .i64 x38.2.1)]), (eI .i64 x38.2.2)])) (sv (d_move rfl)) ?_
        refine wS (v := (.agg [(.sl 1 0 x38.1.length 1 false), (eI .i64 x38.2.1)])) (sv (d_ext rfl rfl)) ?_
        refine wS (v := (eI .i64 x38.2.2)) (sv (d_ext rfl rfl)) ?_
        refine wS (v := (.ptr 2 0)) (h' := [some ⟨24, [(.row none 1 (b_Data.map (eI .u8))), (eI .i64 b_N)]⟩, some ⟨5, x38.1.map (eI .u8)⟩, some ⟨24, [(.row (some true) 1 []), (eI .i64 0)]⟩]) (sv (d_alloc ti24 rfl rfl rfl)) ?_
        refine wN (h' := [some ⟨24, [(.row none 1 (b_Data.map (eI .u8))), (eI .i64 b_N)]⟩, some ⟨5, x38.1.map (eI .u8)⟩, some ⟨24, [(.sl 1 0 x38.1.length 1 false), (eI .i64 x38.2.1)]⟩]) (sv (d_store rfl rfl (stP ti24 rfl rfl rfl (Nat.le_of_ble_eq_true rfl) rfl))) ?_
        refine wS (v := (eI .i64 x38.2.2)) (sv (d_assign rfl)) ?_
        refine OpsW.nil ?_
        refine Ex.then_mk ?_
        refine AB.seq ?_
        replace hr := bnd hr; obtain ⟨x46, h_5, hr⟩ := hr
        refine AB.rw ?_
        refine wS (v := (.agg [(.sl 1 0 x38.1.length 1 false), (eI .i64 x38.2.1)])) (sv (d_load rfl (ldP rfl (partN (ds := [(.sl 1 0 x38.1.length 1 false), (eI .i64 x38.2.1)]) ti24 rfl (Nat.le_of_ble_eq_true rfl) rfl)))) ?_
        refine wS (v := (.ptr 0 1)) (sv (d_fa rfl (fap24_1 ..))) ?_
        refine wS (v := (eI .i64 b_N)) (sv (d_load rfl (ldP rfl (part1 ti3 rfl rfl)))) ?_
        refine wS (v := (eI .i64 (IntKind.i64.wrap (Int.tmod vn 65)))) (sv (d_move rfl)) ?_
        refine wC (v := (.tup [(eI .u64 x46.1), (eI .i64 x46.2.1), (eI .i64 x46.2.2)])) (h' := [some ⟨24, [(.row none 1 (b_Data.map (eI .u8))), (eI .i64 b_N)]⟩, some ⟨5, x38.1.map (eI .u8)⟩, some ⟨24, [(.sl 1 0 x38.1.length 1 false), (eI .i64 x38.2.1)]⟩]) rfl (Vm.Fn.lendR (bits_Read_ok N x38.1 x38.2.1 b_N (IntKind.i64.wrap (Int.tmod vn 65)) x46 h_5) [] [1] (by decide) rfl (by decide) Lend.nil (Brw.row (exp_agg (exp_cons (exp_sl (d := 3) rfl rfl (fun _ => rfl)) (exp_cons rfl exp_nil))) (Brw.same rfl (Brw.same rfl Brw.nil))) rfl rfB.nil rfl (by simp only [lent, lendSet, lendSet_nil, rnH, Blk.rn, V.rns, V.rn, sg, List.map_cons, List.map_nil, Option.map_some, Option.map_none, List.drop_succ_cons, List.drop_zero, List.drop_nil, List.set_cons_zero, List.set_cons_succ, List.cons_append, List.nil_append, List.append_nil, rns_eI, rns_eB, rns_eS, rns_eL, List.getElem?_cons_zero, List.getElem?_cons_succ, List.getElem?_nil, List.length_cons, List.length_nil, Nat.reduceAdd, Nat.reduceSub, Nat.add_zero, Nat.zero_add, Nat.sub_self, Nat.sub_zero])) ?_
        refine wS (v := (.tup [(eI .u64 x46.1), (eI .i64 x46.2.1), (eI .i64 x46.2.2)])) (sv (d_move rfl)) ?_
        refine wS (v := (eI .u64 x46.1)) (sv (d_ext rfl rfl)) ?_
        refine wS (v := (eI .i64 x46.2.1)) (sv (d_ext rfl rfl)) ?_
        refine wS (v := (eI .i64 x46.2.2)) (sv (d_ext rfl rfl)) ?_
        refine wS (v := (eI .u64 x46.1)) (sv (d_assign rfl)) ?_
        refine wS (v := (eI .i64 x46.2.1)) (sv (d_assign rfl)) ?_
        refine wS (v := (eI .i64 x46.2.2)) (sv (d_assign rfl)) ?_
        refine OpsW.nil ?_
        refine Ex.then_mk ?_
        refine AB.seq_g fun K2 hK2 hG2 => ?_
        have J2 : ∀ (v_1 : Int), law18_BitsBack_J2 N b_Data b_N vn x38 x46 v_1 = some r → K2 (mkF 126 [(1, (eI .u64 v_1)), (3, (.ptr 0 0)), (7, (eI .i64 (IntKind.i64.wrap (Int.tmod vn 65)))), (8, (.ptr 1 0)), (9, (eI .i64 x38.2.2)), (10, (eI .u64 x46.1)), (11, (eI .i64 x46.2.1)), (12, (eI .i64 x46.2.2))]) [some ⟨24, [(.row none 1 (b_Data.map (eI .u8))), (eI .i64 b_N)]⟩, some ⟨24, [(.sl 2 0 x38.1.length 1 false), (eI .i64 x38.2.1)]⟩, some ⟨5, x38.1.map (eI .u8)⟩] := by
          intro v_1 hr
          unfold law18_BitsBack_J2 at hr
          refine hK2 _ _ ?_
          refine AB.seq ?_
          refine AB.seq_g fun K3 hK3 hG3 => ?_
          have J3 : ∀ (x87 : Bool), law18_BitsBack_J3 N b_Data b_N x38 x87 = some r → K3 (mkF 126 [(3, (.ptr 0 0)), (8, (.ptr 1 0)), (87, (eB x87))]) [some ⟨24, [(.row none 1 (b_Data.map (eI .u8))), (eI .i64 b_N)]⟩, some ⟨24, [(.sl 2 0 x38.1.length 1 false), (eI .i64 x38.2.1)]⟩, some ⟨5, x38.1.map (eI .u8)⟩] := by
            intro x87 hr
            unfold law18_BitsBack_J3 at hr
            refine hK3 _ _ ?_
            refine AB.cnd rfl (fun h6 => ?_) (fun h6 => ?_)
            · replace hr := iteT hr h6
              refine AB.seq ?_
              refine AB.rw ?_
              refine wS (v := (eB false)) (sv (d_assign rfl)) ?_
              refine OpsW.nil ?_
              refine Ex.then_mk ?_
              refine AB.ret ?_
              refine Ex.then_ret_mk ?_
              obtain rfl := Option.some.inj hr
              exact done_ret (r1 := (eB false)) (res1 Try.results6 (rvT rfl)) (Ghost.rn [] rfl rfl (FLe.same rfl FLe.nil) HLe.nil rfl)
            · replace hr := iteF hr h6
              refine AB.skip ?_
              refine Ex.then_mk ?_
              refine AB.seq_g fun K4 hK4 hG4 => ?_
              have J4 : law18_BitsBack_J4 N = some r → K4 (mkF 126 []) [] := by
                intro hr
                unfold law18_BitsBack_J4 at hr
                refine hK4 _ _ ?_
                refine AB.seq ?_
                refine AB.rw ?_
                refine wS (v := (eB true)) (sv (d_assign rfl)) ?_
                refine OpsW.nil ?_
                refine Ex.then_mk ?_
                refine AB.ret ?_
                obtain rfl := Option.some.inj hr
                exact done_ret (r1 := (eB true)) (res1 Try.results6 (rvT rfl)) (Ghost.rn [] rfl rfl (FLe.same rfl FLe.nil) HLe.nil rfl)
              refine AB.seq ?_
              refine AB.rw ?_
              refine wS (v := (eI .i64 0)) (sv (d_assign rfl)) ?_
              refine OpsW.nil ?_
              refine Ex.then_mk ?_
              replace hr := bnd hr; obtain ⟨res5, hL5, hr⟩ := hr
              refine AB.block ?_
              refine AB.loopN (fun m s h => ∃ (vat : Int), law18_BitsBack_L5 N b_Data b_N x38 m vat = some res5 ∧ Ghost 0 s h (mkF 126 [(3, (.ptr 0 0)), (8, (.ptr 1 0)), (13, (eI .i64 vat))]) [some ⟨24, [(.row none 1 (b_Data.map (eI .u8))), (eI .i64 b_N)]⟩, some ⟨24, [(.sl 2 0 x38.1.length 1 false), (eI .i64 x38.2.1)]⟩, some ⟨5, x38.1.map (eI .u8)⟩]) (n := N) ⟨0, hL5, (Ghost.rn [0, 1, 2] rfl rfl (FLe.same rfl (FLe.same rfl (FLe.same rfl FLe.nil))) (HLe.live rfl (V.les_refl _ _) rfl (HLe.live rfl (V.les_refl _ _) rfl (HLe.live rfl (les_map (fun _ => rfl) _) (all_map (fun _ => rfl) _) HLe.nil))) rfl)⟩ (by rintro s h ⟨_, h0, _⟩; simp [law18_BitsBack_L5] at h0) ?_
              rintro m5 s h ⟨vat, hr5, hg⟩
              refine AB.ghost hg ?_
              clear hg hL5
              rw [law18_BitsBack_L5] at hr5
              refine AB.seq ?_
              refine AB.seq ?_
              refine AB.rw ?_
              refine wS (v := (eI .i64 vat)) (sv (d_move rfl)) ?_
              refine wS (v := (.ptr 0 1)) (sv (d_fa rfl (fap24_1 ..))) ?_
              refine wS (v := (eI .i64 b_N)) (sv (d_load rfl (ldP rfl (part1 ti3 rfl rfl)))) ?_
              refine wS (v := (eB (decide (vat < b_N)))) (sv (d_bin rfl rfl (bin_lss ..))) ?_
              refine OpsW.nil ?_
              refine Ex.then_mk ?_
              refine AB.cnd rfl (fun h7 => ?_) (fun h7 => ?_)
              · replace hr5 := iteT hr5 h7
                refine AB.skip ?_
                refine Ex.then_mk ?_
                refine AB.seq ?_
                refine AB.block ?_
                refine AB.seq ?_
                refine AB.rw ?_
                refine wS (v := (.ptr 0 1)) (sv (d_fa rfl (fap24_1 ..))) ?_
                refine wS (v := (eI .i64 b_N)) (sv (d_load rfl (ldP rfl (part1 ti3 rfl rfl)))) ?_
                refine wS (v := (eI .i64 vat)) (sv (d_move rfl)) ?_
                refine wS (v := (eI .i64 (IntKind.i64.wrap (b_N - vat)))) (sv (d_bin rfl rfl (bin_sub ..))) ?_
                refine wS (v := (eI .i64 (if (IntKind.i64.wrap (b_N - vat)) < 32 then (IntKind.i64.wrap (b_N - vat)) else 32))) (sv (d_min rfl minV2)) ?_
                refine wS (v := (eI .i64 (if (IntKind.i64.wrap (b_N - vat)) < 32 then (IntKind.i64.wrap (b_N - vat)) else 32))) (sv (d_assign rfl)) ?_
                refine OpsW.nil ?_
                refine Ex.then_mk ?_
                refine AB.seq ?_
                replace hr5 := bnd hr5; obtain ⟨x103, h_8, hr5⟩ := hr5
                refine AB.rw ?_
                refine wS (v := (.agg [(.row none 1 (b_Data.map (eI .u8))), (eI .i64 b_N)])) (sv (d_load rfl (ldP rfl (partN (ds := [(.row none 1 (b_Data.map (eI .u8))), (eI .i64 b_N)]) ti24 rfl (Nat.le_of_ble_eq_true rfl) rfl)))) ?_
                refine wS (v := (eI .i64 vat)) (sv (d_move rfl)) ?_
                refine wS (v := (eI .i64 (if (IntKind.i64.wrap (b_N - vat)) < 32 then (IntKind.i64.wrap (b_N - vat)) else 32))) (sv (d_move rfl)) ?_
                refine wC (v := (.tup [(eI .u64 x103.1), (eI .i64 x103.2.1), (eI .i64 x103.2.2)])) (h' := [some ⟨24, [(.row none 1 (b_Data.map (eI .u8))), (eI .i64 b_N)]⟩, some ⟨24, [(.sl 2 0 x38.1.length 1 false), (eI .i64 x38.2.1)]⟩, some ⟨5, x38.1.map (eI .u8)⟩]) rfl (Vm.Fn.pure (bits_Read_ok N b_Data b_N vat (if (IntKind.i64.wrap (b_N - vat)) < 32 then (IntKind.i64.wrap (b_N - vat)) else 32) x103 h_8) rfl rfl) ?_
                refine wS (v := (.tup [(eI .u64 x103.1), (eI .i64 x103.2.1), (eI .i64 x103.2.2)])) (sv (d_move rfl)) ?_
                refine wS (v := (eI .u64 x103.1)) (sv (d_ext rfl rfl)) ?_
                refine wS (v := (eI .i64 x103.2.1)) (sv (d_ext rfl rfl)) ?_
                refine wS (v := (eI .i64 x103.2.2)) (sv (d_ext rfl rfl)) ?_
                refine wS (v := (eI .u64 x103.1)) (sv (d_assign rfl)) ?_
                refine wS (v := (eI .i64 x103.2.1)) (sv (d_assign rfl)) ?_
                refine wS (v := (eI .i64 x103.2.2)) (sv (d_assign rfl)) ?_
                refine OpsW.nil ?_
                refine Ex.then_mk ?_
                refine AB.seq ?_
                replace hr5 := bnd hr5; obtain ⟨x111, h_9, hr5⟩ := hr5
                refine AB.rw ?_
                refine wS (v := (.agg [(.sl 2 0 x38.1.length 1 false), (eI .i64 x38.2.1)])) (sv (d_load rfl (ldP rfl (partN (ds := [(.sl 2 0 x38.1.length 1 false), (eI .i64 x38.2.1)]) ti24 rfl (Nat.le_of_ble_eq_true rfl) rfl)))) ?_
                refine wS (v := (eI .i64 vat)) (sv (d_move rfl)) ?_
                refine wS (v := (eI .i64 (if (IntKind.i64.wrap (b_N - vat)) < 32 then (IntKind.i64.wrap (b_N - vat)) else 32))) (sv (d_move rfl)) ?_
                refine wC (v := (.tup [(eI .u64 x111.1), (eI .i64 x111.2.1), (eI .i64 x111.2.2)])) (h' := [some ⟨24, [(.row none 1 (b_Data.map (eI .u8))), (eI .i64 b_N)]⟩, some ⟨24, [(.sl 2 0 x38.1.length 1 false), (eI .i64 x38.2.1)]⟩, some ⟨5, x38.1.map (eI .u8)⟩]) rfl (Vm.Fn.lendR (bits_Read_ok N x38.1 x38.2.1 vat (if (IntKind.i64.wrap (b_N - vat)) < 32 then (IntKind.i64.wrap (b_N - vat)) else 32) x111 h_9) [] [2] (by decide) rfl (by decide) Lend.nil (Brw.row (exp_agg (exp_cons (exp_sl (d := 3) rfl rfl (fun _ => rfl)) (exp_cons rfl exp_nil))) (Brw.same rfl (Brw.same rfl Brw.nil))) rfl rfB.nil rfl (by simp only [lent, lendSet, lendSet_nil, rnH, Blk.rn, V.rns, V.rn, sg, List.map_cons, List.map_nil, Option.map_some, Option.map_none, List.drop_succ_cons, List.drop_zero, List.drop_nil, List.set_cons_zero, List.set_cons_succ, List.cons_append, List.nil_append, List.append_nil, rns_eI, rns_eB, rns_eS, rns_eL, List.getElem?_cons_zero, List.getElem?_cons_succ, List.getElem?_nil, List.length_cons, List.length_nil, Nat.reduceAdd, Nat.reduceSub, Nat.add_zero, Nat.zero_add, Nat.sub_self, Nat.sub_zero])) ?_
                refine wS (v := (.tup [(eI .u64 x111.1), (eI .i64 x111.2.1), (eI .i64 x111.2.2)])) (sv (d_move rfl)) ?_
                refine wS (v := (eI .u64 x111.1)) (sv (d_ext rfl rfl)) ?_
                refine wS (v := (eI .i64 x111.2.1)) (sv (d_ext rfl rfl)) ?_
                refine wS (v := (eI .i64 x111.2.2)) (sv (d_ext rfl rfl)) ?_
                refine wS (v := (eI .u64 x111.1)) (sv (d_assign rfl)) ?_
                refine wS (v := (eI .i64 x111.2.1)) (sv (d_assign rfl)) ?_
                refine wS (v := (eI .i64 x111.2.2)) (sv (d_assign rfl)) ?_
                refine OpsW.nil ?_
                refine Ex.then_mk ?_
                refine AB.seq_g fun K6 hK6 hG6 => ?_
                have J6 : ∀ (x125 : Bool), law18_BitsBack_J6 N b_Data b_N x38 vat (law18_BitsBack_L5 N b_Data b_N x38 m5) x125 = some res5 → K6 (mkF 126 [(3, (.ptr 0 0)), (8, (.ptr 1 0)), (13, (eI .i64 vat)), (125, (eB x125))]) [some ⟨24, [(.row none 1 (b_Data.map (eI .u8))), (eI .i64 b_N)]⟩, some ⟨24, [(.sl 2 0 x38.1.length 1 false), (eI .i64 x38.2.1)]⟩, some ⟨5, x38.1.map (eI .u8)⟩] := by
                  intro x125 hr5
                  unfold law18_BitsBack_J6 at hr5
                  refine hK6 _ _ ?_
                  refine AB.cnd rfl (fun h10 => ?_) (fun h10 => ?_)
                  · replace hr5 := iteT hr5 h10
                    refine AB.seq ?_
                    refine AB.rw ?_
                    refine wS (v := (eB false)) (sv (d_assign rfl)) ?_
                    refine OpsW.nil ?_
                    refine Ex.then_mk ?_
                    refine AB.ret ?_
                    refine Ex.inBlock_ret_mk ?_
                    refine Ex.then_ret_mk ?_
                    refine Ex.then_ret_mk ?_
                    refine Ex.inBlock_ret_mk ?_
                    refine Ex.then_ret_mk ?_
                    obtain rfl := Option.some.inj hr5
                    obtain rfl := Option.some.inj hr
                    exact done_ret (r1 := (eB false)) (res1 Try.results6 (rvT rfl)) (Ghost.rn [] rfl rfl (FLe.same rfl FLe.nil) HLe.nil rfl)
                  · replace hr5 := iteF hr5 h10
                    refine AB.skip ?_
                    refine Ex.inBlock_mk ?_
                    refine Ex.then_mk ?_
                    refine AB.rw ?_
                    refine wS (v := (eI .i64 vat)) (sv (d_move rfl)) ?_
                    refine wS (v := (eI .i64 (IntKind.i64.wrap (vat + 32)))) (sv (d_bin rfl rfl (bin_add ..))) ?_
                    refine wS (v := (eI .i64 (IntKind.i64.wrap (vat + 32)))) (sv (d_assign rfl)) ?_
                    refine OpsW.nil ?_
                    refine Ex.then_mk ?_
                    exact ⟨IntKind.i64.wrap (vat + 32), hr5, (Ghost.rn [0, 1, 2] rfl rfl (FLe.same rfl (FLe.same rfl (FLe.same rfl FLe.nil))) (HLe.live rfl (V.les_refl _ _) rfl (HLe.live rfl (V.les_refl _ _) rfl (HLe.live rfl (les_map (fun _ => rfl) _) (all_map (fun _ => rfl) _) HLe.nil))) rfl)⟩
                rcases Bool.eq_false_or_eq_true (x103.2.2 != 0) with h11 | h11
                · replace hr5 := iteT hr5 h11
                  refine AB.rw ?_
                  refine wS (v := (eI .i64 x103.2.2)) (sv (d_move rfl)) ?_
                  refine wS (v := (eB (x103.2.2 != 0))) (sv (d_bin rfl rfl (bin_neq ..))) ?_
                  refine wS (v := (eB (x103.2.2 != 0))) (sv (d_move rfl)) ?_
                  refine wS (svX rfl rfl h11) ?_
                  refine wS (svX rfl rfl h11) ?_
                  refine wS (v := (eB true)) (sv (d_pickT rfl h11 rfl)) ?_
                  refine wS (v := (eB true)) (sv (d_move rfl)) ?_
                  refine wS (svX rfl rfl rfl) ?_
                  refine wS (svX rfl rfl rfl) ?_
                  refine wS (svX rfl rfl rfl) ?_
                  refine wS (v := (eB true)) (sv (d_pickT rfl rfl rfl)) ?_
                  refine OpsW.nil ?_
                  refine Ex.then_mk ?_
                  exact hG6 _ _ _ _ (Ghost.rn [0, 1, 2] rfl rfl (FLe.same rfl (FLe.same rfl (FLe.same rfl (FLe.same rfl FLe.nil)))) (HLe.live rfl (V.les_refl _ _) rfl (HLe.live rfl (V.les_refl _ _) rfl (HLe.live rfl (les_map (fun _ => rfl) _) (all_map (fun _ => rfl) _) HLe.nil))) rfl) (J6 true hr5)
                · replace hr5 := iteF hr5 h11
                  rcases Bool.eq_false_or_eq_true (x111.2.2 != 0) with h12 | h12
                  · replace hr5 := iteT hr5 h12
                    refine AB.rw ?_
                    refine wS (v := (eI .i64 x103.2.2)) (sv (d_move rfl)) ?_
                    refine wS (v := (eB (x103.2.2 != 0))) (sv (d_bin rfl rfl (bin_neq ..))) ?_
                    refine wS (v := (eB (x103.2.2 != 0))) (sv (d_move rfl)) ?_
                    refine wS (v := (eI .i64 x111.2.2)) (svG rfl rfl h11 (d_move rfl)) ?_
                    refine wS (v := (eB (x111.2.2 != 0))) (svG rfl rfl h11 (d_bin rfl rfl (bin_neq ..))) ?_
                    refine wS (v := (eB (x111.2.2 != 0))) (sv (d_pickF rfl h11 rfl)) ?_
                    refine wS (v := (eB (x111.2.2 != 0))) (sv (d_move rfl)) ?_
                    refine wS (svX rfl rfl h12) ?_
                    refine wS (svX rfl rfl h12) ?_
                    refine wS (svX rfl rfl h12) ?_
                    refine wS (v := (eB true)) (sv (d_pickT rfl h12 rfl)) ?_
                    refine OpsW.nil ?_
                    refine Ex.then_mk ?_
                    exact hG6 _ _ _ _ (Ghost.rn [0, 1, 2] rfl rfl (FLe.same rfl (FLe.same rfl (FLe.same rfl (FLe.same rfl FLe.nil)))) (HLe.live rfl (V.les_refl _ _) rfl (HLe.live rfl (V.les_refl _ _) rfl (HLe.live rfl (les_map (fun _ => rfl) _) (all_map (fun _ => rfl) _) HLe.nil))) rfl) (J6 true hr5)
                  · replace hr5 := iteF hr5 h12
                    refine AB.rw ?_
                    refine wS (v := (eI .i64 x103.2.2)) (sv (d_move rfl)) ?_
                    refine wS (v := (eB (x103.2.2 != 0))) (sv (d_bin rfl rfl (bin_neq ..))) ?_
                    refine wS (v := (eB (x103.2.2 != 0))) (sv (d_move rfl)) ?_
                    refine wS (v := (eI .i64 x111.2.2)) (svG rfl rfl h11 (d_move rfl)) ?_
                    refine wS (v := (eB (x111.2.2 != 0))) (svG rfl rfl h11 (d_bin rfl rfl (bin_neq ..))) ?_
                    refine wS (v := (eB (x111.2.2 != 0))) (sv (d_pickF rfl h11 rfl)) ?_
                    refine wS (v := (eB (x111.2.2 != 0))) (sv (d_move rfl)) ?_
                    refine wS (v := (eI .u64 x103.1)) (svG rfl rfl h12 (d_move rfl)) ?_
                    refine wS (v := (eI .u64 x111.1)) (svG rfl rfl h12 (d_move rfl)) ?_
                    refine wS (v := (eB (x103.1 != x111.1))) (svG rfl rfl h12 (d_bin rfl rfl (bin_neq ..))) ?_
                    refine wS (v := (eB (x103.1 != x111.1))) (sv (d_pickF rfl h12 rfl)) ?_
                    refine OpsW.nil ?_
                    refine Ex.then_mk ?_
                    exact hG6 _ _ _ _ (Ghost.rn [0, 1, 2] rfl rfl (FLe.same rfl (FLe.same rfl (FLe.same rfl (FLe.same rfl FLe.nil)))) (HLe.live rfl (V.les_refl _ _) rfl (HLe.live rfl (V.les_refl _ _) rfl (HLe.live rfl (les_map (fun _ => rfl) _) (all_map (fun _ => rfl) _) HLe.nil))) rfl) (J6 (x103.1 != x111.1) hr5)
              · replace hr5 := iteF hr5 h7
                refine AB.exit ?_
                refine Ex.then_exit_mk ?_
                refine Ex.then_exit_mk ?_
                refine Ex.inBlock_same_mk ?_
                obtain rfl := Option.some.inj hr5
                refine Ex.then_mk ?_
                exact hG4 _ _ _ _ (Ghost.rn [] rfl rfl FLe.nil HLe.nil rfl) (J4 hr)
          rcases Bool.eq_false_or_eq_true (x38.2.2 != 0) with h13 | h13
          · replace hr := iteT hr h13
            refine AB.rw ?_
            refine wS (v := (eI .i64 x38.2.2)) (sv (d_move rfl)) ?_
            refine wS (v := (eB (x38.2.2 != 0))) (sv (d_bin rfl rfl (bin_neq ..))) ?_
            refine wS (v := (eB (x38.2.2 != 0))) (sv (d_move rfl)) ?_
            refine wS (svX rfl rfl h13) ?_
            refine wS (svX rfl rfl h13) ?_
            refine wS (v := (eB true)) (sv (d_pickT rfl h13 rfl)) ?_
            refine wS (v := (eB true)) (sv (d_move rfl)) ?_
            refine wS (svX rfl rfl rfl) ?_
            refine wS (svX rfl rfl rfl) ?_
            refine wS (svX rfl rfl rfl) ?_
            refine wS (v := (eB true)) (sv (d_pickT rfl rfl rfl)) ?_
            refine wS (v := (eB true)) (sv (d_move rfl)) ?_
            refine wS (svX rfl rfl rfl) ?_
            refine wS (svX rfl rfl rfl) ?_
            refine wS (svX rfl rfl rfl) ?_
            refine wS (svX rfl rfl rfl) ?_
            refine wS (v := (eB true)) (sv (d_pickT rfl rfl rfl)) ?_
            refine wS (v := (eB true)) (sv (d_move rfl)) ?_
            refine wS (svX rfl rfl rfl) ?_
            refine wS (svX rfl rfl rfl) ?_
            refine wS (svX rfl rfl rfl) ?_
            refine wS (svX rfl rfl rfl) ?_
            refine wS (svX rfl rfl rfl) ?_
            refine wS (svX rfl rfl rfl) ?_
            refine wS (svX rfl rfl rfl) ?_
            refine wS (v := (eB true)) (sv (d_pickT rfl rfl rfl)) ?_
            refine wS (v := (eB true)) (sv (d_move rfl)) ?_
            refine wS (svX rfl rfl rfl) ?_
            refine wS (svX rfl rfl rfl) ?_
            refine wS (svX rfl rfl rfl) ?_
            refine wS (v := (eB true)) (sv (d_pickT rfl rfl rfl)) ?_
            refine OpsW.nil ?_
            refine Ex.then_mk ?_
            exact hG3 _ _ _ _ (Ghost.rn [0, 1, 2] rfl rfl (FLe.same rfl (FLe.same rfl (FLe.same rfl FLe.nil))) (HLe.live rfl (V.les_refl _ _) rfl (HLe.live rfl (V.les_refl _ _) rfl (HLe.live rfl (les_map (fun _ => rfl) _) (all_map (fun _ => rfl) _) HLe.nil))) rfl) (J3 true hr)
          · replace hr := iteF hr h13
            rcases Bool.eq_false_or_eq_true (x46.2.2 != 0) with h14 | h14
            · replace hr := iteT hr h14
              refine AB.rw ?_
              refine wS (v := (eI .i64 x38.2.2)) (sv (d_move rfl)) ?_
              refine wS (v := (eB (x38.2.2 != 0))) (sv (d_bin rfl rfl (bin_neq ..))) ?_
              refine wS (v := (eB (x38.2.2 != 0))) (sv (d_move rfl)) ?_
              refine wS (v := (eI .i64 x46.2.2)) (svG rfl rfl h13 (d_move rfl)) ?_
              refine wS (v := (eB (x46.2.2 != 0))) (svG rfl rfl h13 (d_bin rfl rfl (bin_neq ..))) ?_
              refine wS (v := (eB (x46.2.2 != 0))) (sv (d_pickF rfl h13 rfl)) ?_
              refine wS (v := (eB (x46.2.2 != 0))) (sv (d_move rfl)) ?_
              refine wS (svX rfl rfl h14) ?_
              refine wS (svX rfl rfl h14) ?_
              refine wS (svX rfl rfl h14) ?_
              refine wS (v := (eB true)) (sv (d_pickT rfl h14 rfl)) ?_
              refine wS (v := (eB true)) (sv (d_move rfl)) ?_
              refine wS (svX rfl rfl rfl) ?_
              refine wS (svX rfl rfl rfl) ?_
              refine wS (svX rfl rfl rfl) ?_
              refine wS (svX rfl rfl rfl) ?_
              refine wS (v := (eB true)) (sv (d_pickT rfl rfl rfl)) ?_
              refine wS (v := (eB true)) (sv (d_move rfl)) ?_
              refine wS (svX rfl rfl rfl) ?_
              refine wS (svX rfl rfl rfl) ?_
              refine wS (svX rfl rfl rfl) ?_
              refine wS (svX rfl rfl rfl) ?_
              refine wS (svX rfl rfl rfl) ?_
              refine wS (svX rfl rfl rfl) ?_
              refine wS (svX rfl rfl rfl) ?_
              refine wS (v := (eB true)) (sv (d_pickT rfl rfl rfl)) ?_
              refine wS (v := (eB true)) (sv (d_move rfl)) ?_
              refine wS (svX rfl rfl rfl) ?_
              refine wS (svX rfl rfl rfl) ?_
              refine wS (svX rfl rfl rfl) ?_
              refine wS (v := (eB true)) (sv (d_pickT rfl rfl rfl)) ?_
              refine OpsW.nil ?_
              refine Ex.then_mk ?_
              exact hG3 _ _ _ _ (Ghost.rn [0, 1, 2] rfl rfl (FLe.same rfl (FLe.same rfl (FLe.same rfl FLe.nil))) (HLe.live rfl (V.les_refl _ _) rfl (HLe.live rfl (V.les_refl _ _) rfl (HLe.live rfl (les_map (fun _ => rfl) _) (all_map (fun _ => rfl) _) HLe.nil))) rfl) (J3 true hr)
            · replace hr := iteF hr h14
              rcases Bool.eq_false_or_eq_true (x46.1 != v_1) with h15 | h15
              · replace hr := iteT hr h15
                refine AB.rw ?_
                refine wS (v := (eI .i64 x38.2.2)) (sv (d_move rfl)) ?_
                refine wS (v := (eB (x38.2.2 != 0))) (sv (d_bin rfl rfl (bin_neq ..))) ?_
                refine wS (v := (eB (x38.2.2 != 0))) (sv (d_move rfl)) ?_
                refine wS (v := (eI .i64 x46.2.2)) (svG rfl rfl h13 (d_move rfl)) ?_
                refine wS (v := (eB (x46.2.2 != 0))) (svG rfl rfl h13 (d_bin rfl rfl (bin_neq ..))) ?_
                refine wS (v := (eB (x46.2.2 != 0))) (sv (d_pickF rfl h13 rfl)) ?_
                refine wS (v := (eB (x46.2.2 != 0))) (sv (d_move rfl)) ?_
                refine wS (v := (eI .u64 x46.1)) (svG rfl rfl h14 (d_move rfl)) ?_
                refine wS (v := (eI .u64 v_1)) (svG rfl rfl h14 (d_move rfl)) ?_
                refine wS (v := (eB (x46.1 != v_1))) (svG rfl rfl h14 (d_bin rfl rfl (bin_neq ..))) ?_
                refine wS (v := (eB (x46.1 != v_1))) (sv (d_pickF rfl h14 rfl)) ?_
                refine wS (v := (eB (x46.1 != v_1))) (sv (d_move rfl)) ?_
                refine wS (svX rfl rfl h15) ?_
                refine wS (svX rfl rfl h15) ?_
                refine wS (svX rfl rfl h15) ?_
                refine wS (svX rfl rfl h15) ?_
                refine wS (v := (eB true)) (sv (d_pickT rfl h15 rfl)) ?_
                refine wS (v := (eB true)) (sv (d_move rfl)) ?_
                refine wS (svX rfl rfl rfl) ?_
                refine wS (svX rfl rfl rfl) ?_
                refine wS (svX rfl rfl rfl) ?_
                refine wS (svX rfl rfl rfl) ?_
                refine wS (svX rfl rfl rfl) ?_
                refine wS (svX rfl rfl rfl) ?_
                refine wS (svX rfl rfl rfl) ?_
                refine wS (v := (eB true)) (sv (d_pickT rfl rfl rfl)) ?_
                refine wS (v := (eB true)) (sv (d_move rfl)) ?_
                refine wS (svX rfl rfl rfl) ?_
                refine wS (svX rfl rfl rfl) ?_
                refine wS (svX rfl rfl rfl) ?_
                refine wS (v := (eB true)) (sv (d_pickT rfl rfl rfl)) ?_
                refine OpsW.nil ?_
                refine Ex.then_mk ?_
                exact hG3 _ _ _ _ (Ghost.rn [0, 1, 2] rfl rfl (FLe.same rfl (FLe.same rfl (FLe.same rfl FLe.nil))) (HLe.live rfl (V.les_refl _ _) rfl (HLe.live rfl (V.les_refl _ _) rfl (HLe.live rfl (les_map (fun _ => rfl) _) (all_map (fun _ => rfl) _) HLe.nil))) rfl) (J3 true hr)
              · replace hr := iteF hr h15
                rcases Bool.eq_false_or_eq_true (x46.2.1 != x38.2.1) with h16 | h16
                · replace hr := iteT hr h16
                  refine AB.rw ?_
                  refine wS (v := (eI .i64 x38.2.2)) (sv (d_move rfl)) ?_
                  refine wS (v := (eB (x38.2.2 != 0))) (sv (d_bin rfl rfl (bin_neq ..))) ?_
                  refine wS (v := (eB (x38.2.2 != 0))) (sv (d_move rfl)) ?_
                  refine wS (v := (eI .i64 x46.2.2)) (svG rfl rfl h13 (d_move rfl)) ?_
                  refine wS (v := (eB (x46.2.2 != 0))) (svG rfl rfl h13 (d_bin rfl rfl (bin_neq ..))) ?_
                  refine wS (v := (eB (x46.2.2 != 0))) (sv (d_pickF rfl h13 rfl)) ?_
                  refine wS (v := (eB (x46.2.2 != 0))) (sv (d_move rfl)) ?_
                  refine wS (v := (eI .u64 x46.1)) (svG rfl rfl h14 (d_move rfl)) ?_
                  refine wS (v := (eI .u64 v_1)) (svG rfl rfl h14 (d_move rfl)) ?_
                  refine wS (v := (eB (x46.1 != v_1))) (svG rfl rfl h14 (d_bin rfl rfl (bin_neq ..))) ?_
                  refine wS (v := (eB (x46.1 != v_1))) (sv (d_pickF rfl h14 rfl)) ?_
                  refine wS (v := (eB (x46.1 != v_1))) (sv (d_move rfl)) ?_
                  refine wS (v := (eI .i64 x46.2.1)) (svG rfl rfl h15 (d_move rfl)) ?_
                  refine wS (v := (.ptr 1 1)) (svG rfl rfl h15 (d_fa rfl (fap24_1 ..))) ?_
                  refine wS (v := (eI .i64 x38.2.1)) (svG rfl rfl h15 (d_load rfl (ldP rfl (part1 ti3 rfl rfl)))) ?_
                  refine wS (v := (eB (x46.2.1 != x38.2.1))) (svG rfl rfl h15 (d_bin rfl rfl (bin_neq ..))) ?_
                  refine wS (v := (eB (x46.2.1 != x38.2.1))) (sv (d_pickF rfl h15 rfl)) ?_
                  refine wS (v := (eB (x46.2.1 != x38.2.1))) (sv (d_move rfl)) ?_
                  refine wS (svX rfl rfl h16) ?_
                  refine wS (svX rfl rfl h16) ?_
                  refine wS (svX rfl rfl h16) ?_
                  refine wS (svX rfl rfl h16) ?_
                  refine wS (svX rfl rfl h16) ?_
                  refine wS (svX rfl rfl h16) ?_
                  refine wS (svX rfl rfl h16) ?_
                  refine wS (v := (eB true)) (sv (d_pickT rfl h16 rfl)) ?_
                  refine wS (v := (eB true)) (sv (d_move rfl)) ?_
                  refine wS (svX rfl rfl rfl) ?_
                  refine wS (svX rfl rfl rfl) ?_
                  refine wS (svX rfl rfl rfl) ?_
                  refine wS (v := (eB true)) (sv (d_pickT rfl rfl rfl)) ?_
                  refine OpsW.nil ?_
                  refine Ex.then_mk ?_
                  exact hG3 _ _ _ _ (Ghost.rn [0, 1, 2] rfl rfl (FLe.same rfl (FLe.same rfl (FLe.same rfl FLe.nil))) (HLe.live rfl (V.les_refl _ _) rfl (HLe.live rfl (V.les_refl _ _) rfl (HLe.live rfl (les_map (fun _ => rfl) _) (all_map (fun _ => rfl) _) HLe.nil))) rfl) (J3 true hr)
                · replace hr := iteF hr h16
                  rcases Bool.eq_false_or_eq_true (x38.2.1 != (IntKind.i64.wrap (b_N + (IntKind.i64.wrap (Int.tmod vn 65))))) with h17 | h17
                  · replace hr := iteT hr h17
                    refine AB.rw ?_
                    refine wS (v := (eI .i64 x38.2.2)) (sv (d_move rfl)) ?_
                    refine wS (v := (eB (x38.2.2 != 0))) (sv (d_bin rfl rfl (bin_neq ..))) ?_
                    refine wS (v := (eB (x38.2.2 != 0))) (sv (d_move rfl)) ?_
                    refine wS (v := (eI .i64 x46.2.2)) (svG rfl rfl h13 (d_move rfl)) ?_
                    refine wS (v := (eB (x46.2.2 != 0))) (svG rfl rfl h13 (d_bin rfl rfl (bin_neq ..))) ?_
                    refine wS (v := (eB (x46.2.2 != 0))) (sv (d_pickF rfl h13 rfl)) ?_
                    refine wS (v := (eB (x46.2.2 != 0))) (sv (d_move rfl)) ?_
                    refine wS (v := (eI .u64 x46.1)) (svG rfl rfl h14 (d_move rfl)) ?_
                    refine wS (v := (eI .u64 v_1)) (svG rfl rfl h14 (d_move rfl)) ?_
                    refine wS (v := (eB (x46.1 != v_1))) (svG rfl rfl h14 (d_bin rfl rfl (bin_neq ..))) ?_
                    refine wS (v := (eB (x46.1 != v_1))) (sv (d_pickF rfl h14 rfl)) ?_
                    refine wS (v := (eB (x46.1 != v_1))) (sv (d_move rfl)) ?_
                    refine wS (v := (eI .i64 x46.2.1)) (svG rfl rfl h15 (d_move rfl)) ?_
                    refine wS (v := (.ptr 1 1)) (svG rfl rfl h15 (d_fa rfl (fap24_1 ..))) ?_
                    refine wS (v := (eI .i64 x38.2.1)) (svG rfl rfl h15 (d_load rfl (ldP rfl (part1 ti3 rfl rfl)))) ?_
                    refine wS (v := (eB (x46.2.1 != x38.2.1))) (svG rfl rfl h15 (d_bin rfl rfl (bin_neq ..))) ?_
                    refine wS (v := (eB (x46.2.1 != x38.2.1))) (sv (d_pickF rfl h15 rfl)) ?_
                    refine wS (v := (eB (x46.2.1 != x38.2.1))) (sv (d_move rfl)) ?_
                    refine wS (v := (.ptr 1 1)) (svG rfl rfl h16 (d_fa rfl (fap24_1 ..))) ?_
                    refine wS (v := (eI .i64 x38.2.1)) (svG rfl rfl h16 (d_load rfl (ldP rfl (part1 ti3 rfl rfl)))) ?_
                    refine wS (v := (.ptr 0 1)) (svG rfl rfl h16 (d_fa rfl (fap24_1 ..))) ?_
                    refine wS (v := (eI .i64 b_N)) (svG rfl rfl h16 (d_load rfl (ldP rfl (part1 ti3 rfl rfl)))) ?_
                    refine wS (v := (eI .i64 (IntKind.i64.wrap (Int.tmod vn 65)))) (svG rfl rfl h16 (d_move rfl)) ?_
                    refine wS (v := (eI .i64 (IntKind.i64.wrap (b_N + (IntKind.i64.wrap (Int.tmod vn 65)))))) (svG rfl rfl h16 (d_bin rfl rfl (bin_add ..))) ?_
                    refine wS (v := (eB (x38.2.1 != (IntKind.i64.wrap (b_N + (IntKind.i64.wrap (Int.tmod vn 65))))))) (svG rfl rfl h16 (d_bin rfl rfl (bin_neq ..))) ?_
                    refine wS (v := (eB (x38.2.1 != (IntKind.i64.wrap (b_N + (IntKind.i64.wrap (Int.tmod vn 65))))))) (sv (d_pickF rfl h16 rfl)) ?_
                    refine wS (v := (eB (x38.2.1 != (IntKind.i64.wrap (b_N + (IntKind.i64.wrap (Int.tmod vn 65))))))) (sv (d_move rfl)) ?_
                    refine wS (svX rfl rfl h17) ?_
                    refine wS (svX rfl rfl h17) ?_
                    refine wS (svX rfl rfl h17) ?_
                    refine wS (v := (eB true)) (sv (d_pickT rfl h17 rfl)) ?_
                    refine OpsW.nil ?_
                    refine Ex.then_mk ?_
                    exact hG3 _ _ _ _ (Ghost.rn [0, 1, 2] rfl rfl (FLe.same rfl (FLe.same rfl (FLe.same rfl FLe.nil))) (HLe.live rfl (V.les_refl _ _) rfl (HLe.live rfl (V.les_refl _ _) rfl (HLe.live rfl (les_map (fun _ => rfl) _) (all_map (fun _ => rfl) _) HLe.nil))) rfl) (J3 true hr)
                  · replace hr := iteF hr h17
                    replace hr := bnd hr; obtain ⟨x85, h_18, hr⟩ := hr
                    refine AB.rw ?_
                    refine wS (v := (eI .i64 x38.2.2)) (sv (d_move rfl)) ?_
                    refine wS (v := (eB (x38.2.2 != 0))) (sv (d_bin rfl rfl (bin_neq ..))) ?_
                    refine wS (v := (eB (x38.2.2 != 0))) (sv (d_move rfl)) ?_
                    refine wS (v := (eI .i64 x46.2.2)) (svG rfl rfl h13 (d_move rfl)) ?_
                    refine wS (v := (eB (x46.2.2 != 0))) (svG rfl rfl h13 (d_bin rfl rfl (bin_neq ..))) ?_
                    refine wS (v := (eB (x46.2.2 != 0))) (sv (d_pickF rfl h13 rfl)) ?_
                    refine wS (v := (eB (x46.2.2 != 0))) (sv (d_move rfl)) ?_
                    refine wS (v := (eI .u64 x46.1)) (svG rfl rfl h14 (d_move rfl)) ?_
                    refine wS (v := (eI .u64 v_1)) (svG rfl rfl h14 (d_move rfl)) ?_
                    refine wS (v := (eB (x46.1 != v_1))) (svG rfl rfl h14 (d_bin rfl rfl (bin_neq ..))) ?_
                    refine wS (v := (eB (x46.1 != v_1))) (sv (d_pickF rfl h14 rfl)) ?_
                    refine wS (v := (eB (x46.1 != v_1))) (sv (d_move rfl)) ?_
                    refine wS (v := (eI .i64 x46.2.1)) (svG rfl rfl h15 (d_move rfl)) ?_
                    refine wS (v := (.ptr 1 1)) (svG rfl rfl h15 (d_fa rfl (fap24_1 ..))) ?_
                    refine wS (v := (eI .i64 x38.2.1)) (svG rfl rfl h15 (d_load rfl (ldP rfl (part1 ti3 rfl rfl)))) ?_
                    refine wS (v := (eB (x46.2.1 != x38.2.1))) (svG rfl rfl h15 (d_bin rfl rfl (bin_neq ..))) ?_
                    refine wS (v := (eB (x46.2.1 != x38.2.1))) (sv (d_pickF rfl h15 rfl)) ?_
                    refine wS (v := (eB (x46.2.1 != x38.2.1))) (sv (d_move rfl)) ?_
                    refine wS (v := (.ptr 1 1)) (svG rfl rfl h16 (d_fa rfl (fap24_1 ..))) ?_
                    refine wS (v := (eI .i64 x38.2.1)) (svG rfl rfl h16 (d_load rfl (ldP rfl (part1 ti3 rfl rfl)))) ?_
                    refine wS (v := (.ptr 0 1)) (svG rfl rfl h16 (d_fa rfl (fap24_1 ..))) ?_
                    refine wS (v := (eI .i64 b_N)) (svG rfl rfl h16 (d_load rfl (ldP rfl (part1 ti3 rfl rfl)))) ?_
                    refine wS (v := (eI .i64 (IntKind.i64.wrap (Int.tmod vn 65)))) (svG rfl rfl h16 (d_move rfl)) ?_
                    refine wS (v := (eI .i64 (IntKind.i64.wrap (b_N + (IntKind.i64.wrap (Int.tmod vn 65)))))) (svG rfl rfl h16 (d_bin rfl rfl (bin_add ..))) ?_
                    refine wS (v := (eB (x38.2.1 != (IntKind.i64.wrap (b_N + (IntKind.i64.wrap (Int.tmod vn 65))))))) (svG rfl rfl h16 (d_bin rfl rfl (bin_neq ..))) ?_
                    refine wS (v := (eB (x38.2.1 != (IntKind.i64.wrap (b_N + (IntKind.i64.wrap (Int.tmod vn 65))))))) (sv (d_pickF rfl h16 rfl)) ?_
                    refine wS (v := (eB (x38.2.1 != (IntKind.i64.wrap (b_N + (IntKind.i64.wrap (Int.tmod vn 65))))))) (sv (d_move rfl)) ?_
                    refine wS (v := (.agg [(.sl 2 0 x38.1.length 1 false), (eI .i64 x38.2.1)])) (svG rfl rfl h17 (d_load rfl (ldP rfl (partN (ds := [(.sl 2 0 x38.1.length 1 false), (eI .i64 x38.2.1)]) ti24 rfl (Nat.le_of_ble_eq_true rfl) rfl)))) ?_
                    refine wCG (v := (eB x85)) (h' := [some ⟨24, [(.row none 1 (b_Data.map (eI .u8))), (eI .i64 b_N)]⟩, some ⟨24, [(.sl 2 0 x38.1.length 1 false), (eI .i64 x38.2.1)]⟩, some ⟨5, x38.1.map (eI .u8)⟩]) rfl rfl h17 rfl (Vm.Fn.lendR (bits_Valid_ok N x38.1 x38.2.1 x85 h_18) [] [2] (by decide) rfl (by decide) Lend.nil (Brw.row (exp_agg (exp_cons (exp_sl (d := 3) rfl rfl (fun _ => rfl)) (exp_cons rfl exp_nil))) Brw.nil) rfl rfB.nil rfl (by simp only [lent, lendSet, lendSet_nil, rnH, Blk.rn, V.rns, V.rn, sg, List.map_cons, List.map_nil, Option.map_some, Option.map_none, List.drop_succ_cons, List.drop_zero, List.drop_nil, List.set_cons_zero, List.set_cons_succ, List.cons_append, List.nil_append, List.append_nil, rns_eI, rns_eB, rns_eS, rns_eL, List.getElem?_cons_zero, List.getElem?_cons_succ, List.getElem?_nil, List.length_cons, List.length_nil, Nat.reduceAdd, Nat.reduceSub, Nat.add_zero, Nat.zero_add, Nat.sub_self, Nat.sub_zero])) ?_
                    refine wS (v := (eB (!x85))) (svG rfl rfl h17 (d_un rfl (un_not _ _))) ?_
                    refine wS (v := (eB (!x85))) (sv (d_pickF rfl h17 rfl)) ?_
                    refine OpsW.nil ?_
                    refine Ex.then_mk ?_
                    exact hG3 _ _ _ _ (Ghost.rn [0, 1, 2] rfl rfl (FLe.same rfl (FLe.same rfl (FLe.same rfl FLe.nil))) (HLe.live rfl (V.les_refl _ _) rfl (HLe.live rfl (V.les_refl _ _) rfl (HLe.live rfl (les_map (fun _ => rfl) _) (all_map (fun _ => rfl) _) HLe.nil))) rfl) (J3 (!x85) hr)
        refine AB.seq ?_
        refine AB.rw ?_
        refine wS (v := (eI .i64 (IntKind.i64.wrap (Int.tmod vn 65)))) (sv (d_move rfl)) ?_
        refine wS (v := (eB (decide ((IntKind.i64.wrap (Int.tmod vn 65)) < 64)))) (sv (d_bin rfl rfl (bin_lss ..))) ?_
        refine OpsW.nil ?_
        refine Ex.then_mk ?_
        refine AB.cnd rfl (fun h19 => ?_) (fun h19 => ?_)
        · replace hr := iteT hr h19
          replace hr := bnd hr; obtain ⟨x54, h_20, hr⟩ := hr
          refine AB.rw ?_
          refine wS (v := (eI .u64 v)) (sv (d_move rfl)) ?_
          refine wS (v := (eI .i64 (IntKind.i64.wrap (Int.tmod vn 65)))) (sv (d_move rfl)) ?_
          refine wS (v := (eI .u64 x54)) (sv (d_bin rfl rfl (bin_shl' _ _ _ _ h_20))) ?_
          refine wS (v := (eI .u64 (IntKind.u64.wrap (x54 - 1)))) (sv (d_bin rfl rfl (bin_sub ..))) ?_
          refine wS (v := (eI .u64 (bits .and .u64 v (IntKind.u64.wrap (x54 - 1))))) (sv (d_bin rfl rfl (bin_and ..))) ?_
          refine wS (v := (eI .u64 (bits .and .u64 v (IntKind.u64.wrap (x54 - 1))))) (sv (d_assign rfl)) ?_
          refine OpsW.nil ?_
          refine Ex.then_mk ?_
          exact hG2 _ _ _ _ (Ghost.rn [0, 2, 1] rfl rfl (FLe.same rfl (FLe.same rfl (FLe.same rfl (FLe.same rfl (FLe.same rfl (FLe.same rfl (FLe.same rfl (FLe.same rfl FLe.nil)))))))) (HLe.live rfl (V.les_refl _ _) rfl (HLe.live rfl (V.les_refl _ _) rfl (HLe.live rfl (les_map (fun _ => rfl) _) (all_map (fun _ => rfl) _) HLe.nil))) rfl) (J2 (bits .and .u64 v (IntKind.u64.wrap (x54 - 1))) hr)
        · replace hr := iteF hr h19
          refine AB.skip ?_
          refine Ex.then_mk ?_
          exact hG2 _ _ _ _ (Ghost.rn [0, 2, 1] rfl rfl (FLe.same rfl (FLe.same rfl (FLe.same rfl (FLe.same rfl (FLe.same rfl (FLe.same rfl (FLe.same rfl (FLe.same rfl FLe.nil)))))))) (HLe.live rfl (V.les_refl _ _) rfl (HLe.live rfl (V.les_refl _ _) rfl (HLe.live rfl (les_map (fun _ => rfl) _) (all_map (fun _ => rfl) _) HLe.nil))) rfl) (J2 v hr)
    replace hr := bnd hr; obtain ⟨x27, h_21, hr⟩ := hr
    rcases Bool.eq_false_or_eq_true (!x27) with h22 | h22
    · replace hr := iteT hr h22
      refine AB.rw ?_
      refine wS (v := (.agg [(.row none 1 (b_Data.map (eI .u8))), (eI .i64 b_N)])) (sv (d_load rfl (ldP rfl (partN (ds := [(.row none 1 (b_Data.map (eI .u8))), (eI .i64 b_N)]) ti24 rfl (Nat.le_of_ble_eq_true rfl) rfl)))) ?_
      refine wC (v := (eB x27)) (h' := [some ⟨24, [(.row none 1 (b_Data.map (eI .u8))), (eI .i64 b_N)]⟩]) rfl (Vm.Fn.pure (law18_kept_ok N b_Data b_N x27 h_21) rfl rfl) ?_
      refine wS (v := (eB (!x27))) (sv (d_un rfl (un_not _ _))) ?_
      refine wS (v := (eB (!x27))) (sv (d_move rfl)) ?_
      refine wS (svX rfl rfl h22) ?_
      refine wS (svX rfl rfl h22) ?_
      refine wS (svX rfl rfl h22) ?_
      refine wS (v := (eB true)) (sv (d_pickT rfl h22 rfl)) ?_
      refine OpsW.nil ?_
      refine Ex.then_mk ?_
      exact hG1 _ _ _ _ (Ghost.rn [0] rfl rfl (FLe.same rfl (FLe.same rfl (FLe.same rfl (FLe.same rfl FLe.nil)))) (HLe.live rfl (V.les_refl _ _) rfl HLe.nil) rfl) (J1 true hr)
    · replace hr := iteF hr h22
      replace hr := bnd hr; obtain ⟨x31, h_23, hr⟩ := hr
      refine AB.rw ?_
      refine wS (v := (.agg [(.row none 1 (b_Data.map (eI .u8))), (eI .i64 b_N)])) (sv (d_load rfl (ldP rfl (partN (ds := [(.row none 1 (b_Data.map (eI .u8))), (eI .i64 b_N)]) ti24 rfl (Nat.le_of_ble_eq_true rfl) rfl)))) ?_
      refine wC (v := (eB x27)) (h' := [some ⟨24, [(.row none 1 (b_Data.map (eI .u8))), (eI .i64 b_N)]⟩]) rfl (Vm.Fn.pure (law18_kept_ok N b_Data b_N x27 h_21) rfl rfl) ?_
      refine wS (v := (eB (!x27))) (sv (d_un rfl (un_not _ _))) ?_
      refine wS (v := (eB (!x27))) (sv (d_move rfl)) ?_
      refine wS (v := (.agg [(.row none 1 (b_Data.map (eI .u8))), (eI .i64 b_N)])) (svG rfl rfl h22 (d_load rfl (ldP rfl (partN (ds := [(.row none 1 (b_Data.map (eI .u8))), (eI .i64 b_N)]) ti24 rfl (Nat.le_of_ble_eq_true rfl) rfl)))) ?_
      refine wCG (v := (eB x31)) (h' := [some ⟨24, [(.row none 1 (b_Data.map (eI .u8))), (eI .i64 b_N)]⟩]) rfl rfl h22 rfl (Vm.Fn.pure (bits_Valid_ok N b_Data b_N x31 h_23) rfl rfl) ?_
      refine wS (v := (eB (!x31))) (svG rfl rfl h22 (d_un rfl (un_not _ _))) ?_
      refine wS (v := (eB (!x31))) (sv (d_pickF rfl h22 rfl)) ?_
      refine OpsW.nil ?_
      refine Ex.then_mk ?_
      exact hG1 _ _ _ _ (Ghost.rn [0] rfl rfl (FLe.same rfl (FLe.same rfl (FLe.same rfl (FLe.same rfl FLe.nil)))) (HLe.live rfl (V.les_refl _ _) rfl HLe.nil) rfl) (J1 (!x31) hr)
set_option maxRecDepth 20000 in
set_option maxHeartbeats 1000000 in
theorem bits_ReadRice_ok (N : Nat) (b_Data : List Int) (b_N : Int) (vat : Int) (p : Int) (r : Int × Int × Int) (hr : bits_ReadRice N b_Data b_N vat p = some r) :
    Vm.Fn Try.prog 21 [] [(.agg [(.row none 1 (b_Data.map (eI .u8))), (eI .i64 b_N)]), (eI .i64 vat), (eI .i64 p)] (.tup [(eI .u64 r.1), (eI .i64 r.2.1), (eI .i64 r.2.2)]) [] := by
  refine fn_ab Try.func21 rfl (by kernel_rfl) Try.ntmps21 (Nat.le_of_ble_eq_true rfl) rfl (fr := [(0, (.agg [(.row none 1 (b_Data.map (eI .u8))), (eI .i64 b_N)])), (1, (eI .i64 vat)), (2, (eI .i64 p))]) rfl ?_
  unfold bits_ReadRice at hr
  refine AB.seq ?_
  refine AB.rw ?_
  refine wS (v := (.ptr 0 0)) (h' := [some ⟨24, [(.row none 1 (b_Data.map (eI .u8))), (eI .i64 b_N)]⟩]) (sv (d_box rfl rfl rfl rfl)) ?_
  refine wS (v := (eI .u64 0)) (sv (d_assign rfl)) ?_
  refine wS (v := (eI .i64 0)) (sv (d_assign rfl)) ?_
  refine wS (v := (eI .i64 0)) (sv (d_assign rfl)) ?_
  refine OpsW.nil ?_
  refine Ex.then_mk ?_
  refine AB.seq ?_
  refine AB.seq ?_
  replace hr := bnd hr; obtain ⟨x12, h_1, hr⟩ := hr
  refine AB.rw ?_
  refine wS (v := (.agg [(.row none 1 (b_Data.map (eI .u8))), (eI .i64 b_N)])) (sv (d_load rfl (ldP rfl (partN (ds := [(.row none 1 (b_Data.map (eI .u8))), (eI .i64 b_N)]) ti24 rfl (Nat.le_of_ble_eq_true rfl) rfl)))) ?_
  refine wC (v := (eB x12)) (h' := [some ⟨24, [(.row none 1 (b_Data.map (eI .u8))), (eI .i64 b_N)]⟩]) rfl (Vm.Fn.pure (bits_Valid_ok N b_Data b_N x12 h_1) rfl rfl) ?_
  refine wS (v := (eB (!x12))) (sv (d_un rfl (un_not _ _))) ?_
  refine OpsW.nil ?_
  refine Ex.then_mk ?_
  refine AB.cnd rfl (fun h2 => ?_) (fun h2 => ?_)
  · replace hr := iteT hr h2
    refine AB.seq ?_
    refine AB.rw ?_
    refine wS (v := (eI .u64 0)) (sv (d_assign rfl)) ?_
    refine wS (v := (eI .i64 0)) (sv (d_assign rfl)) ?_
    refine wS (v := (eI .i64 6)) (sv (d_assign rfl)) ?_
    refine OpsW.nil ?_
    refine Ex.then_mk ?_
    refine AB.ret ?_
    refine Ex.then_ret_mk ?_
    obtain rfl := Option.some.inj hr
    exact done_ret (r1 := (.tup [(eI .u64 0), (eI .i64 0), (eI .i64 6)])) (res3 Try.results21 (rvT rfl) (rvT rfl) (rvT rfl)) (Ghost.rn [] rfl rfl (FLe.same rfl FLe.nil) HLe.nil rfl)
  · replace hr := iteF hr h2
    refine AB.skip ?_
    refine Ex.then_mk ?_
    refine AB.seq ?_
    refine AB.seq_g fun K1 hK1 hG1 => ?_
    have J1 : ∀ (x29 : Bool), bits_ReadRice_J1 N b_Data b_N vat p x29 = some r → K1 (mkF 70 [(1, (eI .i64 vat)), (2, (eI .i64 p)), (3, (.ptr 0 0)), (29, (eB x29))]) [some ⟨24, [(.row none 1 (b_Data.map (eI .u8))), (eI .i64 b_N)]⟩] := by
      intro x29 hr
      unfold bits_ReadRice_J1 at hr
      refine hK1 _ _ ?_
      refine AB.cnd rfl (fun h3 => ?_) (fun h3 => ?_)
      · replace hr := iteT hr h3
        refine AB.seq ?_
        refine AB.rw ?_
        refine wS (v := (eI .u64 0)) (sv (d_assign rfl)) ?_
        refine wS (v := (eI .i64 0)) (sv (d_assign rfl)) ?_
        refine wS (v := (eI .i64 5)) (sv (d_assign rfl)) ?_
        refine OpsW.nil ?_
        refine Ex.then_mk ?_
        refine AB.ret ?_
        refine Ex.then_ret_mk ?_
        obtain rfl := Option.some.inj hr
        exact done_ret (r1 := (.tup [(eI .u64 0), (eI .i64 0), (eI .i64 5)])) (res3 Try.results21 (rvT rfl) (rvT rfl) (rvT rfl)) (Ghost.rn [] rfl rfl (FLe.same rfl FLe.nil) HLe.nil rfl)
      · replace hr := iteF hr h3
        refine AB.skip ?_
        refine Ex.then_mk ?_
        refine AB.seq ?_
        refine AB.rw ?_
        refine wS (v := (eI .i64 vat)) (sv (d_move rfl)) ?_
        refine wS (v := (eI .i64 vat)) (sv (d_assign rfl)) ?_
        refine OpsW.nil ?_
        refine Ex.then_mk ?_
        refine AB.seq_g fun K2 hK2 hG2 => ?_
        have J2 : ∀ (vend : Int), bits_ReadRice_J2 N b_Data b_N vat p vend = some r → K2 (mkF 70 [(1, (eI .i64 vat)), (2, (eI .i64 p)), (3, (.ptr 0 0)), (9, (eI .i64 vend))]) [some ⟨24, [(.row none 1 (b_Data.map (eI .u8))), (eI .i64 b_N)]⟩] := by
          intro vend hr
          unfold bits_ReadRice_J2 at hr
          refine hK2 _ _ ?_
          refine AB.seq ?_
          refine AB.seq ?_
          refine AB.rw ?_
          refine wS (v := (.ptr 0 1)) (sv (d_fa rfl (fap24_1 ..))) ?_
          refine wS (v := (eI .i64 b_N)) (sv (d_load rfl (ldP rfl (part1 ti3 rfl rfl)))) ?_
          refine wS (v := (eI .i64 vend)) (sv (d_move rfl)) ?_
          refine wS (v := (eI .i64 (IntKind.i64.wrap (b_N - vend)))) (sv (d_bin rfl rfl (bin_sub ..))) ?_
          refine wS (v := (eI .i64 p)) (sv (d_move rfl)) ?_
          refine wS (v := (eI .i64 (IntKind.i64.wrap (1 + p)))) (sv (d_bin rfl rfl (bin_add ..))) ?_
          refine wS (v := (eB (decide ((IntKind.i64.wrap (b_N - vend)) < (IntKind.i64.wrap (1 + p)))))) (sv (d_bin rfl rfl (bin_lss ..))) ?_
          refine OpsW.nil ?_
          refine Ex.then_mk ?_
          refine AB.cnd rfl (fun h4 => ?_) (fun h4 => ?_)
          · replace hr := iteT hr h4
            refine AB.seq ?_
            refine AB.rw ?_
            refine wS (v := (eI .u64 0)) (sv (d_assign rfl)) ?_
            refine wS (v := (eI .i64 0)) (sv (d_assign rfl)) ?_
            refine wS (v := (eI .i64 1)) (sv (d_assign rfl)) ?_
            refine OpsW.nil ?_
            refine Ex.then_mk ?_
            refine AB.ret ?_
            refine Ex.then_ret_mk ?_
            obtain rfl := Option.some.inj hr
            exact done_ret (r1 := (.tup [(eI .u64 0), (eI .i64 0), (eI .i64 1)])) (res3 Try.results21 (rvT rfl) (rvT rfl) (rvT rfl)) (Ghost.rn [] rfl rfl (FLe.same rfl FLe.nil) HLe.nil rfl)
          · replace hr := iteF hr h4
            refine AB.skip ?_
            refine Ex.then_mk ?_
            refine AB.seq ?_
            replace hr := bnd hr; obtain ⟨x58, h_5, hr⟩ := hr
            replace hr := bnd hr; obtain ⟨x63, h_6, hr⟩ := hr
            have hc7 : Vm.Fn Try.prog 30 [some ⟨24, [(.row none 1 (b_Data.map (eI .u8))), (eI .i64 b_N)]⟩] [(.agg [(.row none 1 (b_Data.map (eI .u8))), (eI .i64 b_N)]), (eI .i64 (IntKind.i64.wrap (vend + 1))), (eI .i64 p)] (eI .u64 x63) [some ⟨24, [(.row none 1 (b_Data.map (eI .u8))), (eI .i64 b_N)]⟩] := (Vm.Fn.pure (bits_number_ok N b_Data b_N (IntKind.i64.wrap (vend + 1)) p x63 h_6) rfl rfl)
            refine AB.rg (Env.one mixed hc7 allF (fun _ _ => rfl)) (fun _ => by show drawOk allF _ = true; decide +kernel) ?_
            refine tS (v := (eI .i64 vend)) (sv (d_move rfl)) ?_
            refine tS (v := (eI .i64 vat)) (sv (d_move rfl)) ?_
            refine tS (v := (eI .i64 (IntKind.i64.wrap (vend - vat)))) (sv (d_bin rfl rfl (bin_sub ..))) ?_
            refine tS (v := (eI .u64 (IntKind.u64.wrap (IntKind.i64.wrap (vend - vat))))) (sv (d_conv rfl (conv_int _ ⟨_, ti3⟩ ti25 rfl))) ?_
            refine tS (v := (eI .i64 p)) (sv (d_move rfl)) ?_
            refine tS (v := (eI .u64 x58)) (sv (d_bin rfl rfl (bin_shl' _ _ _ _ h_5))) ?_
            refine tS (v := (.agg [(.row none 1 (b_Data.map (eI .u8))), (eI .i64 b_N)])) (sv (d_load rfl (ldP rfl (partN (ds := [(.row none 1 (b_Data.map (eI .u8))), (eI .i64 b_N)]) ti24 rfl (Nat.le_of_ble_eq_true rfl) rfl)))) ?_
            refine tS (v := (eI .i64 vend)) (sv (d_move rfl)) ?_
            refine tS (v := (eI .i64 (IntKind.i64.wrap (vend + 1)))) (sv (d_bin rfl rfl (bin_add ..))) ?_
            refine tS (v := (eI .i64 p)) (sv (d_move rfl)) ?_
            refine tS (v := (eI .u64 x63)) (h' := [some ⟨24, [(.row none 1 (b_Data.map (eI .u8))), (eI .i64 b_N)]⟩]) (sv (d_call rfl Env.one_O)) ?_
            refine tS (v := (eI .u64 (bits .or .u64 x58 x63))) (sv (d_bin rfl rfl (bin_or ..))) ?_
            refine tS (v := (eI .u64 (bits .or .u64 x58 x63))) (sv (d_assign rfl)) ?_
            refine OpsTo.nil ?_
            refine Ex.then_mk ?_
            refine AB.seq ?_
            refine AB.rw ?_
            refine wS (v := (eI .u64 (bits .or .u64 x58 x63))) (sv (d_move rfl)) ?_
            refine wS (v := (eI .i64 vend)) (sv (d_move rfl)) ?_
            refine wS (v := (eI .i64 (IntKind.i64.wrap (vend + 1)))) (sv (d_bin rfl rfl (bin_add ..))) ?_
            refine wS (v := (eI .i64 p)) (sv (d_move rfl)) ?_
            refine wS (v := (eI .i64 (IntKind.i64.wrap ((IntKind.i64.wrap (vend + 1)) + p)))) (sv (d_bin rfl rfl (bin_add ..))) ?_
            refine wS (v := (eI .u64 (bits .or .u64 x58 x63))) (sv (d_assign rfl)) ?_
            refine wS (v := (eI .i64 (IntKind.i64.wrap ((IntKind.i64.wrap (vend + 1)) + p)))) (sv (d_assign rfl)) ?_
            refine wS (v := (eI .i64 0)) (sv (d_assign rfl)) ?_
            refine OpsW.nil ?_
            refine Ex.then_mk ?_
            refine AB.ret ?_
            obtain rfl := Option.some.inj hr
            exact done_ret (r1 := (.tup [(eI .u64 (bits .or .u64 x58 x63)), (eI .i64 (IntKind.i64.wrap ((IntKind.i64.wrap (vend + 1)) + p))), (eI .i64 0)])) (res3 Try.results21 (rvT rfl) (rvT rfl) (rvT rfl)) (Ghost.rn [] rfl rfl (FLe.same rfl FLe.nil) HLe.nil rfl)
        replace hr := bnd hr; obtain ⟨res3, hL3, hr⟩ := hr
        refine AB.block ?_
        refine AB.loopN (fun m s h => ∃ (vend_1 : Int), bits_ReadRice_L3 N b_Data b_N vat p m vend_1 = some res3 ∧ Ghost 0 s h (mkF 70 [(1, (eI .i64 vat)), (2, (eI .i64 p)), (3, (.ptr 0 0)), (9, (eI .i64 vend_1))]) [some ⟨24, [(.row none 1 (b_Data.map (eI .u8))), (eI .i64 b_N)]⟩]) (n := N) ⟨vat, hL3, (Ghost.rn [0] rfl rfl (FLe.same rfl (FLe.same rfl (FLe.same rfl (FLe.same rfl FLe.nil)))) (HLe.live rfl (V.les_refl _ _) rfl HLe.nil) rfl)⟩ (by rintro s h ⟨_, h0, _⟩; simp [bits_ReadRice_L3] at h0) ?_
        rintro m3 s h ⟨vend_1, hr3, hg⟩
        refine AB.ghost hg ?_
        clear hg hL3
        rw [bits_ReadRice_L3] at hr3
        refine AB.seq ?_
        refine AB.seq_g fun K4 hK4 hG4 => ?_
        have J4 : ∀ (x39 : Bool), bits_ReadRice_J4 N b_Data b_N vat p vend_1 (bits_ReadRice_L3 N b_Data b_N vat p m3) x39 = some res3 → K4 (mkF 70 [(1, (eI .i64 vat)), (2, (eI .i64 p)), (3, (.ptr 0 0)), (9, (eI .i64 vend_1)), (39, (eB x39))]) [some ⟨24, [(.row none 1 (b_Data.map (eI .u8))), (eI .i64 b_N)]⟩] := by
          intro x39 hr3
          unfold bits_ReadRice_J4 at hr3
          refine hK4 _ _ ?_
          refine AB.cnd rfl (fun h8 => ?_) (fun h8 => ?_)
          · replace hr3 := iteT hr3 h8
            refine AB.skip ?_
            refine Ex.then_mk ?_
            refine AB.block ?_
            refine AB.seq ?_
            refine AB.rw ?_
            refine wS (v := (eI .i64 vend_1)) (sv (d_move rfl)) ?_
            refine wS (v := (eI .i64 (IntKind.i64.wrap (vend_1 + 1)))) (sv (d_bin rfl rfl (bin_add ..))) ?_
            refine wS (v := (eI .i64 (IntKind.i64.wrap (vend_1 + 1)))) (sv (d_assign rfl)) ?_
            refine OpsW.nil ?_
            refine Ex.then_mk ?_
            refine AB.seq ?_
            refine AB.rw ?_
            refine wS (v := (eI .i64 (IntKind.i64.wrap (vend_1 + 1)))) (sv (d_move rfl)) ?_
            refine wS (v := (eI .i64 vat)) (sv (d_move rfl)) ?_
            refine wS (v := (eI .i64 (IntKind.i64.wrap ((IntKind.i64.wrap (vend_1 + 1)) - vat)))) (sv (d_bin rfl rfl (bin_sub ..))) ?_
            refine wS (v := (eB (decide (65536 < (IntKind.i64.wrap ((IntKind.i64.wrap (vend_1 + 1)) - vat)))))) (sv (d_bin rfl rfl (bin_gtr ..))) ?_
            refine OpsW.nil ?_
            refine Ex.then_mk ?_
            refine AB.cnd rfl (fun h9 => ?_) (fun h9 => ?_)
            · replace hr3 := iteT hr3 h9
              refine AB.seq ?_
              refine AB.rw ?_
              refine wS (v := (eI .u64 0)) (sv (d_assign rfl)) ?_
              refine wS (v := (eI .i64 0)) (sv (d_assign rfl)) ?_
              refine wS (v := (eI .i64 4)) (sv (d_assign rfl)) ?_
              refine OpsW.nil ?_
              refine Ex.then_mk ?_
              refine AB.ret ?_
              refine Ex.inBlock_ret_mk ?_
              refine Ex.then_ret_mk ?_
              refine Ex.inBlock_ret_mk ?_
              refine Ex.then_ret_mk ?_
              obtain rfl := Option.some.inj hr3
              obtain rfl := Option.some.inj hr
              exact done_ret (r1 := (.tup [(eI .u64 0), (eI .i64 0), (eI .i64 4)])) (res3 Try.results21 (rvT rfl) (rvT rfl) (rvT rfl)) (Ghost.rn [] rfl rfl (FLe.same rfl FLe.nil) HLe.nil rfl)
            · replace hr3 := iteF hr3 h9
              refine AB.skip ?_
              refine Ex.inBlock_mk ?_
              refine Ex.then_mk ?_
              exact ⟨IntKind.i64.wrap (vend_1 + 1), hr3, (Ghost.rn [0] rfl rfl (FLe.same rfl (FLe.same rfl (FLe.same rfl (FLe.same rfl FLe.nil)))) (HLe.live rfl (V.les_refl _ _) rfl HLe.nil) rfl)⟩
          · replace hr3 := iteF hr3 h8
            refine AB.exit ?_
            refine Ex.then_exit_mk ?_
            refine Ex.then_exit_mk ?_
            refine Ex.inBlock_same_mk ?_
            obtain rfl := Option.some.inj hr3
            refine Ex.then_mk ?_
            exact hG2 _ _ _ _ (Ghost.rn [0] rfl rfl (FLe.same rfl (FLe.same rfl (FLe.same rfl (FLe.same rfl FLe.nil)))) (HLe.live rfl (V.les_refl _ _) rfl HLe.nil) rfl) (J2 vend_1 hr)
        rcases Bool.eq_false_or_eq_true (decide (vend_1 < b_N)) with h10 | h10
        · replace hr3 := iteT hr3 h10
          replace hr3 := bnd hr3; obtain ⟨x38, h_11, hr3⟩ := hr3
          refine AB.rw ?_
          refine wS (v := (eI .i64 vend_1)) (sv (d_move rfl)) ?_
          refine wS (v := (.ptr 0 1)) (sv (d_fa rfl (fap24_1 ..))) ?_
          refine wS (v := (eI .i64 b_N)) (sv (d_load rfl (ldP rfl (part1 ti3 rfl rfl)))) ?_
          refine wS (v := (eB (decide (vend_1 < b_N)))) (sv (d_bin rfl rfl (bin_lss ..))) ?_
          refine wS (v := (eB (decide (vend_1 < b_N)))) (sv (d_move rfl)) ?_
          refine wS (v := (.agg [(.row none 1 (b_Data.map (eI .u8))), (eI .i64 b_N)])) (svG rfl rfl h10 (d_load rfl (ldP rfl (partN (ds := [(.row none 1 (b_Data.map (eI .u8))), (eI .i64 b_N)]) ti24 rfl (Nat.le_of_ble_eq_true rfl) rfl)))) ?_
          refine wS (v := (eI .i64 vend_1)) (svG rfl rfl h10 (d_move rfl)) ?_
          refine wCG (v := (eB x38)) (h' := [some ⟨24, [(.row none 1 (b_Data.map (eI .u8))), (eI .i64 b_N)]⟩]) rfl rfl h10 rfl (Vm.Fn.pure (bits_bit_ok N b_Data b_N vend_1 x38 h_11) rfl rfl) ?_
          refine wS (v := (eB x38)) (sv (d_pickT rfl h10 rfl)) ?_
          refine OpsW.nil ?_
          refine Ex.then_mk ?_
          exact hG4 _ _ _ _ (Ghost.rn [0] rfl rfl (FLe.same rfl (FLe.same rfl (FLe.same rfl (FLe.same rfl (FLe.same rfl FLe.nil))))) (HLe.live rfl (V.les_refl _ _) rfl HLe.nil) rfl) (J4 x38 hr3)
        · replace hr3 := iteF hr3 h10
          refine AB.rw ?_
          refine wS (v := (eI .i64 vend_1)) (sv (d_move rfl)) ?_
          refine wS (v := (.ptr 0 1)) (sv (d_fa rfl (fap24_1 ..))) ?_
          refine wS (v := (eI .i64 b_N)) (sv (d_load rfl (ldP rfl (part1 ti3 rfl rfl)))) ?_
          refine wS (v := (eB (decide (vend_1 < b_N)))) (sv (d_bin rfl rfl (bin_lss ..))) ?_
          refine wS (v := (eB (decide (vend_1 < b_N)))) (sv (d_move rfl)) ?_
          refine wS (svX rfl rfl h10) ?_
          refine wS (svX rfl rfl h10) ?_
          refine wS (svX rfl rfl h10) ?_
          refine wS (v := (eB false)) (sv (d_pickF rfl h10 rfl)) ?_
          refine OpsW.nil ?_
          refine Ex.then_mk ?_
          exact hG4 _ _ _ _ (Ghost.rn [0] rfl rfl (FLe.same rfl (FLe.same rfl (FLe.same rfl (FLe.same rfl (FLe.same rfl FLe.nil))))) (HLe.live rfl (V.les_refl _ _) rfl HLe.nil) rfl) (J4 false hr3)
    rcases Bool.eq_false_or_eq_true (decide (p < 0)) with h12 | h12
    · replace hr := iteT hr h12
      refine AB.rw ?_
      refine wS (v := (eI .i64 p)) (sv (d_move rfl)) ?_
      refine wS (v := (eB (decide (p < 0)))) (sv (d_bin rfl rfl (bin_lss ..))) ?_
      refine wS (v := (eB (decide (p < 0)))) (sv (d_move rfl)) ?_
      refine wS (svX rfl rfl h12) ?_
      refine wS (svX rfl rfl h12) ?_
      refine wS (v := (eB true)) (sv (d_pickT rfl h12 rfl)) ?_
      refine wS (v := (eB true)) (sv (d_move rfl)) ?_
      refine wS (svX rfl rfl rfl) ?_
      refine wS (svX rfl rfl rfl) ?_
      refine wS (v := (eB true)) (sv (d_pickT rfl rfl rfl)) ?_
      refine wS (v := (eB true)) (sv (d_move rfl)) ?_
      refine wS (svX rfl rfl rfl) ?_
      refine wS (svX rfl rfl rfl) ?_
      refine wS (svX rfl rfl rfl) ?_
      refine wS (svX rfl rfl rfl) ?_
      refine wS (v := (eB true)) (sv (d_pickT rfl rfl rfl)) ?_
      refine OpsW.nil ?_
      refine Ex.then_mk ?_
      exact hG1 _ _ _ _ (Ghost.rn [0] rfl rfl (FLe.same rfl (FLe.same rfl (FLe.same rfl (FLe.same rfl FLe.nil)))) (HLe.live rfl (V.les_refl _ _) rfl HLe.nil) rfl) (J1 true hr)
    · replace hr := iteF hr h12
      rcases Bool.eq_false_or_eq_true (decide (32 < p)) with h13 | h13
      · replace hr := iteT hr h13
        refine AB.rw ?_
        refine wS (v := (eI .i64 p)) (sv (d_move rfl)) ?_
        refine wS (v := (eB (decide (p < 0)))) (sv (d_bin rfl rfl (bin_lss ..))) ?_
        refine wS (v := (eB (decide (p < 0)))) (sv (d_move rfl)) ?_
        refine wS (v := (eI .i64 p)) (svG rfl rfl h12 (d_move rfl)) ?_
        refine wS (v := (eB (decide (32 < p)))) (svG rfl rfl h12 (d_bin rfl rfl (bin_gtr ..))) ?_
        refine wS (v := (eB (decide (32 < p)))) (sv (d_pickF rfl h12 rfl)) ?_
        refine wS (v := (eB (decide (32 < p)))) (sv (d_move rfl)) ?_
        refine wS (svX rfl rfl h13) ?_
        refine wS (svX rfl rfl h13) ?_
        refine wS (v := (eB true)) (sv (d_pickT rfl h13 rfl)) ?_
        refine wS (v := (eB true)) (sv (d_move rfl)) ?_
        refine wS (svX rfl rfl rfl) ?_
        refine wS (svX rfl rfl rfl) ?_
        refine wS (svX rfl rfl rfl) ?_
        refine wS (svX rfl rfl rfl) ?_
        refine wS (v := (eB true)) (sv (d_pickT rfl rfl rfl)) ?_
        refine OpsW.nil ?_
        refine Ex.then_mk ?_
        exact hG1 _ _ _ _ (Ghost.rn [0] rfl rfl (FLe.same rfl (FLe.same rfl (FLe.same rfl (FLe.same rfl FLe.nil)))) (HLe.live rfl (V.les_refl _ _) rfl HLe.nil) rfl) (J1 true hr)
      · replace hr := iteF hr h13
        rcases Bool.eq_false_or_eq_true (decide (vat < 0)) with h14 | h14
        · replace hr := iteT hr h14
          refine AB.rw ?_
          refine wS (v := (eI .i64 p)) (sv (d_move rfl)) ?_
          refine wS (v := (eB (decide (p < 0)))) (sv (d_bin rfl rfl (bin_lss ..))) ?_
          refine wS (v := (eB (decide (p < 0)))) (sv (d_move rfl)) ?_
          refine wS (v := (eI .i64 p)) (svG rfl rfl h12 (d_move rfl)) ?_
          refine wS (v := (eB (decide (32 < p)))) (svG rfl rfl h12 (d_bin rfl rfl (bin_gtr ..))) ?_
          refine wS (v := (eB (decide (32 < p)))) (sv (d_pickF rfl h12 rfl)) ?_
          refine wS (v := (eB (decide (32 < p)))) (sv (d_move rfl)) ?_
          refine wS (v := (eI .i64 vat)) (svG rfl rfl h13 (d_move rfl)) ?_
          refine wS (v := (eB (decide (vat < 0)))) (svG rfl rfl h13 (d_bin rfl rfl (bin_lss ..))) ?_
          refine wS (v := (eB (decide (vat < 0)))) (sv (d_pickF rfl h13 rfl)) ?_
          refine wS (v := (eB (decide (vat < 0)))) (sv (d_move rfl)) ?_
          refine wS (svX rfl rfl h14) ?_
          refine wS (svX rfl rfl h14) ?_
          refine wS (svX rfl rfl h14) ?_
          refine wS (svX rfl rfl h14) ?_
          refine wS (v := (eB true)) (sv (d_pickT rfl h14 rfl)) ?_
          refine OpsW.nil ?_
          refine Ex.then_mk ?_
          exact hG1 _ _ _ _ (Ghost.rn [0] rfl rfl (FLe.same rfl (FLe.same rfl (FLe.same rfl (FLe.same rfl FLe.nil)))) (HLe.live rfl (V.les_refl _ _) rfl HLe.nil) rfl) (J1 true hr)
        · replace hr := iteF hr h14
          refine AB.rw ?_
          refine wS (v := (eI .i64 p)) (sv (d_move rfl)) ?_
          refine wS (v := (eB (decide (p < 0)))) (sv (d_bin rfl rfl (bin_lss ..))) ?_
          refine wS (v := (eB (decide (p < 0)))) (sv (d_move rfl)) ?_
          refine wS (v := (eI .i64 p)) (svG rfl rfl h12 (d_move rfl)) ?_
          refine wS (v := (eB (decide (32 < p)))) (svG rfl rfl h12 (d_bin rfl rfl (bin_gtr ..))) ?_
          refine wS (v := (eB (decide (32 < p)))) (sv (d_pickF rfl h12 rfl)) ?_
          refine wS (v := (eB (decide (32 < p)))) (sv (d_move rfl)) ?_
          refine wS (v := (eI .i64 vat)) (svG rfl rfl h13 (d_move rfl)) ?_
          refine wS (v := (eB (decide (vat < 0)))) (svG rfl rfl h13 (d_bin rfl rfl (bin_lss ..))) ?_
          refine wS (v := (eB (decide (vat < 0)))) (sv (d_pickF rfl h13 rfl)) ?_
          refine wS (v := (eB (decide (vat < 0)))) (sv (d_move rfl)) ?_
          refine wS (v := (eI .i64 vat)) (svG rfl rfl h14 (d_move rfl)) ?_
          refine wS (v := (.ptr 0 1)) (svG rfl rfl h14 (d_fa rfl (fap24_1 ..))) ?_
          refine wS (v := (eI .i64 b_N)) (svG rfl rfl h14 (d_load rfl (ldP rfl (part1 ti3 rfl rfl)))) ?_
          refine wS (v := (eB (decide (b_N < vat)))) (svG rfl rfl h14 (d_bin rfl rfl (bin_gtr ..))) ?_
          refine wS (v := (eB (decide (b_N < vat)))) (sv (d_pickF rfl h14 rfl)) ?_
          refine OpsW.nil ?_
          refine Ex.then_mk ?_
          exact hG1 _ _ _ _ (Ghost.rn [0] rfl rfl (FLe.same rfl (FLe.same rfl (FLe.same rfl (FLe.same rfl FLe.nil)))) (HLe.live rfl (V.les_refl _ _) rfl HLe.nil) rfl) (J1 (decide (b_N < vat)) hr)
set_option maxRecDepth 20000 in
set_option maxHeartbeats 1000000 in
theorem ref18_ReadRice_ok (N : Nat) (b_Data : List Int) (b_N : Int) (vat : Int) (p : Int) (r : Int × Int × Int) (hr : ref18_ReadRice N b_Data b_N vat p = some r) :
    Vm.Fn Try.prog 22 [] [(.agg [(.row none 1 (b_Data.map (eI .u8))), (eI .i64 b_N)]), (eI .i64 vat), (eI .i64 p)] (.tup [(eI .u64 r.1), (eI .i64 r.2.1), (eI .i64 r.2.2)]) [] := by
  refine fn_ab Try.func22 rfl (by kernel_rfl) Try.ntmps22 (Nat.le_of_ble_eq_true rfl) rfl (fr := [(0, (.agg [(.row none 1 (b_Data.map (eI .u8))), (eI .i64 b_N)])), (1, (eI .i64 vat)), (2, (eI .i64 p))]) rfl ?_
  unfold ref18_ReadRice at hr
  refine AB.seq ?_
  refine AB.rw ?_
  refine wS (v := (.ptr 0 0)) (h' := [some ⟨24, [(.row none 1 (b_Data.map (eI .u8))), (eI .i64 b_N)]⟩]) (sv (d_box rfl rfl rfl rfl)) ?_
  refine wS (v := (eI .u64 0)) (sv (d_assign rfl)) ?_
  refine wS (v := (eI .i64 0)) (sv (d_assign rfl)) ?_
  refine wS (v := (eI .i64 0)) (sv (d_assign rfl)) ?_
  refine OpsW.nil ?_
  refine Ex.then_mk ?_
  refine AB.seq ?_
  refine AB.seq ?_
  replace hr := bnd hr; obtain ⟨x11, h_1, hr⟩ := hr
  refine AB.rw ?_
  refine wS (v := (.agg [(.row none 1 (b_Data.map (eI .u8))), (eI .i64 b_N)])) (sv (d_load rfl (ldP rfl (partN (ds := [(.row none 1 (b_Data.map (eI .u8))), (eI .i64 b_N)]) ti24 rfl (Nat.le_of_ble_eq_true rfl) rfl)))) ?_
  refine wC (v := (eB x11)) (h' := [some ⟨24, [(.row none 1 (b_Data.map (eI .u8))), (eI .i64 b_N)]⟩]) rfl (Vm.Fn.pure (ref18_Valid_ok N b_Data b_N x11 h_1) rfl rfl) ?_
  refine wS (v := (eB (!x11))) (sv (d_un rfl (un_not _ _))) ?_
  refine OpsW.nil ?_
  refine Ex.then_mk ?_
  refine AB.cnd rfl (fun h2 => ?_) (fun h2 => ?_)
  · replace hr := iteT hr h2
    refine AB.seq ?_
    refine AB.rw ?_
    refine wS (v := (eI .u64 0)) (sv (d_assign rfl)) ?_
    refine wS (v := (eI .i64 0)) (sv (d_assign rfl)) ?_
    refine wS (v := (eI .i64 6)) (sv (d_assign rfl)) ?_
    refine OpsW.nil ?_
    refine Ex.then_mk ?_
    refine AB.ret ?_
    refine Ex.then_ret_mk ?_
    obtain rfl := Option.some.inj hr
    exact done_ret (r1 := (.tup [(eI .u64 0), (eI .i64 0), (eI .i64 6)])) (res3 Try.results22 (rvT rfl) (rvT rfl) (rvT rfl)) (Ghost.rn [] rfl rfl (FLe.same rfl FLe.nil) HLe.nil rfl)
  · replace hr := iteF hr h2
    refine AB.skip ?_
    refine Ex.then_mk ?_
    refine AB.seq ?_
    refine AB.seq_g fun K1 hK1 hG1 => ?_
    have J1 : ∀ (x28 : Bool), ref18_ReadRice_J1 N b_Data b_N vat p x28 = some r → K1 (mkF 73 [(1, (eI .i64 vat)), (2, (eI .i64 p)), (3, (.ptr 0 0)), (28, (eB x28))]) [some ⟨24, [(.row none 1 (b_Data.map (eI .u8))), (eI .i64 b_N)]⟩] := by
      intro x28 hr
      unfold ref18_ReadRice_J1 at hr
      refine hK1 _ _ ?_
      refine AB.cnd rfl (fun h3 => ?_) (fun h3 => ?_)
      · replace hr := iteT hr h3
        refine AB.seq ?_
        refine AB.rw ?_
        refine wS (v := (eI .u64 0)) (sv (d_assign rfl)) ?_
        refine wS (v := (eI .i64 0)) (sv (d_assign rfl)) ?_
        refine wS (v := (eI .i64 5)) (sv (d_assign rfl)) ?_
        refine OpsW.nil ?_
        refine Ex.then_mk ?_
        refine AB.ret ?_
        refine Ex.then_ret_mk ?_
        obtain rfl := Option.some.inj hr
        exact done_ret (r1 := (.tup [(eI .u64 0), (eI .i64 0), (eI .i64 5)])) (res3 Try.results22 (rvT rfl) (rvT rfl) (rvT rfl)) (Ghost.rn [] rfl rfl (FLe.same rfl FLe.nil) HLe.nil rfl)
      · replace hr := iteF hr h3
        refine AB.skip ?_
        refine Ex.then_mk ?_
        refine AB.seq ?_
        refine AB.rw ?_
        refine wS (v := (eI .i64 0)) (sv (d_assign rfl)) ?_
        refine OpsW.nil ?_
        refine Ex.then_mk ?_
        refine AB.seq_g fun K2 hK2 hG2 => ?_
        have J2 : ∀ (k : Int), ref18_ReadRice_J2 N b_Data b_N vat p k = some r → K2 (mkF 73 [(1, (eI .i64 vat)), (2, (eI .i64 p)), (3, (.ptr 0 0)), (9, (eI .i64 k))]) [some ⟨24, [(.row none 1 (b_Data.map (eI .u8))), (eI .i64 b_N)]⟩] := by
          intro k hr
          unfold ref18_ReadRice_J2 at hr
          refine hK2 _ _ ?_
          refine AB.seq ?_
          refine AB.seq ?_
          refine AB.rw ?_
          refine wS (v := (.ptr 0 1)) (sv (d_fa rfl (fap24_1 ..))) ?_
          refine wS (v := (eI .i64 b_N)) (sv (d_load rfl (ldP rfl (part1 ti3 rfl rfl)))) ?_
          refine wS (v := (eI .i64 vat)) (sv (d_move rfl)) ?_
          refine wS (v := (eI .i64 (IntKind.i64.wrap (b_N - vat)))) (sv (d_bin rfl rfl (bin_sub ..))) ?_
          refine wS (v := (eI .i64 k)) (sv (d_move rfl)) ?_
          refine wS (v := (eI .i64 (IntKind.i64.wrap ((IntKind.i64.wrap (b_N - vat)) - k)))) (sv (d_bin rfl rfl (bin_sub ..))) ?_
          refine wS (v := (eI .i64 p)) (sv (d_move rfl)) ?_
          refine wS (v := (eI .i64 (IntKind.i64.wrap (1 + p)))) (sv (d_bin rfl rfl (bin_add ..))) ?_
          refine wS (v := (eB (decide ((IntKind.i64.wrap ((IntKind.i64.wrap (b_N - vat)) - k)) < (IntKind.i64.wrap (1 + p)))))) (sv (d_bin rfl rfl (bin_lss ..))) ?_
          refine OpsW.nil ?_
          refine Ex.then_mk ?_
          refine AB.cnd rfl (fun h4 => ?_) (fun h4 => ?_)
          · replace hr := iteT hr h4
            refine AB.seq ?_
            refine AB.rw ?_
            refine wS (v := (eI .u64 0)) (sv (d_assign rfl)) ?_
            refine wS (v := (eI .i64 0)) (sv (d_assign rfl)) ?_
            refine wS (v := (eI .i64 1)) (sv (d_assign rfl)) ?_
            refine OpsW.nil ?_
            refine Ex.then_mk ?_
            refine AB.ret ?_
            refine Ex.then_ret_mk ?_
            obtain rfl := Option.some.inj hr
            exact done_ret (r1 := (.tup [(eI .u64 0), (eI .i64 0), (eI .i64 1)])) (res3 Try.results22 (rvT rfl) (rvT rfl) (rvT rfl)) (Ghost.rn [] rfl rfl (FLe.same rfl FLe.nil) HLe.nil rfl)
          · replace hr := iteF hr h4
            refine AB.skip ?_
            refine Ex.then_mk ?_
            refine AB.seq ?_
            replace hr := bnd hr; obtain ⟨x58, h_5, hr⟩ := hr
            replace hr := bnd hr; obtain ⟨x65, h_6, hr⟩ := hr
            have hc7 : Vm.Fn Try.prog 31 [some ⟨24, [(.row none 1 (b_Data.map (eI .u8))), (eI .i64 b_N)]⟩] [(.agg [(.row none 1 (b_Data.map (eI .u8))), (eI .i64 b_N)]), (eI .i64 (IntKind.i64.wrap ((IntKind.i64.wrap (vat + k)) + 1))), (eI .i64 p)] (eI .u64 x65) [some ⟨24, [(.row none 1 (b_Data.map (eI .u8))), (eI .i64 b_N)]⟩] := (Vm.Fn.pure (ref18_number_ok N b_Data b_N (IntKind.i64.wrap ((IntKind.i64.wrap (vat + k)) + 1)) p x65 h_6) rfl rfl)
            refine AB.rg (Env.one mixed hc7 allF (fun _ _ => rfl)) (fun _ => by show drawOk allF _ = true; decide +kernel) ?_
            refine tS (v := (eI .i64 k)) (sv (d_move rfl)) ?_
            refine tS (v := (eI .u64 (IntKind.u64.wrap k))) (sv (d_conv rfl (conv_int _ ⟨_, ti3⟩ ti25 rfl))) ?_
            refine tS (v := (eI .i64 p)) (sv (d_move rfl)) ?_
            refine tS (v := (eI .u64 x58)) (sv (d_bin rfl rfl (bin_shl' _ _ _ _ h_5))) ?_
            refine tS (v := (.agg [(.row none 1 (b_Data.map (eI .u8))), (eI .i64 b_N)])) (sv (d_load rfl (ldP rfl (partN (ds := [(.row none 1 (b_Data.map (eI .u8))), (eI .i64 b_N)]) ti24 rfl (Nat.le_of_ble_eq_true rfl) rfl)))) ?_
            refine tS (v := (eI .i64 vat)) (sv (d_move rfl)) ?_
            refine tS (v := (eI .i64 k)) (sv (d_move rfl)) ?_
            refine tS (v := (eI .i64 (IntKind.i64.wrap (vat + k)))) (sv (d_bin rfl rfl (bin_add ..))) ?_
            refine tS (v := (eI .i64 (IntKind.i64.wrap ((IntKind.i64.wrap (vat + k)) + 1)))) (sv (d_bin rfl rfl (bin_add ..))) ?_
            refine tS (v := (eI .i64 p)) (sv (d_move rfl)) ?_
            refine tS (v := (eI .u64 x65)) (h' := [some ⟨24, [(.row none 1 (b_Data.map (eI .u8))), (eI .i64 b_N)]⟩]) (sv (d_call rfl Env.one_O)) ?_
            refine tS (v := (eI .u64 (bits .or .u64 x58 x65))) (sv (d_bin rfl rfl (bin_or ..))) ?_
            refine tS (v := (eI .i64 vat)) (sv (d_move rfl)) ?_
            refine tS (v := (eI .i64 k)) (sv (d_move rfl)) ?_
            refine tS (v := (eI .i64 (IntKind.i64.wrap (vat + k)))) (sv (d_bin rfl rfl (bin_add ..))) ?_
            refine tS (v := (eI .i64 (IntKind.i64.wrap ((IntKind.i64.wrap (vat + k)) + 1)))) (sv (d_bin rfl rfl (bin_add ..))) ?_
            refine tS (v := (eI .i64 p)) (sv (d_move rfl)) ?_
            refine tS (v := (eI .i64 (IntKind.i64.wrap ((IntKind.i64.wrap ((IntKind.i64.wrap (vat + k)) + 1)) + p)))) (sv (d_bin rfl rfl (bin_add ..))) ?_
            refine tS (v := (eI .u64 (bits .or .u64 x58 x65))) (sv (d_assign rfl)) ?_
            refine tS (v := (eI .i64 (IntKind.i64.wrap ((IntKind.i64.wrap ((IntKind.i64.wrap (vat + k)) + 1)) + p)))) (sv (d_assign rfl)) ?_
            refine tS (v := (eI .i64 0)) (sv (d_assign rfl)) ?_
            refine OpsTo.nil ?_
            refine Ex.then_mk ?_
            refine AB.ret ?_
            obtain rfl := Option.some.inj hr
            exact done_ret (r1 := (.tup [(eI .u64 (bits .or .u64 x58 x65)), (eI .i64 (IntKind.i64.wrap ((IntKind.i64.wrap ((IntKind.i64.wrap (vat + k)) + 1)) + p))), (eI .i64 0)])) (res3 Try.results22 (rvT rfl) (rvT rfl) (rvT rfl)) (Ghost.rn [] rfl rfl (FLe.same rfl FLe.nil) HLe.nil rfl)
        replace hr := bnd hr; obtain ⟨res3, hL3, hr⟩ := hr
        refine AB.block ?_
        refine AB.loopN (fun m s h => ∃ (k_1 : Int), ref18_ReadRice_L3 N b_Data b_N vat p m k_1 = some res3 ∧ Ghost 0 s h (mkF 73 [(1, (eI .i64 vat)), (2, (eI .i64 p)), (3, (.ptr 0 0)), (9, (eI .i64 k_1))]) [some ⟨24, [(.row none 1 (b_Data.map (eI .u8))), (eI .i64 b_N)]⟩]) (n := N) ⟨0, hL3, (Ghost.rn [0] rfl rfl (FLe.same rfl (FLe.same rfl (FLe.same rfl (FLe.same rfl FLe.nil)))) (HLe.live rfl (V.les_refl _ _) rfl HLe.nil) rfl)⟩ (by rintro s h ⟨_, h0, _⟩; simp [ref18_ReadRice_L3] at h0) ?_
        rintro m3 s h ⟨k_1, hr3, hg⟩
        refine AB.ghost hg ?_
        clear hg hL3
        rw [ref18_ReadRice_L3] at hr3
        refine AB.seq ?_
        refine AB.seq_g fun K4 hK4 hG4 => ?_
        have J4 : ∀ (x41 : Bool), ref18_ReadRice_J4 N b_Data b_N vat p k_1 (ref18_ReadRice_L3 N b_Data b_N vat p m3) x41 = some res3 → K4 (mkF 73 [(1, (eI .i64 vat)), (2, (eI .i64 p)), (3, (.ptr 0 0)), (9, (eI .i64 k_1)), (41, (eB x41))]) [some ⟨24, [(.row none 1 (b_Data.map (eI .u8))), (eI .i64 b_N)]⟩] := by
          intro x41 hr3
          unfold ref18_ReadRice_J4 at hr3
          refine hK4 _ _ ?_
          refine AB.cnd rfl (fun h8 => ?_) (fun h8 => ?_)
          · replace hr3 := iteT hr3 h8
            refine AB.skip ?_
            refine Ex.then_mk ?_
            refine AB.block ?_
            refine AB.seq ?_
            refine AB.rw ?_
            refine wS (v := (eI .i64 k_1)) (sv (d_move rfl)) ?_
            refine wS (v := (eI .i64 (IntKind.i64.wrap (k_1 + 1)))) (sv (d_bin rfl rfl (bin_add ..))) ?_
            refine wS (v := (eI .i64 (IntKind.i64.wrap (k_1 + 1)))) (sv (d_assign rfl)) ?_
            refine OpsW.nil ?_
            refine Ex.then_mk ?_
            refine AB.seq ?_
            refine AB.rw ?_
            refine wS (v := (eI .i64 (IntKind.i64.wrap (k_1 + 1)))) (sv (d_move rfl)) ?_
            refine wS (v := (eB (decide (65536 < (IntKind.i64.wrap (k_1 + 1)))))) (sv (d_bin rfl rfl (bin_gtr ..))) ?_
            refine OpsW.nil ?_
            refine Ex.then_mk ?_
            refine AB.cnd rfl (fun h9 => ?_) (fun h9 => ?_)
            · replace hr3 := iteT hr3 h9
              refine AB.seq ?_
              refine AB.rw ?_
              refine wS (v := (eI .u64 0)) (sv (d_assign rfl)) ?_
              refine wS (v := (eI .i64 0)) (sv (d_assign rfl)) ?_
              refine wS (v := (eI .i64 4)) (sv (d_assign rfl)) ?_
              refine OpsW.nil ?_
              refine Ex.then_mk ?_
              refine AB.ret ?_
              refine Ex.inBlock_ret_mk ?_
              refine Ex.then_ret_mk ?_
              refine Ex.inBlock_ret_mk ?_
              refine Ex.then_ret_mk ?_
              obtain rfl := Option.some.inj hr3
              obtain rfl := Option.some.inj hr
              exact done_ret (r1 := (.tup [(eI .u64 0), (eI .i64 0), (eI .i64 4)])) (res3 Try.results22 (rvT rfl) (rvT rfl) (rvT rfl)) (Ghost.rn [] rfl rfl (FLe.same rfl FLe.nil) HLe.nil rfl)
            · replace hr3 := iteF hr3 h9
              refine AB.skip ?_
              refine Ex.inBlock_mk ?_
              refine Ex.then_mk ?_
              exact ⟨IntKind.i64.wrap (k_1 + 1), hr3, (Ghost.rn [0] rfl rfl (FLe.same rfl (FLe.same rfl (FLe.same rfl (FLe.same rfl FLe.nil)))) (HLe.live rfl (V.les_refl _ _) rfl HLe.nil) rfl)⟩
          · replace hr3 := iteF hr3 h8
            refine AB.exit ?_
            refine Ex.then_exit_mk ?_
            refine Ex.then_exit_mk ?_
            refine Ex.inBlock_same_mk ?_
            obtain rfl := Option.some.inj hr3
            refine Ex.then_mk ?_
            exact hG2 _ _ _ _ (Ghost.rn [0] rfl rfl (FLe.same rfl (FLe.same rfl (FLe.same rfl (FLe.same rfl FLe.nil)))) (HLe.live rfl (V.les_refl _ _) rfl HLe.nil) rfl) (J2 k_1 hr)
        rcases Bool.eq_false_or_eq_true (decide ((IntKind.i64.wrap (vat + k_1)) < b_N)) with h10 | h10
        · replace hr3 := iteT hr3 h10
          replace hr3 := bnd hr3; obtain ⟨x40, h_11, hr3⟩ := hr3
          refine AB.rw ?_
          refine wS (v := (eI .i64 vat)) (sv (d_move rfl)) ?_
          refine wS (v := (eI .i64 k_1)) (sv (d_move rfl)) ?_
          refine wS (v := (eI .i64 (IntKind.i64.wrap (vat + k_1)))) (sv (d_bin rfl rfl (bin_add ..))) ?_
          refine wS (v := (.ptr 0 1)) (sv (d_fa rfl (fap24_1 ..))) ?_
          refine wS (v := (eI .i64 b_N)) (sv (d_load rfl (ldP rfl (part1 ti3 rfl rfl)))) ?_
          refine wS (v := (eB (decide ((IntKind.i64.wrap (vat + k_1)) < b_N)))) (sv (d_bin rfl rfl (bin_lss ..))) ?_
          refine wS (v := (eB (decide ((IntKind.i64.wrap (vat + k_1)) < b_N)))) (sv (d_move rfl)) ?_
          refine wS (v := (.agg [(.row none 1 (b_Data.map (eI .u8))), (eI .i64 b_N)])) (svG rfl rfl h10 (d_load rfl (ldP rfl (partN (ds := [(.row none 1 (b_Data.map (eI .u8))), (eI .i64 b_N)]) ti24 rfl (Nat.le_of_ble_eq_true rfl) rfl)))) ?_
          refine wS (v := (eI .i64 vat)) (svG rfl rfl h10 (d_move rfl)) ?_
          refine wS (v := (eI .i64 k_1)) (svG rfl rfl h10 (d_move rfl)) ?_
          refine wS (v := (eI .i64 (IntKind.i64.wrap (vat + k_1)))) (svG rfl rfl h10 (d_bin rfl rfl (bin_add ..))) ?_
          refine wCG (v := (eB x40)) (h' := [some ⟨24, [(.row none 1 (b_Data.map (eI .u8))), (eI .i64 b_N)]⟩]) rfl rfl h10 rfl (Vm.Fn.pure (ref18_bit_ok N b_Data b_N (IntKind.i64.wrap (vat + k_1)) x40 h_11) rfl rfl) ?_
          refine wS (v := (eB x40)) (sv (d_pickT rfl h10 rfl)) ?_
          refine OpsW.nil ?_
          refine Ex.then_mk ?_
          exact hG4 _ _ _ _ (Ghost.rn [0] rfl rfl (FLe.same rfl (FLe.same rfl (FLe.same rfl (FLe.same rfl (FLe.same rfl FLe.nil))))) (HLe.live rfl (V.les_refl _ _) rfl HLe.nil) rfl) (J4 x40 hr3)
        · replace hr3 := iteF hr3 h10
          refine AB.rw ?_
          refine wS (v := (eI .i64 vat)) (sv (d_move rfl)) ?_
          refine wS (v := (eI .i64 k_1)) (sv (d_move rfl)) ?_
          refine wS (v := (eI .i64 (IntKind.i64.wrap (vat + k_1)))) (sv (d_bin rfl rfl (bin_add ..))) ?_
          refine wS (v := (.ptr 0 1)) (sv (d_fa rfl (fap24_1 ..))) ?_
          refine wS (v := (eI .i64 b_N)) (sv (d_load rfl (ldP rfl (part1 ti3 rfl rfl)))) ?_
          refine wS (v := (eB (decide ((IntKind.i64.wrap (vat + k_1)) < b_N)))) (sv (d_bin rfl rfl (bin_lss ..))) ?_
          refine wS (v := (eB (decide ((IntKind.i64.wrap (vat + k_1)) < b_N)))) (sv (d_move rfl)) ?_
          refine wS (svX rfl rfl h10) ?_
          refine wS (svX rfl rfl h10) ?_
          refine wS (svX rfl rfl h10) ?_
          refine wS (svX rfl rfl h10) ?_
          refine wS (svX rfl rfl h10) ?_
          refine wS (v := (eB false)) (sv (d_pickF rfl h10 rfl)) ?_
          refine OpsW.nil ?_
          refine Ex.then_mk ?_
          exact hG4 _ _ _ _ (Ghost.rn [0] rfl rfl (FLe.same rfl (FLe.same rfl (FLe.same rfl (FLe.same rfl (FLe.same rfl FLe.nil))))) (HLe.live rfl (V.les_refl _ _) rfl HLe.nil) rfl) (J4 false hr3)
    rcases Bool.eq_false_or_eq_true (decide (p < 0)) with h12 | h12
    · replace hr := iteT hr h12
      refine AB.rw ?_
      refine wS (v := (eI .i64 p)) (sv (d_move rfl)) ?_
      refine wS (v := (eB (decide (p < 0)))) (sv (d_bin rfl rfl (bin_lss ..))) ?_
      refine wS (v := (eB (decide (p < 0)))) (sv (d_move rfl)) ?_
      refine wS (svX rfl rfl h12) ?_
      refine wS (svX rfl rfl h12) ?_
      refine wS (v := (eB true)) (sv (d_pickT rfl h12 rfl)) ?_
      refine wS (v := (eB true)) (sv (d_move rfl)) ?_
      refine wS (svX rfl rfl rfl) ?_
      refine wS (svX rfl rfl rfl) ?_
      refine wS (v := (eB true)) (sv (d_pickT rfl rfl rfl)) ?_
      refine wS (v := (eB true)) (sv (d_move rfl)) ?_
      refine wS (svX rfl rfl rfl) ?_
      refine wS (svX rfl rfl rfl) ?_
      refine wS (svX rfl rfl rfl) ?_
      refine wS (svX rfl rfl rfl) ?_
      refine wS (v := (eB true)) (sv (d_pickT rfl rfl rfl)) ?_
      refine OpsW.nil ?_
      refine Ex.then_mk ?_
      exact hG1 _ _ _ _ (Ghost.rn [0] rfl rfl (FLe.same rfl (FLe.same rfl (FLe.same rfl (FLe.same rfl FLe.nil)))) (HLe.live rfl (V.les_refl _ _) rfl HLe.nil) rfl) (J1 true hr)
    · replace hr := iteF hr h12
      rcases Bool.eq_false_or_eq_true (decide (32 < p)) with h13 | h13
      · replace hr := iteT hr h13
        refine AB.rw ?_
        refine wS (v := (eI .i64 p)) (sv (d_move rfl)) ?_
        refine wS (v := (eB (decide (p < 0)))) (sv (d_bin rfl rfl (bin_lss ..))) ?_
        refine wS (v := (eB (decide (p < 0)))) (sv (d_move rfl)) ?_
        refine wS (v := (eI .i64 p)) (svG rfl rfl h12 (d_move rfl)) ?_
        refine wS (v := (eB (decide (32 < p)))) (svG rfl rfl h12 (d_bin rfl rfl (bin_gtr ..))) ?_
        refine wS (v := (eB (decide (32 < p)))) (sv (d_pickF rfl h12 rfl)) ?_
        refine wS (v := (eB (decide (32 < p)))) (sv (d_move rfl)) ?_
        refine wS (svX rfl rfl h13) ?_
        refine wS (svX rfl rfl h13) ?_
        refine wS (v := (eB true)) (sv (d_pickT rfl h13 rfl)) ?_
        refine wS (v := (eB true)) (sv (d_move rfl)) ?_
        refine wS (svX rfl rfl rfl) ?_
        refine wS (svX rfl rfl rfl) ?_
        refine wS (svX rfl rfl rfl) ?_
        refine wS (svX rfl rfl rfl) ?_
        refine wS (v := (eB true)) (sv (d_pickT rfl rfl rfl)) ?_
        refine OpsW.nil ?_
        refine Ex.then_mk ?_
        exact hG1 _ _ _ _ (Ghost.rn [0] rfl rfl (FLe.same rfl (FLe.same rfl (FLe.same rfl (FLe.same rfl FLe.nil)))) (HLe.live rfl (V.les_refl _ _) rfl HLe.nil) rfl) (J1 true hr)
      · replace hr := iteF hr h13
        rcases Bool.eq_false_or_eq_true (decide (vat < 0)) with h14 | h14
        · replace hr := iteT hr h14
          refine AB.rw ?_
          refine wS (v := (eI .i64 p)) (sv (d_move rfl)) ?_
          refine wS (v := (eB (decide (p < 0)))) (sv (d_bin rfl rfl (bin_lss ..))) ?_
          refine wS (v := (eB (decide (p < 0)))) (sv (d_move rfl)) ?_
          refine wS (v := (eI .i64 p)) (svG rfl rfl h12 (d_move rfl)) ?_
          refine wS (v := (eB (decide (32 < p)))) (svG rfl rfl h12 (d_bin rfl rfl (bin_gtr ..))) ?_
          refine wS (v := (eB (decide (32 < p)))) (sv (d_pickF rfl h12 rfl)) ?_
          refine wS (v := (eB (decide (32 < p)))) (sv (d_move rfl)) ?_
          refine wS (v := (eI .i64 vat)) (svG rfl rfl h13 (d_move rfl)) ?_
          refine wS (v := (eB (decide (vat < 0)))) (svG rfl rfl h13 (d_bin rfl rfl (bin_lss ..))) ?_
          refine wS (v := (eB (decide (vat < 0)))) (sv (d_pickF rfl h13 rfl)) ?_
          refine wS (v := (eB (decide (vat < 0)))) (sv (d_move rfl)) ?_
          refine wS (svX rfl rfl h14) ?_
          refine wS (svX rfl rfl h14) ?_
          refine wS (svX rfl rfl h14) ?_
          refine wS (svX rfl rfl h14) ?_
          refine wS (v := (eB true)) (sv (d_pickT rfl h14 rfl)) ?_
          refine OpsW.nil ?_
          refine Ex.then_mk ?_
          exact hG1 _ _ _ _ (Ghost.rn [0] rfl rfl (FLe.same rfl (FLe.same rfl (FLe.same rfl (FLe.same rfl FLe.nil)))) (HLe.live rfl (V.les_refl _ _) rfl HLe.nil) rfl) (J1 true hr)
        · replace hr := iteF hr h14
          refine AB.rw ?_
          refine wS (v := (eI .i64 p)) (sv (d_move rfl)) ?_
          refine wS (v := (eB (decide (p < 0)))) (sv (d_bin rfl rfl (bin_lss ..))) ?_
          refine wS (v := (eB (decide (p < 0)))) (sv (d_move rfl)) ?_
          refine wS (v := (eI .i64 p)) (svG rfl rfl h12 (d_move rfl)) ?_
          refine wS (v := (eB (decide (32 < p)))) (svG rfl rfl h12 (d_bin rfl rfl (bin_gtr ..))) ?_
          refine wS (v := (eB (decide (32 < p)))) (sv (d_pickF rfl h12 rfl)) ?_
          refine wS (v := (eB (decide (32 < p)))) (sv (d_move rfl)) ?_
          refine wS (v := (eI .i64 vat)) (svG rfl rfl h13 (d_move rfl)) ?_
          refine wS (v := (eB (decide (vat < 0)))) (svG rfl rfl h13 (d_bin rfl rfl (bin_lss ..))) ?_
          refine wS (v := (eB (decide (vat < 0)))) (sv (d_pickF rfl h13 rfl)) ?_
          refine wS (v := (eB (decide (vat < 0)))) (sv (d_move rfl)) ?_
          refine wS (v := (eI .i64 vat)) (svG rfl rfl h14 (d_move rfl)) ?_
          refine wS (v := (.ptr 0 1)) (svG rfl rfl h14 (d_fa rfl (fap24_1 ..))) ?_
          refine wS (v := (eI .i64 b_N)) (svG rfl rfl h14 (d_load rfl (ldP rfl (part1 ti3 rfl rfl)))) ?_
          refine wS (v := (eB (decide (b_N < vat)))) (svG rfl rfl h14 (d_bin rfl rfl (bin_gtr ..))) ?_
          refine wS (v := (eB (decide (b_N < vat)))) (sv (d_pickF rfl h14 rfl)) ?_
          refine OpsW.nil ?_
          refine Ex.then_mk ?_
          exact hG1 _ _ _ _ (Ghost.rn [0] rfl rfl (FLe.same rfl (FLe.same rfl (FLe.same rfl (FLe.same rfl FLe.nil)))) (HLe.live rfl (V.les_refl _ _) rfl HLe.nil) rfl) (J1 (decide (b_N < vat)) hr)
set_option maxRecDepth 20000 in
set_option maxHeartbeats 1000000 in
theorem law18_BitsReadsRice_ok (N : Nat) (b_Data : List Int) (b_N : Int) (vat : Int) (p : Int) (r : Bool) (hr : law18_BitsReadsRice N b_Data b_N vat p = some r) :
    Vm.Fn Try.prog 7 [] [(.agg [(.row none 1 (b_Data.map (eI .u8))), (eI .i64 b_N)]), (eI .i64 vat), (eI .i64 p)] (eB r) [] := by
  refine fn_ab Try.func7 rfl (by kernel_rfl) Try.ntmps7 (Nat.le_of_ble_eq_true rfl) rfl (fr := [(0, (.agg [(.row none 1 (b_Data.map (eI .u8))), (eI .i64 b_N)])), (1, (eI .i64 vat)), (2, (eI .i64 p))]) rfl ?_
  unfold law18_BitsReadsRice at hr
  refine AB.seq ?_
  refine AB.rw ?_
  refine wS (v := (.ptr 0 0)) (h' := [some ⟨24, [(.row none 1 (b_Data.map (eI .u8))), (eI .i64 b_N)]⟩]) (sv (d_box rfl rfl rfl rfl)) ?_
  refine wS (v := (eB false)) (sv (d_assign rfl)) ?_
  refine OpsW.nil ?_
  refine Ex.then_mk ?_
  refine AB.seq ?_
  refine AB.seq ?_
  replace hr := bnd hr; obtain ⟨x13, h_1, hr⟩ := hr
  refine AB.rw ?_
  refine wC (v := (eB x13)) (h' := [some ⟨24, [(.row none 1 (b_Data.map (eI .u8))), (eI .i64 b_N)]⟩]) rfl (Vm.Fn.pure (law18_sane_ok N x13 h_1) rfl rfl) ?_
  refine wS (v := (eB (!x13))) (sv (d_un rfl (un_not _ _))) ?_
  refine OpsW.nil ?_
  refine Ex.then_mk ?_
  refine AB.cnd rfl (fun h2 => ?_) (fun h2 => ?_)
  · replace hr := iteT hr h2
    refine AB.seq ?_
    refine AB.rw ?_
    refine wS (v := (eB false)) (sv (d_assign rfl)) ?_
    refine OpsW.nil ?_
    refine Ex.then_mk ?_
    refine AB.ret ?_
    refine Ex.then_ret_mk ?_
    obtain rfl := Option.some.inj hr
    exact done_ret (r1 := (eB false)) (res1 Try.results7 (rvT rfl)) (Ghost.rn [] rfl rfl (FLe.same rfl FLe.nil) HLe.nil rfl)
  · replace hr := iteF hr h2
    refine AB.skip ?_
    refine Ex.then_mk ?_
    refine AB.seq ?_
    refine AB.seq ?_
    replace hr := bnd hr; obtain ⟨x16, h_3, hr⟩ := hr
    refine AB.rw ?_
    refine wS (v := (.agg [(.row none 1 (b_Data.map (eI .u8))), (eI .i64 b_N)])) (sv (d_load rfl (ldP rfl (partN (ds := [(.row none 1 (b_Data.map (eI .u8))), (eI .i64 b_N)]) ti24 rfl (Nat.le_of_ble_eq_true rfl) rfl)))) ?_
    refine wC (v := (eB x16)) (h' := [some ⟨24, [(.row none 1 (b_Data.map (eI .u8))), (eI .i64 b_N)]⟩]) rfl (Vm.Fn.pure (law18_kept_ok N b_Data b_N x16 h_3) rfl rfl) ?_
    refine wS (v := (eB (!x16))) (sv (d_un rfl (un_not _ _))) ?_
    refine OpsW.nil ?_
    refine Ex.then_mk ?_
    refine AB.cnd rfl (fun h4 => ?_) (fun h4 => ?_)
    · replace hr := iteT hr h4
      refine AB.seq ?_
      refine AB.rw ?_
      refine wS (v := (eB true)) (sv (d_assign rfl)) ?_
      refine OpsW.nil ?_
      refine Ex.then_mk ?_
      refine AB.ret ?_
      refine Ex.then_ret_mk ?_
      obtain rfl := Option.some.inj hr
      exact done_ret (r1 := (eB true)) (res1 Try.results7 (rvT rfl)) (Ghost.rn [] rfl rfl (FLe.same rfl FLe.nil) HLe.nil rfl)
    · replace hr := iteF hr h4
      refine AB.skip ?_
      refine Ex.then_mk ?_
      refine AB.seq ?_
      replace hr := bnd hr; obtain ⟨x22, h_5, hr⟩ := hr
      refine AB.rw ?_
      refine wS (v := (.agg [(.row none 1 (b_Data.map (eI .u8))), (eI .i64 b_N)])) (sv (d_load rfl (ldP rfl (partN (ds := [(.row none 1 (b_Data.map (eI .u8))), (eI .i64 b_N)]) ti24 rfl (Nat.le_of_ble_eq_true rfl) rfl)))) ?_
      refine wS (v := (eI .i64 vat)) (sv (d_move rfl)) ?_
      refine wS (v := (eI .i64 p)) (sv (d_move rfl)) ?_
      refine wC (v := (.tup [(eI .u64 x22.1), (eI .i64 x22.2.1), (eI .i64 x22.2.2)])) (h' := [some ⟨24, [(.row none 1 (b_Data.map (eI .u8))), (eI .i64 b_N)]⟩]) rfl (Vm.Fn.pure (bits_ReadRice_ok N b_Data b_N vat p x22 h_5) rfl rfl) ?_
      refine wS (v := (.tup [(eI .u64 x22.1), (eI .i64 x22.2.1), (eI .i64 x22.2.2)])) (sv (d_move rfl)) ?_
      refine wS (v := (eI .u64 x22.1)) (sv (d_ext rfl rfl)) ?_
      refine wS (v := (eI .i64 x22.2.1)) (sv (d_ext rfl rfl)) ?_
      refine wS (v := (eI .i64 x22.2.2)) (sv (d_ext rfl rfl)) ?_
      refine wS (v := (eI .u64 x22.1)) (sv (d_assign rfl)) ?_
      refine wS (v := (eI .i64 x22.2.1)) (sv (d_assign rfl)) ?_
      refine wS (v := (eI .i64 x22.2.2)) (sv (d_assign rfl)) ?_
      refine OpsW.nil ?_
      refine Ex.then_mk ?_
      refine AB.seq ?_
      replace hr := bnd hr; obtain ⟨x30, h_6, hr⟩ := hr
      refine AB.rw ?_
      refine wS (v := (.agg [(.row none 1 (b_Data.map (eI .u8))), (eI .i64 b_N)])) (sv (d_load rfl (ldP rfl (partN (ds := [(.row none 1 (b_Data.map (eI .u8))), (eI .i64 b_N)]) ti24 rfl (Nat.le_of_ble_eq_true rfl) rfl)))) ?_
      refine wS (v := (eI .i64 vat)) (sv (d_move rfl)) ?_
      refine wS (v := (eI .i64 p)) (sv (d_move rfl)) ?_
      refine wC (v := (.tup [(eI .u64 x30.1), (eI .i64 x30.2.1), (eI .i64 x30.2.2)])) (h' := [some ⟨24, [(.row none 1 (b_Data.map (eI .u8))), (eI .i64 b_N)]⟩]) rfl (Vm.Fn.pure (ref18_ReadRice_ok N b_Data b_N vat p x30 h_6) rfl rfl) ?_
      refine wS (v := (.tup [(eI .u64 x30.1), (eI .i64 x30.2.1), (eI .i64 x30.2.2)])) (sv (d_move rfl)) ?_
      refine wS (v := (eI .u64 x30.1)) (sv (d_ext rfl rfl)) ?_
      refine wS (v := (eI .i64 x30.2.1)) (sv (d_ext rfl rfl)) ?_
      refine wS (v := (eI .i64 x30.2.2)) (sv (d_ext rfl rfl)) ?_
      refine wS (v := (eI .u64 x30.1)) (sv (d_assign rfl)) ?_
      refine wS (v := (eI .i64 x30.2.1)) (sv (d_assign rfl)) ?_
      refine wS (v := (eI .i64 x30.2.2)) (sv (d_assign rfl)) ?_
      refine OpsW.nil ?_
      refine Ex.then_mk ?_
      refine AB.seq_g fun K1 hK1 hG1 => ?_
      have J1 : ∀ (x6 : Bool), law18_BitsReadsRice_J1 N x6 = some r → K1 (mkF 47 [(6, (eB x6))]) [] := by
        intro x6 hr
        unfold law18_BitsReadsRice_J1 at hr
        refine hK1 _ _ ?_
        refine AB.ret ?_
        obtain rfl := Option.some.inj hr
        exact done_ret (r1 := (eB x6)) (res1 Try.results7 (rvT rfl)) (Ghost.rn [] rfl rfl (FLe.same rfl FLe.nil) HLe.nil rfl)
      rcases Bool.eq_false_or_eq_true (x22.1 == x30.1) with h7 | h7
      · replace hr := iteT hr h7
        rcases Bool.eq_false_or_eq_true (x22.2.1 == x30.2.1) with h8 | h8
        · replace hr := iteT hr h8
          refine AB.rw ?_
          refine wS (v := (eI .u64 x22.1)) (sv (d_move rfl)) ?_
          refine wS (v := (eI .u64 x30.1)) (sv (d_move rfl)) ?_
          refine wS (v := (eB (x22.1 == x30.1))) (sv (d_bin rfl rfl (bin_eql ..))) ?_
          refine wS (v := (eB (x22.1 == x30.1))) (sv (d_move rfl)) ?_
          refine wS (v := (eI .i64 x22.2.1)) (svG rfl rfl h7 (d_move rfl)) ?_
          refine wS (v := (eI .i64 x30.2.1)) (svG rfl rfl h7 (d_move rfl)) ?_
          refine wS (v := (eB (x22.2.1 == x30.2.1))) (svG rfl rfl h7 (d_bin rfl rfl (bin_eql ..))) ?_
          refine wS (v := (eB (x22.2.1 == x30.2.1))) (sv (d_pickT rfl h7 rfl)) ?_
          refine wS (v := (eB (x22.2.1 == x30.2.1))) (sv (d_move rfl)) ?_
          refine wS (v := (eI .i64 x22.2.2)) (svG rfl rfl h8 (d_move rfl)) ?_
          refine wS (v := (eI .i64 x30.2.2)) (svG rfl rfl h8 (d_move rfl)) ?_
          refine wS (v := (eB (x22.2.2 == x30.2.2))) (svG rfl rfl h8 (d_bin rfl rfl (bin_eql ..))) ?_
          refine wS (v := (eB (x22.2.2 == x30.2.2))) (sv (d_pickT rfl h8 rfl)) ?_
          refine wS (v := (eB (x22.2.2 == x30.2.2))) (sv (d_assign rfl)) ?_
          refine OpsW.nil ?_
          refine Ex.then_mk ?_
          exact hG1 _ _ _ _ (Ghost.rn [] rfl rfl (FLe.same rfl FLe.nil) HLe.nil rfl) (J1 (x22.2.2 == x30.2.2) hr)
        · replace hr := iteF hr h8
          refine AB.rw ?_
          refine wS (v := (eI .u64 x22.1)) (sv (d_move rfl)) ?_
          refine wS (v := (eI .u64 x30.1)) (sv (d_move rfl)) ?_
          refine wS (v := (eB (x22.1 == x30.1))) (sv (d_bin rfl rfl (bin_eql ..))) ?_
          refine wS (v := (eB (x22.1 == x30.1))) (sv (d_move rfl)) ?_
          refine wS (v := (eI .i64 x22.2.1)) (svG rfl rfl h7 (d_move rfl)) ?_
          refine wS (v := (eI .i64 x30.2.1)) (svG rfl rfl h7 (d_move rfl)) ?_
          refine wS (v := (eB (x22.2.1 == x30.2.1))) (svG rfl rfl h7 (d_bin rfl rfl (bin_eql ..))) ?_
          refine wS (v := (eB (x22.2.1 == x30.2.1))) (sv (d_pickT rfl h7 rfl)) ?_
          refine wS (v := (eB (x22.2.1 == x30.2.1))) (sv (d_move rfl)) ?_
          refine wS (svX rfl rfl h8) ?_
          refine wS (svX rfl rfl h8) ?_
          refine wS (svX rfl rfl h8) ?_
          refine wS (v := (eB false)) (sv (d_pickF rfl h8 rfl)) ?_
          refine wS (v := (eB false)) (sv (d_assign rfl)) ?_
          refine OpsW.nil ?_
          refine Ex.then_mk ?_
          exact hG1 _ _ _ _ (Ghost.rn [] rfl rfl (FLe.same rfl FLe.nil) HLe.nil rfl) (J1 false hr)
      · replace hr := iteF hr h7
        refine AB.rw ?_
        refine wS (v := (eI .u64 x22.1)) (sv (d_move rfl)) ?_
        refine wS (v := (eI .u64 x30.1)) (sv (d_move rfl)) ?_
        refine wS (v := (eB (x22.1 == x30.1))) (sv (d_bin rfl rfl (bin_eql ..))) ?_
        refine wS (v := (eB (x22.1 == x30.1))) (sv (d_move rfl)) ?_
        refine wS (svX rfl rfl h7) ?_
        refine wS (svX rfl rfl h7) ?_
        refine wS (svX rfl rfl h7) ?_
        refine wS (v := (eB false)) (sv (d_pickF rfl h7 rfl)) ?_
        refine wS (v := (eB false)) (sv (d_move rfl)) ?_
        refine wS (svX rfl rfl rfl) ?_
        refine wS (svX rfl rfl rfl) ?_
        refine wS (svX rfl rfl rfl) ?_
        refine wS (v := (eB false)) (sv (d_pickF rfl rfl rfl)) ?_
        refine wS (v := (eB false)) (sv (d_assign rfl)) ?_
        refine OpsW.nil ?_
        refine Ex.then_mk ?_
        exact hG1 _ _ _ _ (Ghost.rn [] rfl rfl (FLe.same rfl FLe.nil) HLe.nil rfl) (J1 false hr)
end Go.Proofs.Ytbcmdojknonpgaa
