/- Walks printed by a program of ours (gen.py): each Go function of the list does what its shallow function says. -/
import Derived.Test.YtbcmdojknonpgaaWk2
set_option linter.unusedVariables false
set_option linter.unusedSimpArgs false
namespace Go.Proofs.Ytbcmdojknonpgaa
open Go Go.Vm
set_option maxRecDepth 20000 in
set_option maxHeartbeats 1000000 in
theorem law18_BitsRiceBack_ok (N : Nat) (l : List Int) (p : Int) (r : Bool) (hr : law18_BitsRiceBack N l p = some r) :
    Vm.Fn Try.prog 8 [] [(.row none 1 (l.map (eI .u16))), (eI .u8 p)] (eB r) [] := by
  refine fn_ab Try.func8 rfl (by kernel_rfl) Try.ntmps8 (Nat.le_of_ble_eq_true rfl) rfl (fr := [(0, (.row none 1 (l.map (eI .u16)))), (1, (eI .u8 p))]) rfl ?_
  unfold law18_BitsRiceBack at hr
  refine AB.seq ?_
  refine AB.rw ?_
  refine wS (v := (eB false)) (sv (d_assign rfl)) ?_
  refine OpsW.nil ?_
  refine Ex.then_mk ?_
  refine AB.seq ?_
  refine AB.seq ?_
  replace hr := bnd hr; obtain ⟨x17, h_1, hr⟩ := hr
  refine AB.rw ?_
  refine wC (v := (eB x17)) (h' := []) rfl (Vm.Fn.pure (law18_sane_ok N x17 h_1) rfl rfl) ?_
  refine wS (v := (eB (!x17))) (sv (d_un rfl (un_not _ _))) ?_
  refine OpsW.nil ?_
  refine Ex.then_mk ?_
  refine AB.cnd rfl (fun h2 => ?_) (fun h2 => ?_)
  · replace hr := iteT hr h2
    refine AB.seq ?_
    refine AB.rw ?_
    refine wS (v := (eB false)) (sv (d_assign rfl)) ?_
    refine OpsW.nil ?_
    refine Ex.then_mk ?_
    refine AB.ret ?_
    refine Ex.then_ret_mk ?_
    obtain rfl := Option.some.inj hr
    exact done_ret (r1 := (eB false)) (res1 Try.results8 (rvT rfl)) (Ghost.rn [] rfl rfl (FLe.same rfl FLe.nil) HLe.nil rfl)
  · replace hr := iteF hr h2
    refine AB.skip ?_
    refine Ex.then_mk ?_
    refine AB.seq ?_
    refine AB.seq ?_
    refine AB.rw ?_
    refine wS (v := (.row none 1 (l.map (eI .u16)))) (sv (d_move rfl)) ?_
    refine wS (v := (eI .i64 (l.length : Int))) (sv (d_len rfl (lenR ti37))) ?_
    refine wS (v := (eB (decide (40 < (l.length : Int))))) (sv (d_bin rfl rfl (bin_gtr ..))) ?_
    refine OpsW.nil ?_
    refine Ex.then_mk ?_
    refine AB.cnd rfl (fun h3 => ?_) (fun h3 => ?_)
    · replace hr := iteT hr h3
      refine AB.seq ?_
      refine AB.rw ?_
      refine wS (v := (eB true)) (sv (d_assign rfl)) ?_
      refine OpsW.nil ?_
      refine Ex.then_mk ?_
      refine AB.ret ?_
      refine Ex.then_ret_mk ?_
      obtain rfl := Option.some.inj hr
      exact done_ret (r1 := (eB true)) (res1 Try.results8 (rvT rfl)) (Ghost.rn [] rfl rfl (FLe.same rfl FLe.nil) HLe.nil rfl)
    · replace hr := iteF hr h3
      refine AB.skip ?_
      refine Ex.then_mk ?_
      refine AB.seq ?_
      refine AB.rw ?_
      refine wS (v := (eI .u8 p)) (sv (d_move rfl)) ?_
      refine wS (v := (eI .u8 (Int.tmod p 33))) (sv (d_bin rfl rfl (bin_rem' _ _ _ _ rfl))) ?_
      refine wS (v := (eI .i64 (IntKind.i64.wrap (Int.tmod p 33)))) (sv (d_conv rfl (conv_int _ ⟨_, ti5⟩ ti3 rfl))) ?_
      refine wS (v := (eI .i64 (IntKind.i64.wrap (Int.tmod p 33)))) (sv (d_assign rfl)) ?_
      refine OpsW.nil ?_
      refine Ex.then_mk ?_
      refine AB.seq ?_
      refine AB.rw ?_
      refine wS (v := (.ptr 0 0)) (h' := [some ⟨24, [(.row (some true) 1 []), (eI .i64 0)]⟩]) (sv (d_alloc ti24 rfl rfl rfl)) ?_
      refine OpsW.nil ?_
      refine Ex.then_mk ?_
      refine AB.seq_g fun K1 hK1 hG1 => ?_
      have J1 : ∀ (c0 : Int) (l1 : List Int), law18_BitsRiceBack_J1 N l p c0 l1 = some r → K1 (mkF 94 [(0, (.row none 1 (l.map (eI .u16)))), (5, (eI .i64 (IntKind.i64.wrap (Int.tmod p 33)))), (6, (.ptr 0 0))]) [some ⟨24, [(.sl 1 0 l1.length 1 false), (eI .i64 c0)]⟩, some ⟨5, l1.map (eI .u8)⟩] := by
        intro c0 l1 hr
        unfold law18_BitsRiceBack_J1 at hr
        refine hK1 _ _ ?_
        refine AB.seq ?_
        refine AB.rw ?_
        refine wS (v := (eI .i64 0)) (sv (d_assign rfl)) ?_
        refine OpsW.nil ?_
        refine Ex.then_mk ?_
        refine AB.seq_g fun K2 hK2 hG2 => ?_
        have J2 : ∀ (vat : Int), law18_BitsRiceBack_J2 N c0 l1 vat = some r → K2 (mkF 94 [(6, (.ptr 0 0)), (11, (eI .i64 vat))]) [some ⟨24, [(.sl 1 0 l1.length 1 false), (eI .i64 c0)]⟩, some ⟨5, l1.map (eI .u8)⟩] := by
          intro vat hr
          unfold law18_BitsRiceBack_J2 at hr
          refine hK2 _ _ ?_
          refine AB.seq_g fun K3 hK3 hG3 => ?_
          have J3 : ∀ (x4 : Bool), law18_BitsRiceBack_J3 N x4 = some r → K3 (mkF 94 [(4, (eB x4))]) [] := by
            intro x4 hr
            unfold law18_BitsRiceBack_J3 at hr
            refine hK3 _ _ ?_
            refine AB.ret ?_
            obtain rfl := Option.some.inj hr
            exact done_ret (r1 := (eB x4)) (res1 Try.results8 (rvT rfl)) (Ghost.rn [] rfl rfl (FLe.same rfl FLe.nil) HLe.nil rfl)
          rcases Bool.eq_false_or_eq_true (vat == c0) with h4 | h4
          · replace hr := iteT hr h4
            replace hr := bnd hr; obtain ⟨x92, h_5, hr⟩ := hr
            refine AB.rw ?_
            refine wS (v := (eI .i64 vat)) (sv (d_move rfl)) ?_
            refine wS (v := (.ptr 0 1)) (sv (d_fa rfl (fap24_1 ..))) ?_
            refine wS (v := (eI .i64 c0)) (sv (d_load rfl (ldP rfl (part1 ti3 rfl rfl)))) ?_
            refine wS (v := (eB (vat == c0))) (sv (d_bin rfl rfl (bin_eql ..))) ?_
            refine wS (v := (eB (vat == c0))) (sv (d_move rfl)) ?_
            refine wS (v := (.agg [(.sl 1 0 l1.length 1 false), (eI .i64 c0)])) (svG rfl rfl h4 (d_load rfl (ldP rfl (partN (ds := [(.sl 1 0 l1.length 1 false), (eI .i64 c0)]) ti24 rfl (Nat.le_of_ble_eq_true rfl) rfl)))) ?_
            refine wCG (v := (eB x92)) (h' := [some ⟨24, [(.sl 1 0 l1.length 1 false), (eI .i64 c0)]⟩, some ⟨5, l1.map (eI .u8)⟩]) rfl rfl h4 rfl (Vm.Fn.lendR (bits_Valid_ok N l1 c0 x92 h_5) [] [1] (by decide) rfl (by decide) Lend.nil (Brw.row (exp_agg (exp_cons (exp_sl (d := 3) rfl rfl (fun _ => rfl)) (exp_cons rfl exp_nil))) Brw.nil) rfl rfB.nil rfl (by simp only [lent, lendSet, lendSet_nil, rnH, Blk.rn, V.rns, V.rn, sg, List.map_cons, List.map_nil, Option.map_some, Option.map_none, List.drop_succ_cons, List.drop_zero, List.drop_nil, List.set_cons_zero, List.set_cons_succ, List.cons_append, List.nil_append, List.append_nil, rns_eI, rns_eB, rns_eS, rns_eL, List.getElem?_cons_zero, List.getElem?_cons_succ, List.getElem?_nil, List.length_cons, List.length_nil, Nat.reduceAdd, Nat.reduceSub, Nat.add_zero, Nat.zero_add, Nat.sub_self, Nat.sub_zero])) ?_
            refine wS (v := (eB x92)) (sv (d_pickT rfl h4 rfl)) ?_
            refine wS (v := (eB x92)) (sv (d_assign rfl)) ?_
            refine OpsW.nil ?_
            refine Ex.then_mk ?_
            exact hG3 _ _ _ _ (Ghost.rn [] rfl rfl (FLe.same rfl FLe.nil) HLe.nil rfl) (J3 x92 hr)
          · replace hr := iteF hr h4
            refine AB.rw ?_
            refine wS (v := (eI .i64 vat)) (sv (d_move rfl)) ?_
            refine wS (v := (.ptr 0 1)) (sv (d_fa rfl (fap24_1 ..))) ?_
            refine wS (v := (eI .i64 c0)) (sv (d_load rfl (ldP rfl (part1 ti3 rfl rfl)))) ?_
            refine wS (v := (eB (vat == c0))) (sv (d_bin rfl rfl (bin_eql ..))) ?_
            refine wS (v := (eB (vat == c0))) (sv (d_move rfl)) ?_
            refine wS (svX rfl rfl h4) ?_
            refine wS (svX rfl rfl h4) ?_
            refine wS (v := (eB false)) (sv (d_pickF rfl h4 rfl)) ?_
            refine wS (v := (eB false)) (sv (d_assign rfl)) ?_
            refine OpsW.nil ?_
            refine Ex.then_mk ?_
            exact hG3 _ _ _ _ (Ghost.rn [] rfl rfl (FLe.same rfl FLe.nil) HLe.nil rfl) (J3 false hr)
        refine AB.seq ?_
        refine AB.rw ?_
        refine wS (v := (.row none 1 (l.map (eI .u16)))) (sv (d_move rfl)) ?_
        refine wS (v := (eI .i64 (l.length : Int))) (sv (d_len rfl (lenR ti37))) ?_
        refine wS (v := (eI .i64 0)) (sv (d_move rfl)) ?_
        refine OpsW.nil ?_
        refine Ex.then_mk ?_
        replace hr := bnd hr; obtain ⟨res4, hL4, hr⟩ := hr
        refine AB.block ?_
        refine AB.loopN (fun m s h => ∃ (vat_1 : Int) (x63 : Int), law18_BitsRiceBack_L4 N l p c0 l1 m vat_1 x63 = some res4 ∧ Ghost 0 s h (mkF 94 [(5, (eI .i64 (IntKind.i64.wrap (Int.tmod p 33)))), (6, (.ptr 0 0)), (11, (eI .i64 vat_1)), (61, (.row none 1 (l.map (eI .u16)))), (62, (eI .i64 (l.length : Int))), (63, (eI .i64 x63))]) [some ⟨24, [(.sl 1 0 l1.length 1 false), (eI .i64 c0)]⟩, some ⟨5, l1.map (eI .u8)⟩]) (n := N) ⟨0, 0, hL4, (Ghost.rn [0, 1] rfl rfl (FLe.same rfl (FLe.same rfl (FLe.same rfl (FLe.same rfl (FLe.same rfl (FLe.same rfl FLe.nil)))))) (HLe.live rfl (V.les_refl _ _) rfl (HLe.live rfl (les_map (fun _ => rfl) _) (all_map (fun _ => rfl) _) HLe.nil)) rfl)⟩ (by rintro s h ⟨_, _, h0, _⟩; simp [law18_BitsRiceBack_L4] at h0) ?_
        rintro m4 s h ⟨vat_1, x63, hr4, hg⟩
        refine AB.ghost hg ?_
        clear hg hL4
        rw [law18_BitsRiceBack_L4] at hr4
        refine AB.seq ?_
        refine AB.rw ?_
        refine wS (v := (eB (decide (x63 < (l.length : Int))))) (sv (d_bin rfl rfl (bin_lss ..))) ?_
        refine OpsW.nil ?_
        refine Ex.then_mk ?_
        refine AB.seq ?_
        refine AB.cnd rfl (fun h6 => ?_) (fun h6 => ?_)
        · replace hr4 := iteT hr4 h6
          refine AB.skip ?_
          refine Ex.then_mk ?_
          refine AB.seq ?_
          refine AB.block ?_
          refine AB.seq ?_
          replace hr4 := bnd hr4; obtain ⟨x65, h_7, hr4⟩ := hr4
          refine AB.rw ?_
          refine wS (sv (d_ia rfl rfl (iaR ti37 ti38 h_7))) ?_
          refine wS (v := (eI .u16 x65)) (sv (d_load rfl (ldR h_7 (part1 ti38 rfl rfl)))) ?_
          refine wS (v := (eI .u16 x65)) (sv (d_assign rfl)) ?_
          refine OpsW.nil ?_
          refine Ex.then_mk ?_
          refine AB.seq ?_
          replace hr4 := bnd hr4; obtain ⟨x71, h_8, hr4⟩ := hr4
          refine AB.rw ?_
          refine wS (v := (.agg [(.sl 1 0 l1.length 1 false), (eI .i64 c0)])) (sv (d_load rfl (ldP rfl (partN (ds := [(.sl 1 0 l1.length 1 false), (eI .i64 c0)]) ti24 rfl (Nat.le_of_ble_eq_true rfl) rfl)))) ?_
          refine wS (v := (eI .i64 vat_1)) (sv (d_move rfl)) ?_
          refine wS (v := (eI .i64 (IntKind.i64.wrap (Int.tmod p 33)))) (sv (d_move rfl)) ?_
          refine wC (v := (.tup [(eI .u64 x71.1), (eI .i64 x71.2.1), (eI .i64 x71.2.2)])) (h' := [some ⟨24, [(.sl 1 0 l1.length 1 false), (eI .i64 c0)]⟩, some ⟨5, l1.map (eI .u8)⟩]) rfl (Vm.Fn.lendR (bits_ReadRice_ok N l1 c0 vat_1 (IntKind.i64.wrap (Int.tmod p 33)) x71 h_8) [] [1] (by decide) rfl (by decide) Lend.nil (Brw.row (exp_agg (exp_cons (exp_sl (d := 3) rfl rfl (fun _ => rfl)) (exp_cons rfl exp_nil))) (Brw.same rfl (Brw.same rfl Brw.nil))) rfl rfB.nil rfl (by simp only [lent, lendSet, lendSet_nil, rnH, Blk.rn, V.rns, V.rn, sg, List.map_cons, List.map_nil, Option.map_some, Option.map_none, List.drop_succ_cons, List.drop_zero, List.drop_nil, List.set_cons_zero, List.set_cons_succ, List.cons_append, List.nil_append, List.append_nil, rns_eI, rns_eB, rns_eS, rns_eL, List.getElem?_cons_zero, List.getElem?_cons_succ, List.getElem?_nil, List.length_cons, List.length_nil, Nat.reduceAdd, Nat.reduceSub, Nat.add_zero, Nat.zero_add, Nat.sub_self, Nat.sub_zero])) ?_
          refine wS (v := (.tup [(eI .u64 x71.1), (eI .i64 x71.2.1), (eI .i64 x71.2.2)])) (sv (d_move rfl)) ?_
          refine wS (v := (eI .u64 x71.1)) (sv (d_ext rfl rfl)) ?_
          refine wS (v := (eI .i64 x71.2.1)) (sv (d_ext rfl rfl)) ?_
          refine wS (v := (eI .i64 x71.2.2)) (sv (d_ext rfl rfl)) ?_
          refine wS (v := (eI .u64 x71.1)) (sv (d_assign rfl)) ?_
          refine wS (v := (eI .i64 x71.2.1)) (sv (d_assign rfl)) ?_
          refine wS (v := (eI .i64 x71.2.2)) (sv (d_assign rfl)) ?_
          refine OpsW.nil ?_
          refine Ex.then_mk ?_
          refine AB.seq ?_
          refine AB.seq_g fun K5 hK5 hG5 => ?_
          have J5 : ∀ (x83 : Bool), law18_BitsRiceBack_J5 N l p c0 l1 x63 x71 (law18_BitsRiceBack_L4 N l p c0 l1 m4) x83 = some res4 → K5 (mkF 94 [(5, (eI .i64 (IntKind.i64.wrap (Int.tmod p 33)))), (6, (.ptr 0 0)), (15, (eI .i64 x71.2.1)), (61, (.row none 1 (l.map (eI .u16)))), (62, (eI .i64 (l.length : Int))), (63, (eI .i64 x63)), (83, (eB x83))]) [some ⟨24, [(.sl 1 0 l1.length 1 false), (eI .i64 c0)]⟩, some ⟨5, l1.map (eI .u8)⟩] := by
            intro x83 hr4
            unfold law18_BitsRiceBack_J5 at hr4
            refine hK5 _ _ ?_
            refine AB.cnd rfl (fun h9 => ?_) (fun h9 => ?_)
            · replace hr4 := iteT hr4 h9
              refine AB.seq ?_
              refine AB.rw ?_
              refine wS (v := (eB false)) (sv (d_assign rfl)) ?_
              refine OpsW.nil ?_
              refine Ex.then_mk ?_
              refine AB.ret ?_
              refine Ex.then_ret_mk ?_
              refine Ex.inBlock_ret_mk ?_
              refine Ex.then_ret_mk ?_
              refine Ex.then_ret_mk ?_
              refine Ex.inBlock_ret_mk ?_
              refine Ex.then_ret_mk ?_
              obtain rfl := Option.some.inj hr4
              obtain rfl := Option.some.inj hr
              exact done_ret (r1 := (eB false)) (res1 Try.results8 (rvT rfl)) (Ghost.rn [] rfl rfl (FLe.same rfl FLe.nil) HLe.nil rfl)
            · replace hr4 := iteF hr4 h9
              refine AB.skip ?_
              refine Ex.then_mk ?_
              refine AB.rw ?_
              refine wS (v := (eI .i64 x71.2.1)) (sv (d_move rfl)) ?_
              refine wS (v := (eI .i64 x71.2.1)) (sv (d_assign rfl)) ?_
              refine OpsW.nil ?_
              refine Ex.inBlock_mk ?_
              refine Ex.then_mk ?_
              refine AB.rw ?_
              refine wS (v := (eI .i64 (IntKind.i64.wrap (x63 + 1)))) (sv (d_bin rfl rfl (bin_add ..))) ?_
              refine wS (v := (eI .i64 (IntKind.i64.wrap (x63 + 1)))) (sv (d_move rfl)) ?_
              refine OpsW.nil ?_
              refine Ex.then_mk ?_
              exact ⟨x71.2.1, IntKind.i64.wrap (x63 + 1), hr4, (Ghost.rn [0, 1] rfl rfl (FLe.same rfl (FLe.same rfl (FLe.same rfl (FLe.same rfl (FLe.same rfl (FLe.same rfl FLe.nil)))))) (HLe.live rfl (V.les_refl _ _) rfl (HLe.live rfl (les_map (fun _ => rfl) _) (all_map (fun _ => rfl) _) HLe.nil)) rfl)⟩
          rcases Bool.eq_false_or_eq_true (x71.2.2 != 0) with h10 | h10
          · replace hr4 := iteT hr4 h10
            refine AB.rw ?_
            refine wS (v := (eI .i64 x71.2.2)) (sv (d_move rfl)) ?_
            refine wS (v := (eB (x71.2.2 != 0))) (sv (d_bin rfl rfl (bin_neq ..))) ?_
            refine wS (v := (eB (x71.2.2 != 0))) (sv (d_move rfl)) ?_
            refine wS (svX rfl rfl h10) ?_
            refine wS (svX rfl rfl h10) ?_
            refine wS (svX rfl rfl h10) ?_
            refine wS (svX rfl rfl h10) ?_
            refine wS (svX rfl rfl h10) ?_
            refine wS (v := (eB true)) (sv (d_pickT rfl h10 rfl)) ?_
            refine OpsW.nil ?_
            refine Ex.then_mk ?_
            exact hG5 _ _ _ _ (Ghost.rn [0, 1] rfl rfl (FLe.same rfl (FLe.same rfl (FLe.same rfl (FLe.same rfl (FLe.same rfl (FLe.same rfl (FLe.same rfl FLe.nil))))))) (HLe.live rfl (V.les_refl _ _) rfl (HLe.live rfl (les_map (fun _ => rfl) _) (all_map (fun _ => rfl) _) HLe.nil)) rfl) (J5 true hr4)
          · replace hr4 := iteF hr4 h10
            refine AB.rw ?_
            refine wS (v := (eI .i64 x71.2.2)) (sv (d_move rfl)) ?_
            refine wS (v := (eB (x71.2.2 != 0))) (sv (d_bin rfl rfl (bin_neq ..))) ?_
            refine wS (v := (eB (x71.2.2 != 0))) (sv (d_move rfl)) ?_
            refine wS (v := (eI .u64 x71.1)) (svG rfl rfl h10 (d_move rfl)) ?_
            refine wS (v := (eI .u16 x65)) (svG rfl rfl h10 (d_move rfl)) ?_
            refine wS (v := (eI .u64 (IntKind.u64.wrap x65))) (svG rfl rfl h10 (d_conv rfl (conv_int _ ⟨_, ti38⟩ ti25 rfl))) ?_
            refine wS (v := (eI .u64 (Int.tmod (IntKind.u64.wrap x65) 4000))) (svG rfl rfl h10 (d_bin rfl rfl (bin_rem' _ _ _ _ rfl))) ?_
            refine wS (v := (eB (x71.1 != (Int.tmod (IntKind.u64.wrap x65) 4000)))) (svG rfl rfl h10 (d_bin rfl rfl (bin_neq ..))) ?_
            refine wS (v := (eB (x71.1 != (Int.tmod (IntKind.u64.wrap x65) 4000)))) (sv (d_pickF rfl h10 rfl)) ?_
            refine OpsW.nil ?_
            refine Ex.then_mk ?_
            exact hG5 _ _ _ _ (Ghost.rn [0, 1] rfl rfl (FLe.same rfl (FLe.same rfl (FLe.same rfl (FLe.same rfl (FLe.same rfl (FLe.same rfl (FLe.same rfl FLe.nil))))))) (HLe.live rfl (V.les_refl _ _) rfl (HLe.live rfl (les_map (fun _ => rfl) _) (all_map (fun _ => rfl) _) HLe.nil)) rfl) (J5 (x71.1 != (Int.tmod (IntKind.u64.wrap x65) 4000)) hr4)
        · replace hr4 := iteF hr4 h6
          refine AB.exit ?_
          refine Ex.then_exit_mk ?_
          refine Ex.then_exit_mk ?_
          refine Ex.inBlock_same_mk ?_
          obtain rfl := Option.some.inj hr4
          refine Ex.then_mk ?_
          exact hG2 _ _ _ _ (Ghost.rn [0, 1] rfl rfl (FLe.same rfl (FLe.same rfl FLe.nil)) (HLe.live rfl (V.les_refl _ _) rfl (HLe.live rfl (les_map (fun _ => rfl) _) (all_map (fun _ => rfl) _) HLe.nil)) rfl) (J2 vat_1 hr)
      refine AB.seq ?_
      refine AB.rw ?_
      refine wS (v := (.row none 1 (l.map (eI .u16)))) (sv (d_move rfl)) ?_
      refine wS (v := (eI .i64 (l.length : Int))) (sv (d_len rfl (lenR ti37))) ?_
      refine wS (v := (eI .i64 0)) (sv (d_move rfl)) ?_
      refine OpsW.nil ?_
      refine Ex.then_mk ?_
      replace hr := bnd hr; obtain ⟨res6, hL6, hr⟩ := hr
      refine AB.block ?_
      refine AB.loopN (fun m s h => ∃ (x27 : Int) (c0_1 : Int) (l1_1 : List Int), law18_BitsRiceBack_L6 N l p m x27 c0_1 l1_1 = some res6 ∧ Ghost 0 s h (mkF 94 [(0, (.row none 1 (l.map (eI .u16)))), (5, (eI .i64 (IntKind.i64.wrap (Int.tmod p 33)))), (6, (.ptr 0 0)), (25, (.row none 1 (l.map (eI .u16)))), (26, (eI .i64 (l.length : Int))), (27, (eI .i64 x27))]) [some ⟨24, [(.sl 1 0 l1_1.length 1 false), (eI .i64 c0_1)]⟩, some ⟨5, l1_1.map (eI .u8)⟩]) (n := N) ⟨0, 0, [], hL6, (Ghost.trans (Ghost.virt (fr' := [(0, (.row none 1 (l.map (eI .u16)))), (5, (eI .i64 (IntKind.i64.wrap (Int.tmod p 33)))), (6, (.ptr 0 0)), (25, (.row none 1 (l.map (eI .u16)))), (26, (eI .i64 (l.length : Int))), (27, (eI .i64 0))]) (h1 := [some ⟨24, [(.sl 1 0 0 1 false), (eI .i64 0)]⟩]) 5 (FLe.same rfl (FLe.same rfl (FLe.same rfl (FLe.same rfl (FLe.same rfl (FLe.same rfl FLe.nil)))))) (HLv.live (V.les_cons (V.le_virt rfl) (V.les_cons (V.le_refl _ _) V.les_nil)) rfl HLv.nil)) (Ghost.rn [0, 1] rfl rfl (FLe.same rfl (FLe.same rfl (FLe.same rfl (FLe.same rfl (FLe.same rfl (FLe.same rfl FLe.nil)))))) (HLe.live rfl (V.les_cons (by first | exact V.le_refl _ _ | (simp only [len_set, len_cpy]; exact V.le_refl _ _)) (V.les_cons (V.le_refl _ _) V.les_nil)) rfl (HLe.live rfl V.les_nil rfl HLe.nil)) rfl))⟩ (by rintro s h ⟨_, _, _, h0, _⟩; simp [law18_BitsRiceBack_L6] at h0) ?_
      rintro m6 s h ⟨x27, c0_1, l1_1, hr6, hg⟩
      refine AB.ghost hg ?_
      clear hg hL6
      rw [law18_BitsRiceBack_L6] at hr6
      refine AB.seq ?_
      refine AB.rw ?_
      refine wS (v := (eB (decide (x27 < (l.length : Int))))) (sv (d_bin rfl rfl (bin_lss ..))) ?_
      refine OpsW.nil ?_
      refine Ex.then_mk ?_
      refine AB.seq ?_
      refine AB.cnd rfl (fun h11 => ?_) (fun h11 => ?_)
      · replace hr6 := iteT hr6 h11
        refine AB.skip ?_
        refine Ex.then_mk ?_
        refine AB.seq ?_
        refine AB.block ?_
        refine AB.seq ?_
        replace hr6 := bnd hr6; obtain ⟨x29, h_12, hr6⟩ := hr6
        refine AB.rw ?_
        refine wS (sv (d_ia rfl rfl (iaR ti37 ti38 h_12))) ?_
        refine wS (v := (eI .u16 x29)) (sv (d_load rfl (ldR h_12 (part1 ti38 rfl rfl)))) ?_
        refine wS (v := (eI .u16 x29)) (sv (d_assign rfl)) ?_
        refine OpsW.nil ?_
        refine Ex.then_mk ?_
        refine AB.seq ?_
        replace hr6 := bnd hr6; obtain ⟨x37, h_13, hr6⟩ := hr6
        refine AB.rw ?_
        refine wS (v := (.agg [(.sl 1 0 l1_1.length 1 false), (eI .i64 c0_1)])) (sv (d_load rfl (ldP rfl (partN (ds := [(.sl 1 0 l1_1.length 1 false), (eI .i64 c0_1)]) ti24 rfl (Nat.le_of_ble_eq_true rfl) rfl)))) ?_
        refine wS (v := (eI .u16 x29)) (sv (d_move rfl)) ?_
        refine wS (v := (eI .u64 (IntKind.u64.wrap x29))) (sv (d_conv rfl (conv_int _ ⟨_, ti38⟩ ti25 rfl))) ?_
        refine wS (v := (eI .u64 (Int.tmod (IntKind.u64.wrap x29) 4000))) (sv (d_bin rfl rfl (bin_rem' _ _ _ _ rfl))) ?_
        refine wS (v := (eI .i64 (IntKind.i64.wrap (Int.tmod p 33)))) (sv (d_move rfl)) ?_
        refine wC (v := (.tup [(.agg [(.sl 2 0 x37.1.length 1 false), (eI .i64 x37.2.1)]), (eI .i64 x37.2.2)])) (h' := [some ⟨24, [(.sl 1 0 l1_1.length 1 false), (eI .i64 c0_1)]⟩, some ⟨5, l1_1.map (eI .u8)⟩, some ⟨5, x37.1.map (eI .u8)⟩]) rfl (Vm.Fn.lendR (bits_AppendRice_ok N l1_1 c0_1 (Int.tmod (IntKind.u64.wrap x29) 4000) (IntKind.i64.wrap (Int.tmod p 33)) x37 h_13) [] [1] (by decide) rfl (by decide) Lend.nil (Brw.row (exp_agg (exp_cons (exp_sl (d := 3) rfl rfl (fun _ => rfl)) (exp_cons rfl exp_nil))) (Brw.same rfl (Brw.same rfl Brw.nil))) rfl (rfB.live (rfs_map (fun _ => rfl) _) rfB.nil) rfl (by simp only [lent, lendSet, lendSet_nil, rnH, Blk.rn, V.rns, V.rn, sg, List.map_cons, List.map_nil, Option.map_some, Option.map_none, List.drop_succ_cons, List.drop_zero, List.drop_nil, List.set_cons_zero, List.set_cons_succ, List.cons_append, List.nil_append, List.append_nil, rns_eI, rns_eB, rns_eS, rns_eL, List.getElem?_cons_zero, List.getElem?_cons_succ, List.getElem?_nil, List.length_cons, List.length_nil, Nat.reduceAdd, Nat.reduceSub, Nat.add_zero, Nat.zero_add, Nat.sub_self, Nat.sub_zero])) ?_
        refine wS (v := (.tup [(.agg [(.sl 2 0 x37.1.length 1 false), (eI .i64 x37.2.1)]), (eI .i64 x37.2.2)])) (sv (d_move rfl)) ?_
        refine wS (v := (.agg [(.sl 2 0 x37.1.length 1 false), (eI .i64 x37.2.1)])) (sv (d_ext rfl rfl)) ?_
        refine wS (v := (eI .i64 x37.2.2)) (sv (d_ext rfl rfl)) ?_
        refine wS (v := (.ptr 3 0)) (h' := [some ⟨24, [(.sl 1 0 l1_1.length 1 false), (eI .i64 c0_1)]⟩, some ⟨5, l1_1.map (eI .u8)⟩, some ⟨5, x37.1.map (eI .u8)⟩, some ⟨24, [(.row (some true) 1 []), (eI .i64 0)]⟩]) (sv (d_alloc ti24 rfl rfl rfl)) ?_
        refine wN (h' := [some ⟨24, [(.sl 1 0 l1_1.length 1 false), (eI .i64 c0_1)]⟩, some ⟨5, l1_1.map (eI .u8)⟩, some ⟨5, x37.1.map (eI .u8)⟩, some ⟨24, [(.sl 2 0 x37.1.length 1 false), (eI .i64 x37.2.1)]⟩]) (sv (d_store rfl rfl (stP ti24 rfl rfl rfl (Nat.le_of_ble_eq_true rfl) rfl))) ?_
        refine wS (v := (eI .i64 x37.2.2)) (sv (d_assign rfl)) ?_
        refine OpsW.nil ?_
        refine Ex.then_mk ?_
        refine AB.seq ?_
        refine AB.seq_g fun K7 hK7 hG7 => ?_
        have J7 : ∀ (x58 : Bool), law18_BitsRiceBack_J7 N l p x27 c0_1 l1_1 x37 (law18_BitsRiceBack_L6 N l p m6) x58 = some res6 → K7 (mkF 94 [(0, (.row none 1 (l.map (eI .u16)))), (5, (eI .i64 (IntKind.i64.wrap (Int.tmod p 33)))), (6, (.ptr 0 0)), (9, (.ptr 1 0)), (25, (.row none 1 (l.map (eI .u16)))), (26, (eI .i64 (l.length : Int))), (27, (eI .i64 x27)), (58, (eB x58))]) [some ⟨24, [(.sl 2 0 l1_1.length 1 false), (eI .i64 c0_1)]⟩, some ⟨24, [(.sl 3 0 x37.1.length 1 false), (eI .i64 x37.2.1)]⟩, some ⟨5, l1_1.map (eI .u8)⟩, some ⟨5, x37.1.map (eI .u8)⟩] := by
          intro x58 hr6
          unfold law18_BitsRiceBack_J7 at hr6
          refine hK7 _ _ ?_
          refine AB.cnd rfl (fun h14 => ?_) (fun h14 => ?_)
          · replace hr6 := iteT hr6 h14
            refine AB.seq ?_
            refine AB.rw ?_
            refine wS (v := (eB false)) (sv (d_assign rfl)) ?_
            refine OpsW.nil ?_
            refine Ex.then_mk ?_
            refine AB.ret ?_
            refine Ex.then_ret_mk ?_
            refine Ex.inBlock_ret_mk ?_
            refine Ex.then_ret_mk ?_
            refine Ex.then_ret_mk ?_
            refine Ex.inBlock_ret_mk ?_
            refine Ex.then_ret_mk ?_
            obtain rfl := Option.some.inj hr6
            obtain rfl := Option.some.inj hr
            exact done_ret (r1 := (eB false)) (res1 Try.results8 (rvT rfl)) (Ghost.rn [] rfl rfl (FLe.same rfl FLe.nil) HLe.nil rfl)
          · replace hr6 := iteF hr6 h14
            refine AB.skip ?_
            refine Ex.then_mk ?_
            refine AB.rw ?_
            refine wS (v := (.agg [(.sl 3 0 x37.1.length 1 false), (eI .i64 x37.2.1)])) (sv (d_load rfl (ldP rfl (partN (ds := [(.sl 3 0 x37.1.length 1 false), (eI .i64 x37.2.1)]) ti24 rfl (Nat.le_of_ble_eq_true rfl) rfl)))) ?_
            refine wN (h' := [some ⟨24, [(.sl 3 0 x37.1.length 1 false), (eI .i64 x37.2.1)]⟩, some ⟨24, [(.sl 3 0 x37.1.length 1 false), (eI .i64 x37.2.1)]⟩, some ⟨5, l1_1.map (eI .u8)⟩, some ⟨5, x37.1.map (eI .u8)⟩]) (sv (d_store rfl rfl (stP ti24 rfl rfl rfl (Nat.le_of_ble_eq_true rfl) rfl))) ?_
            refine OpsW.nil ?_
            refine Ex.inBlock_mk ?_
            refine Ex.then_mk ?_
            refine AB.rw ?_
            refine wS (v := (eI .i64 (IntKind.i64.wrap (x27 + 1)))) (sv (d_bin rfl rfl (bin_add ..))) ?_
            refine wS (v := (eI .i64 (IntKind.i64.wrap (x27 + 1)))) (sv (d_move rfl)) ?_
            refine OpsW.nil ?_
            refine Ex.then_mk ?_
            exact ⟨IntKind.i64.wrap (x27 + 1), x37.2.1, x37.1, hr6, (Ghost.rn [0, 3] rfl rfl (FLe.same rfl (FLe.same rfl (FLe.same rfl (FLe.same rfl (FLe.same rfl (FLe.same rfl FLe.nil)))))) (HLe.live rfl (V.les_refl _ _) rfl (HLe.live rfl (les_map (fun _ => rfl) _) (all_map (fun _ => rfl) _) HLe.nil)) rfl)⟩
        rcases Bool.eq_false_or_eq_true (x37.2.2 != 0) with h15 | h15
        · replace hr6 := iteT hr6 h15
          refine AB.rg E0 (fun _ => by show drawOk (fun _ => false) _ = true; decide +kernel) ?_
          refine tS (v := (eI .i64 x37.2.2)) (sv (d_move rfl)) ?_
          refine tS (v := (eB (x37.2.2 != 0))) (sv (d_bin rfl rfl (bin_neq ..))) ?_
          refine tS (v := (eB (x37.2.2 != 0))) (sv (d_move rfl)) ?_
          refine tS (svX rfl rfl h15) ?_
          refine tS (svX rfl rfl h15) ?_
          refine tS (svX rfl rfl h15) ?_
          refine tS (svX rfl rfl h15) ?_
          refine tS (svX rfl rfl h15) ?_
          refine tS (svX rfl rfl h15) ?_
          refine tS (svX rfl rfl h15) ?_
          refine tS (svX rfl rfl h15) ?_
          refine tS (svX rfl rfl h15) ?_
          refine tS (svX rfl rfl h15) ?_
          refine tS (svX rfl rfl h15) ?_
          refine tS (svX rfl rfl h15) ?_
          refine tS (svX rfl rfl h15) ?_
          refine tS (svX rfl rfl h15) ?_
          refine tS (svX rfl rfl h15) ?_
          refine tS (v := (eB true)) (sv (d_pickT rfl h15 rfl)) ?_
          refine OpsTo.nil ?_
          refine Ex.then_mk ?_
          exact hG7 _ _ _ _ (Ghost.rn [0, 3, 1, 2] rfl rfl (FLe.same rfl (FLe.same rfl (FLe.same rfl (FLe.same rfl (FLe.same rfl (FLe.same rfl (FLe.same rfl (FLe.same rfl FLe.nil)))))))) (HLe.live rfl (V.les_refl _ _) rfl (HLe.live rfl (V.les_refl _ _) rfl (HLe.live rfl (les_map (fun _ => rfl) _) (all_map (fun _ => rfl) _) (HLe.live rfl (les_map (fun _ => rfl) _) (all_map (fun _ => rfl) _) HLe.nil)))) rfl) (J7 true hr6)
        · replace hr6 := iteF hr6 h15
          replace hr6 := bnd hr6; obtain ⟨x51, h_16, hr6⟩ := hr6
          refine AB.rg E0 (fun _ => by show drawOk (fun _ => false) _ = true; decide +kernel) ?_
          refine tS (v := (eI .i64 x37.2.2)) (sv (d_move rfl)) ?_
          refine tS (v := (eB (x37.2.2 != 0))) (sv (d_bin rfl rfl (bin_neq ..))) ?_
          refine tS (v := (eB (x37.2.2 != 0))) (sv (d_move rfl)) ?_
          refine tS (v := (.ptr 3 1)) (svG rfl rfl h15 (d_fa rfl (fap24_1 ..))) ?_
          refine tS (v := (eI .i64 x37.2.1)) (svG rfl rfl h15 (d_load rfl (ldP rfl (part1 ti3 rfl rfl)))) ?_
          refine tS (v := (.ptr 0 1)) (svG rfl rfl h15 (d_fa rfl (fap24_1 ..))) ?_
          refine tS (v := (eI .i64 c0_1)) (svG rfl rfl h15 (d_load rfl (ldP rfl (part1 ti3 rfl rfl)))) ?_
          refine tS (v := (eI .u16 x29)) (svG rfl rfl h15 (d_move rfl)) ?_
          refine tS (v := (eI .u64 (IntKind.u64.wrap x29))) (svG rfl rfl h15 (d_conv rfl (conv_int _ ⟨_, ti38⟩ ti25 rfl))) ?_
          refine tS (v := (eI .u64 (Int.tmod (IntKind.u64.wrap x29) 4000))) (svG rfl rfl h15 (d_bin rfl rfl (bin_rem' _ _ _ _ rfl))) ?_
          refine tS (v := (eI .i64 (IntKind.i64.wrap (Int.tmod p 33)))) (svG rfl rfl h15 (d_move rfl)) ?_
          refine tS (v := (eI .u64 x51)) (svG rfl rfl h15 (d_bin rfl rfl (bin_shr' _ _ _ _ h_16))) ?_
          refine tS (v := (eI .i64 (IntKind.i64.wrap x51))) (svG rfl rfl h15 (d_conv rfl (conv_int _ ⟨_, ti25⟩ ti3 rfl))) ?_
          refine tS (v := (eI .i64 (IntKind.i64.wrap (c0_1 + (IntKind.i64.wrap x51))))) (svG rfl rfl h15 (d_bin rfl rfl (bin_add ..))) ?_
          refine tS (v := (eI .i64 (IntKind.i64.wrap ((IntKind.i64.wrap (c0_1 + (IntKind.i64.wrap x51))) + 1)))) (svG rfl rfl h15 (d_bin rfl rfl (bin_add ..))) ?_
          refine tS (v := (eI .i64 (IntKind.i64.wrap (Int.tmod p 33)))) (svG rfl rfl h15 (d_move rfl)) ?_
          refine tS (v := (eI .i64 (IntKind.i64.wrap ((IntKind.i64.wrap ((IntKind.i64.wrap (c0_1 + (IntKind.i64.wrap x51))) + 1)) + (IntKind.i64.wrap (Int.tmod p 33)))))) (svG rfl rfl h15 (d_bin rfl rfl (bin_add ..))) ?_
          refine tS (v := (eB (x37.2.1 != (IntKind.i64.wrap ((IntKind.i64.wrap ((IntKind.i64.wrap (c0_1 + (IntKind.i64.wrap x51))) + 1)) + (IntKind.i64.wrap (Int.tmod p 33))))))) (svG rfl rfl h15 (d_bin rfl rfl (bin_neq ..))) ?_
          refine tS (v := (eB (x37.2.1 != (IntKind.i64.wrap ((IntKind.i64.wrap ((IntKind.i64.wrap (c0_1 + (IntKind.i64.wrap x51))) + 1)) + (IntKind.i64.wrap (Int.tmod p 33))))))) (sv (d_pickF rfl h15 rfl)) ?_
          refine OpsTo.nil ?_
          refine Ex.then_mk ?_
          exact hG7 _ _ _ _ (Ghost.rn [0, 3, 1, 2] rfl rfl (FLe.same rfl (FLe.same rfl (FLe.same rfl (FLe.same rfl (FLe.same rfl (FLe.same rfl (FLe.same rfl (FLe.same rfl FLe.nil)))))))) (HLe.live rfl (V.les_refl _ _) rfl (HLe.live rfl (V.les_refl _ _) rfl (HLe.live rfl (les_map (fun _ => rfl) _) (all_map (fun _ => rfl) _) (HLe.live rfl (les_map (fun _ => rfl) _) (all_map (fun _ => rfl) _) HLe.nil)))) rfl) (J7 (x37.2.1 != (IntKind.i64.wrap ((IntKind.i64.wrap ((IntKind.i64.wrap (c0_1 + (IntKind.i64.wrap x51))) + 1)) + (IntKind.i64.wrap (Int.tmod p 33))))) hr6)
      · replace hr6 := iteF hr6 h11
        refine AB.exit ?_
        refine Ex.then_exit_mk ?_
        refine Ex.then_exit_mk ?_
        refine Ex.inBlock_same_mk ?_
        obtain rfl := Option.some.inj hr6
        refine Ex.then_mk ?_
        exact hG1 _ _ _ _ (Ghost.rn [0, 1] rfl rfl (FLe.same rfl (FLe.same rfl (FLe.same rfl FLe.nil))) (HLe.live rfl (V.les_refl _ _) rfl (HLe.live rfl (les_map (fun _ => rfl) _) (all_map (fun _ => rfl) _) HLe.nil)) rfl) (J1 c0_1 l1_1 hr)
set_option maxRecDepth 20000 in
set_option maxHeartbeats 1000000 in
theorem law18_BitsCodes_ok (N : Nat) (b_Data : List Int) (b_N : Int) (vat : Int) (p : Int) (r : Bool) (hr : law18_BitsCodes N b_Data b_N vat p = some r) :
    Vm.Fn Try.prog 9 [] [(.agg [(.row none 1 (b_Data.map (eI .u8))), (eI .i64 b_N)]), (eI .u8 vat), (eI .u8 p)] (eB r) [] := by
  refine fn_ab Try.func9 rfl (by kernel_rfl) Try.ntmps9 (Nat.le_of_ble_eq_true rfl) rfl (fr := [(0, (.agg [(.row none 1 (b_Data.map (eI .u8))), (eI .i64 b_N)])), (1, (eI .u8 vat)), (2, (eI .u8 p))]) rfl ?_
  unfold law18_BitsCodes at hr
  refine AB.seq ?_
  refine AB.rw ?_
  refine wS (v := (.ptr 0 0)) (h' := [some ⟨24, [(.row none 1 (b_Data.map (eI .u8))), (eI .i64 b_N)]⟩]) (sv (d_box rfl rfl rfl rfl)) ?_
  refine wS (v := (eB false)) (sv (d_assign rfl)) ?_
  refine OpsW.nil ?_
  refine Ex.then_mk ?_
  refine AB.seq ?_
  refine AB.seq ?_
  replace hr := bnd hr; obtain ⟨x20, h_1, hr⟩ := hr
  refine AB.rw ?_
  refine wC (v := (eB x20)) (h' := [some ⟨24, [(.row none 1 (b_Data.map (eI .u8))), (eI .i64 b_N)]⟩]) rfl (Vm.Fn.pure (law18_sane_ok N x20 h_1) rfl rfl) ?_
  refine wS (v := (eB (!x20))) (sv (d_un rfl (un_not _ _))) ?_
  refine OpsW.nil ?_
  refine Ex.then_mk ?_
  refine AB.cnd rfl (fun h2 => ?_) (fun h2 => ?_)
  · replace hr := iteT hr h2
    refine AB.seq ?_
    refine AB.rw ?_
    refine wS (v := (eB false)) (sv (d_assign rfl)) ?_
    refine OpsW.nil ?_
    refine Ex.then_mk ?_
    refine AB.ret ?_
    refine Ex.then_ret_mk ?_
    obtain rfl := Option.some.inj hr
    exact done_ret (r1 := (eB false)) (res1 Try.results9 (rvT rfl)) (Ghost.rn [] rfl rfl (FLe.same rfl FLe.nil) HLe.nil rfl)
  · replace hr := iteF hr h2
    refine AB.skip ?_
    refine Ex.then_mk ?_
    refine AB.seq ?_
    refine AB.seq_g fun K1 hK1 hG1 => ?_
    have J1 : ∀ (x29 : Bool), law18_BitsCodes_J1 N b_Data b_N vat p x29 = some r → K1 (mkF 102 [(1, (eI .u8 vat)), (2, (eI .u8 p)), (3, (.ptr 0 0)), (29, (eB x29))]) [some ⟨24, [(.row none 1 (b_Data.map (eI .u8))), (eI .i64 b_N)]⟩] := by
      intro x29 hr
      unfold law18_BitsCodes_J1 at hr
      refine hK1 _ _ ?_
      refine AB.cnd rfl (fun h3 => ?_) (fun h3 => ?_)
      · replace hr := iteT hr h3
        refine AB.seq ?_
        refine AB.rw ?_
        refine wS (v := (eB true)) (sv (d_assign rfl)) ?_
        refine OpsW.nil ?_
        refine Ex.then_mk ?_
        refine AB.ret ?_
        refine Ex.then_ret_mk ?_
        obtain rfl := Option.some.inj hr
        exact done_ret (r1 := (eB true)) (res1 Try.results9 (rvT rfl)) (Ghost.rn [] rfl rfl (FLe.same rfl FLe.nil) HLe.nil rfl)
      · replace hr := iteF hr h3
        refine AB.skip ?_
        refine Ex.then_mk ?_
        refine AB.seq ?_
        refine AB.rw ?_
        refine wS (v := (eI .u8 p)) (sv (d_move rfl)) ?_
        refine wS (v := (eI .u8 (Int.tmod p 33))) (sv (d_bin rfl rfl (bin_rem' _ _ _ _ rfl))) ?_
        refine wS (v := (eI .i64 (IntKind.i64.wrap (Int.tmod p 33)))) (sv (d_conv rfl (conv_int _ ⟨_, ti5⟩ ti3 rfl))) ?_
        refine wS (v := (eI .i64 (IntKind.i64.wrap (Int.tmod p 33)))) (sv (d_assign rfl)) ?_
        refine OpsW.nil ?_
        refine Ex.then_mk ?_
        refine AB.seq ?_
        replace hr := bnd hr; obtain ⟨x38, h_4, hr⟩ := hr
        refine AB.rw ?_
        refine wS (v := (.agg [(.row none 1 (b_Data.map (eI .u8))), (eI .i64 b_N)])) (sv (d_load rfl (ldP rfl (partN (ds := [(.row none 1 (b_Data.map (eI .u8))), (eI .i64 b_N)]) ti24 rfl (Nat.le_of_ble_eq_true rfl) rfl)))) ?_
        refine wS (v := (eI .u8 vat)) (sv (d_move rfl)) ?_
        refine wS (v := (eI .i64 (IntKind.i64.wrap vat))) (sv (d_conv rfl (conv_int _ ⟨_, ti5⟩ ti3 rfl))) ?_
        refine wS (v := (eI .i64 (IntKind.i64.wrap (Int.tmod p 33)))) (sv (d_move rfl)) ?_
        refine wC (v := (.tup [(eI .u64 x38.1), (eI .i64 x38.2.1), (eI .i64 x38.2.2)])) (h' := [some ⟨24, [(.row none 1 (b_Data.map (eI .u8))), (eI .i64 b_N)]⟩]) rfl (Vm.Fn.pure (bits_ReadRice_ok N b_Data b_N (IntKind.i64.wrap vat) (IntKind.i64.wrap (Int.tmod p 33)) x38 h_4) rfl rfl) ?_
        refine wS (v := (.tup [(eI .u64 x38.1), (eI .i64 x38.2.1), (eI .i64 x38.2.2)])) (sv (d_move rfl)) ?_
        refine wS (v := (eI .u64 x38.1)) (sv (d_ext rfl rfl)) ?_
        refine wS (v := (eI .i64 x38.2.1)) (sv (d_ext rfl rfl)) ?_
        refine wS (v := (eI .i64 x38.2.2)) (sv (d_ext rfl rfl)) ?_
        refine wS (v := (eI .u64 x38.1)) (sv (d_assign rfl)) ?_
        refine wS (v := (eI .i64 x38.2.1)) (sv (d_assign rfl)) ?_
        refine wS (v := (eI .i64 x38.2.2)) (sv (d_assign rfl)) ?_
        refine OpsW.nil ?_
        refine Ex.then_mk ?_
        refine AB.seq ?_
        refine AB.seq ?_
        refine AB.rw ?_
        refine wS (v := (eI .i64 x38.2.2)) (sv (d_move rfl)) ?_
        refine wS (v := (eB (x38.2.2 != 0))) (sv (d_bin rfl rfl (bin_neq ..))) ?_
        refine OpsW.nil ?_
        refine Ex.then_mk ?_
        refine AB.cnd rfl (fun h5 => ?_) (fun h5 => ?_)
        · replace hr := iteT hr h5
          refine AB.seq_g fun K2 hK2 hG2 => ?_
          have J2 : ∀ (x6 : Bool), law18_BitsCodes_J2 N x6 = some r → K2 (mkF 102 [(6, (eB x6))]) [] := by
            intro x6 hr
            unfold law18_BitsCodes_J2 at hr
            refine hK2 _ _ ?_
            refine AB.ret ?_
            refine Ex.then_ret_mk ?_
            obtain rfl := Option.some.inj hr
            exact done_ret (r1 := (eB x6)) (res1 Try.results9 (rvT rfl)) (Ghost.rn [] rfl rfl (FLe.same rfl FLe.nil) HLe.nil rfl)
          rcases Bool.eq_false_or_eq_true (x38.1 == 0) with h6 | h6
          · replace hr := iteT hr h6
            refine AB.rw ?_
            refine wS (v := (eI .u64 x38.1)) (sv (d_move rfl)) ?_
            refine wS (v := (eB (x38.1 == 0))) (sv (d_bin rfl rfl (bin_eql ..))) ?_
            refine wS (v := (eB (x38.1 == 0))) (sv (d_move rfl)) ?_
            refine wS (v := (eI .i64 x38.2.1)) (svG rfl rfl h6 (d_move rfl)) ?_
            refine wS (v := (eB (x38.2.1 == 0))) (svG rfl rfl h6 (d_bin rfl rfl (bin_eql ..))) ?_
            refine wS (v := (eB (x38.2.1 == 0))) (sv (d_pickT rfl h6 rfl)) ?_
            refine wS (v := (eB (x38.2.1 == 0))) (sv (d_assign rfl)) ?_
            refine OpsW.nil ?_
            refine Ex.then_mk ?_
            exact hG2 _ _ _ _ (Ghost.rn [] rfl rfl (FLe.same rfl FLe.nil) HLe.nil rfl) (J2 (x38.2.1 == 0) hr)
          · replace hr := iteF hr h6
            refine AB.rw ?_
            refine wS (v := (eI .u64 x38.1)) (sv (d_move rfl)) ?_
            refine wS (v := (eB (x38.1 == 0))) (sv (d_bin rfl rfl (bin_eql ..))) ?_
            refine wS (v := (eB (x38.1 == 0))) (sv (d_move rfl)) ?_
            refine wS (svX rfl rfl h6) ?_
            refine wS (svX rfl rfl h6) ?_
            refine wS (v := (eB false)) (sv (d_pickF rfl h6 rfl)) ?_
            refine wS (v := (eB false)) (sv (d_assign rfl)) ?_
            refine OpsW.nil ?_
            refine Ex.then_mk ?_
            exact hG2 _ _ _ _ (Ghost.rn [] rfl rfl (FLe.same rfl FLe.nil) HLe.nil rfl) (J2 false hr)
        · replace hr := iteF hr h5
          refine AB.skip ?_
          refine Ex.then_mk ?_
          refine AB.seq ?_
          replace hr := bnd hr; obtain ⟨x54, h_7, hr⟩ := hr
          refine AB.rw ?_
          refine wS (v := (.agg [(.row (some true) 1 []), (eI .i64 0)])) (sv (d_build rfl (bldS ti24 pl24 rfl))) ?_
          refine wS (v := (eI .u64 x38.1)) (sv (d_move rfl)) ?_
          refine wS (v := (eI .i64 (IntKind.i64.wrap (Int.tmod p 33)))) (sv (d_move rfl)) ?_
          refine wC (v := (.tup [(.agg [(.sl 1 0 x54.1.length 1 false), (eI .i64 x54.2.1)]), (eI .i64 x54.2.2)])) (h' := [some ⟨24, [(.row none 1 (b_Data.map (eI .u8))), (eI .i64 b_N)]⟩, some ⟨5, x54.1.map (eI .u8)⟩]) rfl (Vm.Fn.argsLe (Vm.Fn.lendB (bits_AppendRice_ok N [] 0 x38.1 (IntKind.i64.wrap (Int.tmod p 33)) x54 h_7) [] (by decide) rfl Lend.nil rfl rfl (by simp only [lent, lendSet, lendSet_nil, rnH, Blk.rn, V.rns, V.rn, sg, List.map_cons, List.map_nil, Option.map_some, Option.map_none, List.drop_succ_cons, List.drop_zero, List.drop_nil, List.set_cons_zero, List.set_cons_succ, List.cons_append, List.nil_append, List.append_nil, rns_eI, rns_eB, rns_eS, rns_eL, List.getElem?_cons_zero, List.getElem?_cons_succ, List.getElem?_nil, List.length_cons, List.length_nil, Nat.reduceAdd, Nat.reduceSub, Nat.add_zero, Nat.zero_add, Nat.sub_self, Nat.sub_zero])) (V.les_cons (V.le_agg (V.les_cons V.le_nil (V.les_cons (V.le_refl _ _) V.les_nil))) (V.les_cons (V.le_refl _ _) (V.les_cons (V.le_refl _ _) V.les_nil)))) ?_
          refine wS (v := (.tup [(.agg [(.sl 1 0 x54.1.length 1 false), (eI .i64 x54.2.1)]), (eI .i64 x54.2.2)])) (sv (d_move rfl)) ?_
          refine wS (v := (.agg [(.sl 1 0 x54.1.length 1 false), (eI .i64 x54.2.1)])) (sv (d_ext rfl rfl)) ?_
          refine wS (v := (eI .i64 x54.2.2)) (sv (d_ext rfl rfl)) ?_
          refine wS (v := (.ptr 2 0)) (h' := [some ⟨24, [(.row none 1 (b_Data.map (eI .u8))), (eI .i64 b_N)]⟩, some ⟨5, x54.1.map (eI .u8)⟩, some ⟨24, [(.row (some true) 1 []), (eI .i64 0)]⟩]) (sv (d_alloc ti24 rfl rfl rfl)) ?_
          refine wN (h' := [some ⟨24, [(.row none 1 (b_Data.map (eI .u8))), (eI .i64 b_N)]⟩, some ⟨5, x54.1.map (eI .u8)⟩, some ⟨24, [(.sl 1 0 x54.1.length 1 false), (eI .i64 x54.2.1)]⟩]) (sv (d_store rfl rfl (stP ti24 rfl rfl rfl (Nat.le_of_ble_eq_true rfl) rfl))) ?_
          refine wS (v := (eI .i64 x54.2.2)) (sv (d_assign rfl)) ?_
          refine OpsW.nil ?_
          refine Ex.then_mk ?_
          refine AB.seq ?_
          refine AB.seq_g fun K3 hK3 hG3 => ?_
          have J3 : ∀ (x67 : Bool), law18_BitsCodes_J3 N b_Data b_N vat x54 x67 = some r → K3 (mkF 102 [(1, (eI .u8 vat)), (3, (.ptr 0 0)), (11, (.ptr 1 0)), (67, (eB x67))]) [some ⟨24, [(.row none 1 (b_Data.map (eI .u8))), (eI .i64 b_N)]⟩, some ⟨24, [(.sl 2 0 x54.1.length 1 false), (eI .i64 x54.2.1)]⟩, some ⟨5, x54.1.map (eI .u8)⟩] := by
            intro x67 hr
            unfold law18_BitsCodes_J3 at hr
            refine hK3 _ _ ?_
            refine AB.cnd rfl (fun h8 => ?_) (fun h8 => ?_)
            · replace hr := iteT hr h8
              refine AB.seq ?_
              refine AB.rw ?_
              refine wS (v := (eB false)) (sv (d_assign rfl)) ?_
              refine OpsW.nil ?_
              refine Ex.then_mk ?_
              refine AB.ret ?_
              refine Ex.then_ret_mk ?_
              obtain rfl := Option.some.inj hr
              exact done_ret (r1 := (eB false)) (res1 Try.results9 (rvT rfl)) (Ghost.rn [] rfl rfl (FLe.same rfl FLe.nil) HLe.nil rfl)
            · replace hr := iteF hr h8
              refine AB.skip ?_
              refine Ex.then_mk ?_
              refine AB.seq_g fun K4 hK4 hG4 => ?_
              have J4 : law18_BitsCodes_J4 N = some r → K4 (mkF 102 []) [] := by
                intro hr
                unfold law18_BitsCodes_J4 at hr
                refine hK4 _ _ ?_
                refine AB.seq ?_
                refine AB.rw ?_
                refine wS (v := (eB true)) (sv (d_assign rfl)) ?_
                refine OpsW.nil ?_
                refine Ex.then_mk ?_
                refine AB.ret ?_
                obtain rfl := Option.some.inj hr
                exact done_ret (r1 := (eB true)) (res1 Try.results9 (rvT rfl)) (Ghost.rn [] rfl rfl (FLe.same rfl FLe.nil) HLe.nil rfl)
              refine AB.seq ?_
              refine AB.rw ?_
              refine wS (v := (eI .i64 0)) (sv (d_assign rfl)) ?_
              refine OpsW.nil ?_
              refine Ex.then_mk ?_
              replace hr := bnd hr; obtain ⟨res5, hL5, hr⟩ := hr
              refine AB.block ?_
              refine AB.loopN (fun m s h => ∃ (vi : Int), law18_BitsCodes_L5 N b_Data b_N vat x54 m vi = some res5 ∧ Ghost 0 s h (mkF 102 [(1, (eI .u8 vat)), (3, (.ptr 0 0)), (11, (.ptr 1 0)), (13, (eI .i64 vi))]) [some ⟨24, [(.row none 1 (b_Data.map (eI .u8))), (eI .i64 b_N)]⟩, some ⟨24, [(.sl 2 0 x54.1.length 1 false), (eI .i64 x54.2.1)]⟩, some ⟨5, x54.1.map (eI .u8)⟩]) (n := N) ⟨0, hL5, (Ghost.rn [0, 1, 2] rfl rfl (FLe.same rfl (FLe.same rfl (FLe.same rfl (FLe.same rfl FLe.nil)))) (HLe.live rfl (V.les_refl _ _) rfl (HLe.live rfl (V.les_refl _ _) rfl (HLe.live rfl (les_map (fun _ => rfl) _) (all_map (fun _ => rfl) _) HLe.nil))) rfl)⟩ (by rintro s h ⟨_, h0, _⟩; simp [law18_BitsCodes_L5] at h0) ?_
              rintro m5 s h ⟨vi, hr5, hg⟩
              refine AB.ghost hg ?_
              clear hg hL5
              rw [law18_BitsCodes_L5] at hr5
              refine AB.seq ?_
              refine AB.seq ?_
              refine AB.rw ?_
              refine wS (v := (eI .i64 vi)) (sv (d_move rfl)) ?_
              refine wS (v := (.ptr 1 1)) (sv (d_fa rfl (fap24_1 ..))) ?_
              refine wS (v := (eI .i64 x54.2.1)) (sv (d_load rfl (ldP rfl (part1 ti3 rfl rfl)))) ?_
              refine wS (v := (eB (decide (vi < x54.2.1)))) (sv (d_bin rfl rfl (bin_lss ..))) ?_
              refine OpsW.nil ?_
              refine Ex.then_mk ?_
              refine AB.cnd rfl (fun h9 => ?_) (fun h9 => ?_)
              · replace hr5 := iteT hr5 h9
                refine AB.skip ?_
                refine Ex.then_mk ?_
                refine AB.seq ?_
                refine AB.block ?_
                refine AB.seq ?_
                replace hr5 := bnd hr5; obtain ⟨x80, h_10, hr5⟩ := hr5
                refine AB.rw ?_
                refine wS (v := (.agg [(.row none 1 (b_Data.map (eI .u8))), (eI .i64 b_N)])) (sv (d_load rfl (ldP rfl (partN (ds := [(.row none 1 (b_Data.map (eI .u8))), (eI .i64 b_N)]) ti24 rfl (Nat.le_of_ble_eq_true rfl) rfl)))) ?_
                refine wS (v := (eI .u8 vat)) (sv (d_move rfl)) ?_
                refine wS (v := (eI .i64 (IntKind.i64.wrap vat))) (sv (d_conv rfl (conv_int _ ⟨_, ti5⟩ ti3 rfl))) ?_
                refine wS (v := (eI .i64 vi)) (sv (d_move rfl)) ?_
                refine wS (v := (eI .i64 (IntKind.i64.wrap ((IntKind.i64.wrap vat) + vi)))) (sv (d_bin rfl rfl (bin_add ..))) ?_
                refine wC (v := (.tup [(eI .u64 x80.1), (eI .i64 x80.2.1), (eI .i64 x80.2.2)])) (h' := [some ⟨24, [(.row none 1 (b_Data.map (eI .u8))), (eI .i64 b_N)]⟩, some ⟨24, [(.sl 2 0 x54.1.length 1 false), (eI .i64 x54.2.1)]⟩, some ⟨5, x54.1.map (eI .u8)⟩]) rfl (Vm.Fn.pure (bits_Read_ok N b_Data b_N (IntKind.i64.wrap ((IntKind.i64.wrap vat) + vi)) 1 x80 h_10) rfl rfl) ?_
                refine wS (v := (.tup [(eI .u64 x80.1), (eI .i64 x80.2.1), (eI .i64 x80.2.2)])) (sv (d_move rfl)) ?_
                refine wS (v := (eI .u64 x80.1)) (sv (d_ext rfl rfl)) ?_
                refine wS (v := (eI .i64 x80.2.1)) (sv (d_ext rfl rfl)) ?_
                refine wS (v := (eI .i64 x80.2.2)) (sv (d_ext rfl rfl)) ?_
                refine wS (v := (eI .u64 x80.1)) (sv (d_assign rfl)) ?_
                refine wS (v := (eI .i64 x80.2.1)) (sv (d_assign rfl)) ?_
                refine wS (v := (eI .i64 x80.2.2)) (sv (d_assign rfl)) ?_
                refine OpsW.nil ?_
                refine Ex.then_mk ?_
                refine AB.seq ?_
                replace hr5 := bnd hr5; obtain ⟨x87, h_11, hr5⟩ := hr5
                refine AB.rw ?_
                refine wS (v := (.agg [(.sl 2 0 x54.1.length 1 false), (eI .i64 x54.2.1)])) (sv (d_load rfl (ldP rfl (partN (ds := [(.sl 2 0 x54.1.length 1 false), (eI .i64 x54.2.1)]) ti24 rfl (Nat.le_of_ble_eq_true rfl) rfl)))) ?_
                refine wS (v := (eI .i64 vi)) (sv (d_move rfl)) ?_
                refine wC (v := (.tup [(eI .u64 x87.1), (eI .i64 x87.2.1), (eI .i64 x87.2.2)])) (h' := [some ⟨24, [(.row none 1 (b_Data.map (eI .u8))), (eI .i64 b_N)]⟩, some ⟨24, [(.sl 2 0 x54.1.length 1 false), (eI .i64 x54.2.1)]⟩, some ⟨5, x54.1.map (eI .u8)⟩]) rfl (Vm.Fn.lendR (bits_Read_ok N x54.1 x54.2.1 vi 1 x87 h_11) [] [2] (by decide) rfl (by decide) Lend.nil (Brw.row (exp_agg (exp_cons (exp_sl (d := 3) rfl rfl (fun _ => rfl)) (exp_cons rfl exp_nil))) (Brw.same rfl (Brw.same rfl Brw.nil))) rfl rfB.nil rfl (by simp only [lent, lendSet, lendSet_nil, rnH, Blk.rn, V.rns, V.rn, sg, List.map_cons, List.map_nil, Option.map_some, Option.map_none, List.drop_succ_cons, List.drop_zero, List.drop_nil, List.set_cons_zero, List.set_cons_succ, List.cons_append, List.nil_append, List.append_nil, rns_eI, rns_eB, rns_eS, rns_eL, List.getElem?_cons_zero, List.getElem?_cons_succ, List.getElem?_nil, List.length_cons, List.length_nil, Nat.reduceAdd, Nat.reduceSub, Nat.add_zero, Nat.zero_add, Nat.sub_self, Nat.sub_zero])) ?_
                refine wS (v := (.tup [(eI .u64 x87.1), (eI .i64 x87.2.1), (eI .i64 x87.2.2)])) (sv (d_move rfl)) ?_
                refine wS (v := (eI .u64 x87.1)) (sv (d_ext rfl rfl)) ?_
                refine wS (v := (eI .i64 x87.2.1)) (sv (d_ext rfl rfl)) ?_
                refine wS (v := (eI .i64 x87.2.2)) (sv (d_ext rfl rfl)) ?_
                refine wS (v := (eI .u64 x87.1)) (sv (d_assign rfl)) ?_
                refine wS (v := (eI .i64 x87.2.1)) (sv (d_assign rfl)) ?_
                refine wS (v := (eI .i64 x87.2.2)) (sv (d_assign rfl)) ?_
                refine OpsW.nil ?_
                refine Ex.then_mk ?_
                refine AB.seq_g fun K6 hK6 hG6 => ?_
                have J6 : ∀ (x101 : Bool), law18_BitsCodes_J6 N b_Data b_N vat x54 vi (law18_BitsCodes_L5 N b_Data b_N vat x54 m5) x101 = some res5 → K6 (mkF 102 [(1, (eI .u8 vat)), (3, (.ptr 0 0)), (11, (.ptr 1 0)), (13, (eI .i64 vi)), (101, (eB x101))]) [some ⟨24, [(.row none 1 (b_Data.map (eI .u8))), (eI .i64 b_N)]⟩, some ⟨24, [(.sl 2 0 x54.1.length 1 false), (eI .i64 x54.2.1)]⟩, some ⟨5, x54.1.map (eI .u8)⟩] := by
                  intro x101 hr5
                  unfold law18_BitsCodes_J6 at hr5
                  refine hK6 _ _ ?_
                  refine AB.cnd rfl (fun h12 => ?_) (fun h12 => ?_)
                  · replace hr5 := iteT hr5 h12
                    refine AB.seq ?_
                    refine AB.rw ?_
                    refine wS (v := (eB false)) (sv (d_assign rfl)) ?_
                    refine OpsW.nil ?_
                    refine Ex.then_mk ?_
                    refine AB.ret ?_
                    refine Ex.inBlock_ret_mk ?_
                    refine Ex.then_ret_mk ?_
                    refine Ex.then_ret_mk ?_
                    refine Ex.inBlock_ret_mk ?_
                    refine Ex.then_ret_mk ?_
                    obtain rfl := Option.some.inj hr5
                    obtain rfl := Option.some.inj hr
                    exact done_ret (r1 := (eB false)) (res1 Try.results9 (rvT rfl)) (Ghost.rn [] rfl rfl (FLe.same rfl FLe.nil) HLe.nil rfl)
                  · replace hr5 := iteF hr5 h12
                    refine AB.skip ?_
                    refine Ex.inBlock_mk ?_
                    refine Ex.then_mk ?_
                    refine AB.rw ?_
                    refine wS (v := (eI .i64 vi)) (sv (d_move rfl)) ?_
                    refine wS (v := (eI .i64 (IntKind.i64.wrap (vi + 1)))) (sv (d_bin rfl rfl (bin_add ..))) ?_
                    refine wS (v := (eI .i64 (IntKind.i64.wrap (vi + 1)))) (sv (d_assign rfl)) ?_
                    refine OpsW.nil ?_
                    refine Ex.then_mk ?_
                    exact ⟨IntKind.i64.wrap (vi + 1), hr5, (Ghost.rn [0, 1, 2] rfl rfl (FLe.same rfl (FLe.same rfl (FLe.same rfl (FLe.same rfl FLe.nil)))) (HLe.live rfl (V.les_refl _ _) rfl (HLe.live rfl (V.les_refl _ _) rfl (HLe.live rfl (les_map (fun _ => rfl) _) (all_map (fun _ => rfl) _) HLe.nil))) rfl)⟩
                rcases Bool.eq_false_or_eq_true (x80.2.2 != 0) with h13 | h13
                · replace hr5 := iteT hr5 h13
                  refine AB.rw ?_
                  refine wS (v := (eI .i64 x80.2.2)) (sv (d_move rfl)) ?_
                  refine wS (v := (eB (x80.2.2 != 0))) (sv (d_bin rfl rfl (bin_neq ..))) ?_
                  refine wS (v := (eB (x80.2.2 != 0))) (sv (d_move rfl)) ?_
                  refine wS (svX rfl rfl h13) ?_
                  refine wS (svX rfl rfl h13) ?_
                  refine wS (v := (eB true)) (sv (d_pickT rfl h13 rfl)) ?_
                  refine wS (v := (eB true)) (sv (d_move rfl)) ?_
                  refine wS (svX rfl rfl rfl) ?_
                  refine wS (svX rfl rfl rfl) ?_
                  refine wS (svX rfl rfl rfl) ?_
                  refine wS (v := (eB true)) (sv (d_pickT rfl rfl rfl)) ?_
                  refine OpsW.nil ?_
                  refine Ex.then_mk ?_
                  exact hG6 _ _ _ _ (Ghost.rn [0, 1, 2] rfl rfl (FLe.same rfl (FLe.same rfl (FLe.same rfl (FLe.same rfl (FLe.same rfl FLe.nil))))) (HLe.live rfl (V.les_refl _ _) rfl (HLe.live rfl (V.les_refl _ _) rfl (HLe.live rfl (les_map (fun _ => rfl) _) (all_map (fun _ => rfl) _) HLe.nil))) rfl) (J6 true hr5)
                · replace hr5 := iteF hr5 h13
                  rcases Bool.eq_false_or_eq_true (x87.2.2 != 0) with h14 | h14
                  · replace hr5 := iteT hr5 h14
                    refine AB.rw ?_
                    refine wS (v := (eI .i64 x80.2.2)) (sv (d_move rfl)) ?_
                    refine wS (v := (eB (x80.2.2 != 0))) (sv (d_bin rfl rfl (bin_neq ..))) ?_
                    refine wS (v := (eB (x80.2.2 != 0))) (sv (d_move rfl)) ?_
                    refine wS (v := (eI .i64 x87.2.2)) (svG rfl rfl h13 (d_move rfl)) ?_
                    refine wS (v := (eB (x87.2.2 != 0))) (svG rfl rfl h13 (d_bin rfl rfl (bin_neq ..))) ?_
                    refine wS (v := (eB (x87.2.2 != 0))) (sv (d_pickF rfl h13 rfl)) ?_
                    refine wS (v := (eB (x87.2.2 != 0))) (sv (d_move rfl)) ?_
                    refine wS (svX rfl rfl h14) ?_
                    refine wS (svX rfl rfl h14) ?_
                    refine wS (svX rfl rfl h14) ?_
                    refine wS (v := (eB true)) (sv (d_pickT rfl h14 rfl)) ?_
                    refine OpsW.nil ?_
                    refine Ex.then_mk ?_
                    exact hG6 _ _ _ _ (Ghost.rn [0, 1, 2] rfl rfl (FLe.same rfl (FLe.same rfl (FLe.same rfl (FLe.same rfl (FLe.same rfl FLe.nil))))) (HLe.live rfl (V.les_refl _ _) rfl (HLe.live rfl (V.les_refl _ _) rfl (HLe.live rfl (les_map (fun _ => rfl) _) (all_map (fun _ => rfl) _) HLe.nil))) rfl) (J6 true hr5)
                  · replace hr5 := iteF hr5 h14
                    refine AB.rw ?_
                    refine wS (v := (eI .i64 x80.2.2)) (sv (d_move rfl)) ?_
                    refine wS (v := (eB (x80.2.2 != 0))) (sv (d_bin rfl rfl (bin_neq ..))) ?_
                    refine wS (v := (eB (x80.2.2 != 0))) (sv (d_move rfl)) ?_
                    refine wS (v := (eI .i64 x87.2.2)) (svG rfl rfl h13 (d_move rfl)) ?_
                    refine wS (v := (eB (x87.2.2 != 0))) (svG rfl rfl h13 (d_bin rfl rfl (bin_neq ..))) ?_
                    refine wS (v := (eB (x87.2.2 != 0))) (sv (d_pickF rfl h13 rfl)) ?_
                    refine wS (v := (eB (x87.2.2 != 0))) (sv (d_move rfl)) ?_
                    refine wS (v := (eI .u64 x80.1)) (svG rfl rfl h14 (d_move rfl)) ?_
                    refine wS (v := (eI .u64 x87.1)) (svG rfl rfl h14 (d_move rfl)) ?_
                    refine wS (v := (eB (x80.1 != x87.1))) (svG rfl rfl h14 (d_bin rfl rfl (bin_neq ..))) ?_
                    refine wS (v := (eB (x80.1 != x87.1))) (sv (d_pickF rfl h14 rfl)) ?_
                    refine OpsW.nil ?_
                    refine Ex.then_mk ?_
                    exact hG6 _ _ _ _ (Ghost.rn [0, 1, 2] rfl rfl (FLe.same rfl (FLe.same rfl (FLe.same rfl (FLe.same rfl (FLe.same rfl FLe.nil))))) (HLe.live rfl (V.les_refl _ _) rfl (HLe.live rfl (V.les_refl _ _) rfl (HLe.live rfl (les_map (fun _ => rfl) _) (all_map (fun _ => rfl) _) HLe.nil))) rfl) (J6 (x80.1 != x87.1) hr5)
              · replace hr5 := iteF hr5 h9
                refine AB.exit ?_
                refine Ex.then_exit_mk ?_
                refine Ex.then_exit_mk ?_
                refine Ex.inBlock_same_mk ?_
                obtain rfl := Option.some.inj hr5
                refine Ex.then_mk ?_
                exact hG4 _ _ _ _ (Ghost.rn [] rfl rfl FLe.nil HLe.nil rfl) (J4 hr)
          rcases Bool.eq_false_or_eq_true (x54.2.2 != 0) with h15 | h15
          · replace hr := iteT hr h15
            refine AB.rw ?_
            refine wS (v := (eI .i64 x54.2.2)) (sv (d_move rfl)) ?_
            refine wS (v := (eB (x54.2.2 != 0))) (sv (d_bin rfl rfl (bin_neq ..))) ?_
            refine wS (v := (eB (x54.2.2 != 0))) (sv (d_move rfl)) ?_
            refine wS (svX rfl rfl h15) ?_
            refine wS (svX rfl rfl h15) ?_
            refine wS (svX rfl rfl h15) ?_
            refine wS (svX rfl rfl h15) ?_
            refine wS (svX rfl rfl h15) ?_
            refine wS (svX rfl rfl h15) ?_
            refine wS (svX rfl rfl h15) ?_
            refine wS (v := (eB true)) (sv (d_pickT rfl h15 rfl)) ?_
            refine OpsW.nil ?_
            refine Ex.then_mk ?_
            exact hG3 _ _ _ _ (Ghost.rn [0, 2, 1] rfl rfl (FLe.same rfl (FLe.same rfl (FLe.same rfl (FLe.same rfl FLe.nil)))) (HLe.live rfl (V.les_refl _ _) rfl (HLe.live rfl (V.les_refl _ _) rfl (HLe.live rfl (les_map (fun _ => rfl) _) (all_map (fun _ => rfl) _) HLe.nil))) rfl) (J3 true hr)
          · replace hr := iteF hr h15
            refine AB.rw ?_
            refine wS (v := (eI .i64 x54.2.2)) (sv (d_move rfl)) ?_
            refine wS (v := (eB (x54.2.2 != 0))) (sv (d_bin rfl rfl (bin_neq ..))) ?_
            refine wS (v := (eB (x54.2.2 != 0))) (sv (d_move rfl)) ?_
            refine wS (v := (eI .i64 x38.2.1)) (svG rfl rfl h15 (d_move rfl)) ?_
            refine wS (v := (eI .u8 vat)) (svG rfl rfl h15 (d_move rfl)) ?_
            refine wS (v := (eI .i64 (IntKind.i64.wrap vat))) (svG rfl rfl h15 (d_conv rfl (conv_int _ ⟨_, ti5⟩ ti3 rfl))) ?_
            refine wS (v := (.ptr 2 1)) (svG rfl rfl h15 (d_fa rfl (fap24_1 ..))) ?_
            refine wS (v := (eI .i64 x54.2.1)) (svG rfl rfl h15 (d_load rfl (ldP rfl (part1 ti3 rfl rfl)))) ?_
            refine wS (v := (eI .i64 (IntKind.i64.wrap ((IntKind.i64.wrap vat) + x54.2.1)))) (svG rfl rfl h15 (d_bin rfl rfl (bin_add ..))) ?_
            refine wS (v := (eB (x38.2.1 != (IntKind.i64.wrap ((IntKind.i64.wrap vat) + x54.2.1))))) (svG rfl rfl h15 (d_bin rfl rfl (bin_neq ..))) ?_
            refine wS (v := (eB (x38.2.1 != (IntKind.i64.wrap ((IntKind.i64.wrap vat) + x54.2.1))))) (sv (d_pickF rfl h15 rfl)) ?_
            refine OpsW.nil ?_
            refine Ex.then_mk ?_
            exact hG3 _ _ _ _ (Ghost.rn [0, 2, 1] rfl rfl (FLe.same rfl (FLe.same rfl (FLe.same rfl (FLe.same rfl FLe.nil)))) (HLe.live rfl (V.les_refl _ _) rfl (HLe.live rfl (V.les_refl _ _) rfl (HLe.live rfl (les_map (fun _ => rfl) _) (all_map (fun _ => rfl) _) HLe.nil))) rfl) (J3 (x38.2.1 != (IntKind.i64.wrap ((IntKind.i64.wrap vat) + x54.2.1))) hr)
    replace hr := bnd hr; obtain ⟨x23, h_16, hr⟩ := hr
    rcases Bool.eq_false_or_eq_true (!x23) with h17 | h17
    · replace hr := iteT hr h17
      refine AB.rw ?_
      refine wS (v := (.agg [(.row none 1 (b_Data.map (eI .u8))), (eI .i64 b_N)])) (sv (d_load rfl (ldP rfl (partN (ds := [(.row none 1 (b_Data.map (eI .u8))), (eI .i64 b_N)]) ti24 rfl (Nat.le_of_ble_eq_true rfl) rfl)))) ?_
      refine wC (v := (eB x23)) (h' := [some ⟨24, [(.row none 1 (b_Data.map (eI .u8))), (eI .i64 b_N)]⟩]) rfl (Vm.Fn.pure (law18_kept_ok N b_Data b_N x23 h_16) rfl rfl) ?_
      refine wS (v := (eB (!x23))) (sv (d_un rfl (un_not _ _))) ?_
      refine wS (v := (eB (!x23))) (sv (d_move rfl)) ?_
      refine wS (svX rfl rfl h17) ?_
      refine wS (svX rfl rfl h17) ?_
      refine wS (svX rfl rfl h17) ?_
      refine wS (v := (eB true)) (sv (d_pickT rfl h17 rfl)) ?_
      refine OpsW.nil ?_
      refine Ex.then_mk ?_
      exact hG1 _ _ _ _ (Ghost.rn [0] rfl rfl (FLe.same rfl (FLe.same rfl (FLe.same rfl (FLe.same rfl FLe.nil)))) (HLe.live rfl (V.les_refl _ _) rfl HLe.nil) rfl) (J1 true hr)
    · replace hr := iteF hr h17
      replace hr := bnd hr; obtain ⟨x27, h_18, hr⟩ := hr
      refine AB.rw ?_
      refine wS (v := (.agg [(.row none 1 (b_Data.map (eI .u8))), (eI .i64 b_N)])) (sv (d_load rfl (ldP rfl (partN (ds := [(.row none 1 (b_Data.map (eI .u8))), (eI .i64 b_N)]) ti24 rfl (Nat.le_of_ble_eq_true rfl) rfl)))) ?_
      refine wC (v := (eB x23)) (h' := [some ⟨24, [(.row none 1 (b_Data.map (eI .u8))), (eI .i64 b_N)]⟩]) rfl (Vm.Fn.pure (law18_kept_ok N b_Data b_N x23 h_16) rfl rfl) ?_
      refine wS (v := (eB (!x23))) (sv (d_un rfl (un_not _ _))) ?_
      refine wS (v := (eB (!x23))) (sv (d_move rfl)) ?_
      refine wS (v := (.agg [(.row none 1 (b_Data.map (eI .u8))), (eI .i64 b_N)])) (svG rfl rfl h17 (d_load rfl (ldP rfl (partN (ds := [(.row none 1 (b_Data.map (eI .u8))), (eI .i64 b_N)]) ti24 rfl (Nat.le_of_ble_eq_true rfl) rfl)))) ?_
      refine wCG (v := (eB x27)) (h' := [some ⟨24, [(.row none 1 (b_Data.map (eI .u8))), (eI .i64 b_N)]⟩]) rfl rfl h17 rfl (Vm.Fn.pure (bits_Valid_ok N b_Data b_N x27 h_18) rfl rfl) ?_
      refine wS (v := (eB (!x27))) (svG rfl rfl h17 (d_un rfl (un_not _ _))) ?_
      refine wS (v := (eB (!x27))) (sv (d_pickF rfl h17 rfl)) ?_
      refine OpsW.nil ?_
      refine Ex.then_mk ?_
      exact hG1 _ _ _ _ (Ghost.rn [0] rfl rfl (FLe.same rfl (FLe.same rfl (FLe.same rfl (FLe.same rfl FLe.nil)))) (HLe.live rfl (V.les_refl _ _) rfl HLe.nil) rfl) (J1 (!x27) hr)
end Go.Proofs.Ytbcmdojknonpgaa
