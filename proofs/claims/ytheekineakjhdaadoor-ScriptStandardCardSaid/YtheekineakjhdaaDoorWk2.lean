/- Walks printed by a program of ours (gen.py): each Go function of the list does what its shallow function says. -/
import Derived.Test.YtheekineakjhdaaDoorWk1
set_option linter.unusedVariables false
set_option linter.unusedSimpArgs false
namespace Go.Proofs.YtheekineakjhdaaDoor
open Go Go.Vm
set_option maxRecDepth 20000 in
set_option maxHeartbeats 1000000 in
theorem script_next_ok (N : Nat) (b : List Int) (r : Int × (List Int) × Int × Int × (List Int) × Int) (hr : script_next N b = some r) :
    Vm.Fn Tryd.prog 35 [] [(.row none 1 (b.map (eI .u8)))] (.tup [(.agg [(eI .i64 r.1), (.sl 0 0 r.2.1.length 1 false), (eI .i64 r.2.2.1), (eI .i64 r.2.2.2.1)]), (.row none 1 (r.2.2.2.2.1.map (eI .u8))), (eI .i64 r.2.2.2.2.2)]) [some ⟨5, r.2.1.map (eI .u8)⟩] := by
  refine fn_ab Tryd.func35 rfl (by kernel_rfl) Tryd.ntmps35 (Nat.le_of_ble_eq_true rfl) rfl (fr := [(0, (.row none 1 (b.map (eI .u8))))]) rfl ?_
  unfold script_next at hr
  refine AB.seq ?_
  refine AB.rw ?_
  refine wS (v := (.ptr 0 0)) (h' := [some ⟨59, [(eI .i64 0), (.row (some true) 1 []), (eI .i64 0), (eI .i64 0)]⟩]) (sv (d_alloc ti59 rfl rfl rfl)) ?_
  refine wS (v := (.row (some true) 1 [])) (sv (d_assign rfl)) ?_
  refine wS (v := (eI .i64 0)) (sv (d_assign rfl)) ?_
  refine OpsW.nil ?_
  refine Ex.then_mk ?_
  refine AB.seq ?_
  replace hr := bnd hr; obtain ⟨x8, h_1, hr⟩ := hr
  refine AB.rw ?_
  refine wS (v := (.row none 1 (b.map (eI .u8)))) (sv (d_move rfl)) ?_
  refine wS (sv (d_ia rfl rfl (iaR ti22 ti5 h_1))) ?_
  refine wS (v := (eI .u8 x8)) (sv (d_load rfl (ldR h_1 (part1 ti5 rfl rfl)))) ?_
  refine wS (v := (eI .i64 (IntKind.i64.wrap x8))) (sv (d_conv rfl (conv_int _ ⟨_, ti5⟩ ti3 rfl))) ?_
  refine wS (v := (.agg [(eI .i64 (IntKind.i64.wrap x8)), (.row (some true) 1 []), (eI .i64 0), (eI .i64 0)])) (sv (d_build rfl (bldS ti59 pl59 rfl))) ?_
  refine wS (v := (.ptr 1 0)) (h' := [some ⟨59, [(eI .i64 0), (.row (some true) 1 []), (eI .i64 0), (eI .i64 0)]⟩, some ⟨59, [(eI .i64 0), (.row (some true) 1 []), (eI .i64 0), (eI .i64 0)]⟩]) (sv (d_alloc ti59 rfl rfl rfl)) ?_
  refine wN (h' := [some ⟨59, [(eI .i64 0), (.row (some true) 1 []), (eI .i64 0), (eI .i64 0)]⟩, some ⟨59, [(eI .i64 (IntKind.i64.wrap x8)), (.row (some true) 1 []), (eI .i64 0), (eI .i64 0)]⟩]) (sv (d_store rfl rfl (stP ti59 rfl rfl rfl (Nat.le_of_ble_eq_true rfl) rfl))) ?_
  refine OpsW.nil ?_
  refine Ex.then_mk ?_
  refine AB.seq ?_
  refine AB.seq ?_
  replace hr := bnd hr; obtain ⟨x14, h_2, hr⟩ := hr
  refine AB.rw ?_
  refine wS (v := (.ptr 1 0)) (sv (d_fa rfl (fap59_0 ..))) ?_
  refine wS (v := (eI .i64 (IntKind.i64.wrap x8))) (sv (d_load rfl (ldP rfl (part1 ti3 rfl rfl)))) ?_
  refine wC (v := (eB x14)) (h' := [some ⟨59, [(eI .i64 0), (.row (some true) 1 []), (eI .i64 0), (eI .i64 0)]⟩, some ⟨59, [(eI .i64 (IntKind.i64.wrap x8)), (.row (some true) 1 []), (eI .i64 0), (eI .i64 0)]⟩]) rfl (Vm.Fn.pure (script_known_ok N (IntKind.i64.wrap x8) x14 h_2) rfl rfl) ?_
  refine wS (v := (eB (!x14))) (sv (d_un rfl (un_not _ _))) ?_
  refine OpsW.nil ?_
  refine Ex.then_mk ?_
  refine AB.cnd rfl (fun h3 => ?_) (fun h3 => ?_)
  · replace hr := iteT hr h3
    refine AB.seq ?_
    refine AB.rw ?_
    refine wS (v := (.agg [(eI .i64 0), (.row (some true) 1 []), (eI .i64 0), (eI .i64 0)])) (sv (d_build rfl (bldS ti59 pl59 rfl))) ?_
    refine wN (h' := [some ⟨59, [(eI .i64 0), (.row (some true) 1 []), (eI .i64 0), (eI .i64 0)]⟩, some ⟨59, [(eI .i64 (IntKind.i64.wrap x8)), (.row (some true) 1 []), (eI .i64 0), (eI .i64 0)]⟩]) (sv (d_store rfl rfl (stP ti59 rfl rfl rfl (Nat.le_of_ble_eq_true rfl) rfl))) ?_
    refine wS (v := (.row (some true) 1 [])) (sv (d_assign rfl)) ?_
    refine wS (v := (eI .i64 80)) (sv (d_assign rfl)) ?_
    refine OpsW.nil ?_
    refine Ex.then_mk ?_
    refine AB.ret ?_
    refine Ex.then_ret_mk ?_
    obtain rfl := Option.some.inj hr
    exact done_ret (r1 := (.tup [(.agg [(eI .i64 0), (.row (some true) 1 []), (eI .i64 0), (eI .i64 0)]), (.row (some true) 1 []), (eI .i64 80)])) (res3 Tryd.results35 (rvC rfl (ldP rfl (partN (ds := [(eI .i64 0), (.row (some true) 1 []), (eI .i64 0), (eI .i64 0)]) ti59 rfl (Nat.le_of_ble_eq_true rfl) rfl))) (rvT rfl) (rvT rfl)) (Ghost.trans (Ghost.virt (fr' := [(0, (.tup [(.agg [(eI .i64 0), (.sl 2 0 0 1 false), (eI .i64 0), (eI .i64 0)]), (.row (some true) 1 []), (eI .i64 80)]))]) (h1 := [some ⟨59, [(eI .i64 0), (.row (some true) 1 []), (eI .i64 0), (eI .i64 0)]⟩, some ⟨59, [(eI .i64 (IntKind.i64.wrap x8)), (.row (some true) 1 []), (eI .i64 0), (eI .i64 0)]⟩]) 5 (FLe.le rfl (V.le_tup (V.les_cons (V.le_agg (V.les_cons (V.le_refl _ _) (V.les_cons (V.le_virt rfl) (V.les_cons (V.le_refl _ _) (V.les_cons (V.le_refl _ _) V.les_nil))))) (V.les_cons (V.le_refl _ _) (V.les_cons (V.le_refl _ _) V.les_nil)))) FLe.nil) (HLv.live (V.les_refl _ _) rfl (HLv.live (V.les_refl _ _) rfl HLv.nil))) (Ghost.rn [2] rfl rfl (FLe.le rfl (V.le_tup (V.les_cons (V.le_agg (V.les_cons (V.le_refl _ _) (V.les_cons (by first | exact V.le_refl _ _ | (simp only [len_set, len_cpy]; exact V.le_refl _ _)) (V.les_cons (V.le_refl _ _) (V.les_cons (V.le_refl _ _) V.les_nil))))) (V.les_cons V.le_nil (V.les_cons (V.le_refl _ _) V.les_nil)))) FLe.nil) (HLe.live rfl V.les_nil rfl HLe.nil) rfl))
  · replace hr := iteF hr h3
    refine AB.skip ?_
    refine Ex.then_mk ?_
    refine AB.seq ?_
    replace hr := bnd hr; obtain ⟨x18, h_4, hr⟩ := hr
    refine AB.rw ?_
    refine wS (v := (.row none 1 (b.map (eI .u8)))) (sv (d_move rfl)) ?_
    refine wS (v := (.row none 1 (x18.map (eI .u8)))) (sv (d_slice rfl rfl rfl (slR ti22 ti5 rfl rfl h_4))) ?_
    refine wS (v := (.row none 1 (x18.map (eI .u8)))) (sv (d_assign rfl)) ?_
    refine OpsW.nil ?_
    refine Ex.then_mk ?_
    refine AB.seq_g fun K1 hK1 hG1 => ?_
    have J1 : ∀ (b_1 : List Int) (c1 : Int) (c1_1 : Int) (l2 : List Int), script_next_J1 N x8 b_1 c1 c1_1 l2 = some r → K1 (mkF 78 [(0, (.row none 1 (b_1.map (eI .u8)))), (2, (.ptr 0 0)), (5, (.ptr 1 0))]) [some ⟨59, [(eI .i64 0), (.row (some true) 1 []), (eI .i64 0), (eI .i64 0)]⟩, some ⟨59, [(eI .i64 (IntKind.i64.wrap x8)), (.sl 2 0 l2.length 1 false), (eI .i64 c1), (eI .i64 c1_1)]⟩, some ⟨5, l2.map (eI .u8)⟩] := by
      intro b_1 c1 c1_1 l2 hr
      unfold script_next_J1 at hr
      refine hK1 _ _ ?_
      refine AB.seq ?_
      refine AB.rw ?_
      refine wS (v := (.agg [(eI .i64 (IntKind.i64.wrap x8)), (.sl 2 0 l2.length 1 false), (eI .i64 c1), (eI .i64 c1_1)])) (sv (d_load rfl (ldP rfl (partN (ds := [(eI .i64 (IntKind.i64.wrap x8)), (.sl 2 0 l2.length 1 false), (eI .i64 c1), (eI .i64 c1_1)]) ti59 rfl (Nat.le_of_ble_eq_true rfl) rfl)))) ?_
      refine wS (v := (.row none 1 (b_1.map (eI .u8)))) (sv (d_move rfl)) ?_
      refine wN (h' := [some ⟨59, [(eI .i64 (IntKind.i64.wrap x8)), (.sl 2 0 l2.length 1 false), (eI .i64 c1), (eI .i64 c1_1)]⟩, some ⟨59, [(eI .i64 (IntKind.i64.wrap x8)), (.sl 2 0 l2.length 1 false), (eI .i64 c1), (eI .i64 c1_1)]⟩, some ⟨5, l2.map (eI .u8)⟩]) (sv (d_store rfl rfl (stP ti59 rfl rfl rfl (Nat.le_of_ble_eq_true rfl) rfl))) ?_
      refine wS (v := (.row none 1 (b_1.map (eI .u8)))) (sv (d_assign rfl)) ?_
      refine wS (v := (eI .i64 0)) (sv (d_assign rfl)) ?_
      refine OpsW.nil ?_
      refine Ex.then_mk ?_
      refine AB.ret ?_
      obtain rfl := Option.some.inj hr
      exact done_ret (r1 := (.tup [(.agg [(eI .i64 (IntKind.i64.wrap x8)), (.sl 2 0 l2.length 1 false), (eI .i64 c1), (eI .i64 c1_1)]), (.row none 1 (b_1.map (eI .u8))), (eI .i64 0)])) (res3 Tryd.results35 (rvC rfl (ldP rfl (partN (ds := [(eI .i64 (IntKind.i64.wrap x8)), (.sl 2 0 l2.length 1 false), (eI .i64 c1), (eI .i64 c1_1)]) ti59 rfl (Nat.le_of_ble_eq_true rfl) rfl))) (rvT rfl) (rvT rfl)) (Ghost.rn [2] rfl rfl (FLe.same rfl FLe.nil) (HLe.live rfl (les_map (fun _ => rfl) _) (all_map (fun _ => rfl) _) HLe.nil) rfl)
    refine AB.seq ?_
    refine AB.rw ?_
    refine wS (v := (.ptr 1 0)) (sv (d_fa rfl (fap59_0 ..))) ?_
    refine wS (v := (eI .i64 (IntKind.i64.wrap x8))) (sv (d_load rfl (ldP rfl (part1 ti3 rfl rfl)))) ?_
    refine OpsW.nil ?_
    refine Ex.then_mk ?_
    refine AB.block ?_
    refine AB.seq ?_
    refine AB.rw ?_
    refine wS (v := (eB ((IntKind.i64.wrap x8) == 1))) (sv (d_bin rfl rfl (bin_eql ..))) ?_
    refine wS (v := (eB ((IntKind.i64.wrap x8) == 1))) (sv (d_assign rfl)) ?_
    refine OpsW.nil ?_
    refine Ex.then_mk ?_
    refine AB.cnd rfl (fun h5 => ?_) (fun h5 => ?_)
    · replace hr := iteT hr h5
      refine AB.seq ?_
      refine AB.seq_g fun K2 hK2 hG2 => ?_
      have J2 : ∀ (x35 : Bool), script_next_J2 N x8 x18 x35 = some r → K2 (mkF 78 [(0, (.row none 1 (x18.map (eI .u8)))), (2, (.ptr 0 0)), (5, (.ptr 1 0)), (35, (eB x35))]) [some ⟨59, [(eI .i64 0), (.row (some true) 1 []), (eI .i64 0), (eI .i64 0)]⟩, some ⟨59, [(eI .i64 (IntKind.i64.wrap x8)), (.row (some true) 1 []), (eI .i64 0), (eI .i64 0)]⟩] := by
        intro x35 hr
        unfold script_next_J2 at hr
        refine hK2 _ _ ?_
        refine AB.cnd rfl (fun h6 => ?_) (fun h6 => ?_)
        · replace hr := iteT hr h6
          refine AB.seq ?_
          refine AB.rw ?_
          refine wS (v := (.agg [(eI .i64 0), (.row (some true) 1 []), (eI .i64 0), (eI .i64 0)])) (sv (d_build rfl (bldS ti59 pl59 rfl))) ?_
          refine wN (h' := [some ⟨59, [(eI .i64 0), (.row (some true) 1 []), (eI .i64 0), (eI .i64 0)]⟩, some ⟨59, [(eI .i64 (IntKind.i64.wrap x8)), (.row (some true) 1 []), (eI .i64 0), (eI .i64 0)]⟩]) (sv (d_store rfl rfl (stP ti59 rfl rfl rfl (Nat.le_of_ble_eq_true rfl) rfl))) ?_
          refine wS (v := (.row (some true) 1 [])) (sv (d_assign rfl)) ?_
          refine wS (v := (eI .i64 1)) (sv (d_assign rfl)) ?_
          refine OpsW.nil ?_
          refine Ex.then_mk ?_
          refine AB.ret ?_
          refine Ex.then_ret_mk ?_
          refine Ex.inBlock_ret_mk ?_
          refine Ex.then_ret_mk ?_
          obtain rfl := Option.some.inj hr
          exact done_ret (r1 := (.tup [(.agg [(eI .i64 0), (.row (some true) 1 []), (eI .i64 0), (eI .i64 0)]), (.row (some true) 1 []), (eI .i64 1)])) (res3 Tryd.results35 (rvC rfl (ldP rfl (partN (ds := [(eI .i64 0), (.row (some true) 1 []), (eI .i64 0), (eI .i64 0)]) ti59 rfl (Nat.le_of_ble_eq_true rfl) rfl))) (rvT rfl) (rvT rfl)) (Ghost.trans (Ghost.virt (fr' := [(0, (.tup [(.agg [(eI .i64 0), (.sl 2 0 0 1 false), (eI .i64 0), (eI .i64 0)]), (.row (some true) 1 []), (eI .i64 1)]))]) (h1 := [some ⟨59, [(eI .i64 0), (.row (some true) 1 []), (eI .i64 0), (eI .i64 0)]⟩, some ⟨59, [(eI .i64 (IntKind.i64.wrap x8)), (.row (some true) 1 []), (eI .i64 0), (eI .i64 0)]⟩]) 5 (FLe.le rfl (V.le_tup (V.les_cons (V.le_agg (V.les_cons (V.le_refl _ _) (V.les_cons (V.le_virt rfl) (V.les_cons (V.le_refl _ _) (V.les_cons (V.le_refl _ _) V.les_nil))))) (V.les_cons (V.le_refl _ _) (V.les_cons (V.le_refl _ _) V.les_nil)))) FLe.nil) (HLv.live (V.les_refl _ _) rfl (HLv.live (V.les_refl _ _) rfl HLv.nil))) (Ghost.rn [2] rfl rfl (FLe.le rfl (V.le_tup (V.les_cons (V.le_agg (V.les_cons (V.le_refl _ _) (V.les_cons (by first | exact V.le_refl _ _ | (simp only [len_set, len_cpy]; exact V.le_refl _ _)) (V.les_cons (V.le_refl _ _) (V.les_cons (V.le_refl _ _) V.les_nil))))) (V.les_cons V.le_nil (V.les_cons (V.le_refl _ _) V.les_nil)))) FLe.nil) (HLe.live rfl V.les_nil rfl HLe.nil) rfl))
        · replace hr := iteF hr h6
          refine AB.skip ?_
          refine Ex.then_mk ?_
          refine AB.seq ?_
          replace hr := bnd hr; obtain ⟨x38, h_7, hr⟩ := hr
          refine AB.rw ?_
          refine wS (v := (.row none 1 (x18.map (eI .u8)))) (sv (d_move rfl)) ?_
          refine wS (sv (d_ia rfl rfl (iaR ti22 ti5 h_7))) ?_
          refine wS (v := (eI .u8 x38)) (sv (d_load rfl (ldR h_7 (part1 ti5 rfl rfl)))) ?_
          refine wS (v := (eI .i64 (IntKind.i64.wrap x38))) (sv (d_conv rfl (conv_int _ ⟨_, ti5⟩ ti3 rfl))) ?_
          refine wS (v := (eI .i64 (IntKind.i64.wrap (1 + (IntKind.i64.wrap x38))))) (sv (d_bin rfl rfl (bin_add ..))) ?_
          refine wS (v := (eI .i64 (IntKind.i64.wrap (1 + (IntKind.i64.wrap x38))))) (sv (d_assign rfl)) ?_
          refine OpsW.nil ?_
          refine Ex.then_mk ?_
          replace hr := bnd hr; obtain ⟨x44, h_8, hr⟩ := hr
          replace hr := bnd hr; obtain ⟨x46, h_9, hr⟩ := hr
          replace hr := bnd hr; obtain ⟨x49, h_11, hr⟩ := hr
          refine AB.rd (memF []) (memF [38]) mixed ?_
          refine DrawG.pick (n := 10) (i := 0) (by decide +kernel) rfl (gS (v := (.row none 1 (x18.map (eI .u8)))) (sv (d_move rfl))) ?_
          refine DrawG.pick (n := 9) (i := 1) (by decide +kernel) rfl (gS (v := (eI .i64 (IntKind.i64.wrap (1 + (IntKind.i64.wrap x38))))) (sv (d_move rfl))) ?_
          refine DrawG.pick (n := 8) (i := 2) (by decide +kernel) rfl (gS (v := (.row none 1 (x44.map (eI .u8)))) (sv (d_slice rfl rfl rfl (slR ti22 ti5 rfl rfl h_8)))) ?_
          refine DrawG.pick (n := 7) (i := 3) (by decide +kernel) rfl (gS (v := (.sl 2 0 1 1 false)) (h' := [some ⟨59, [(eI .i64 0), (.row (some true) 1 []), (eI .i64 0), (eI .i64 0)]⟩, some ⟨59, [(eI .i64 (IntKind.i64.wrap x8)), (.row (some true) 1 []), (eI .i64 0), (eI .i64 0)]⟩, some ⟨22, [x44].map (eL 1 (eI .u8))⟩]) (sv (d_buildS rfl (bldL1 (xs := [x44].map (eL 1 (eI .u8))) ti52 ti22 (Nat.le_of_ble_eq_true rfl) (Nat.le_of_ble_eq_true rfl) rfl rfl rfl rfl rfl rfl rfl)))) ?_
          refine DrawG.pick (n := 6) (i := 4) (by decide +kernel) rfl (gC (v := (.sl 3 0 x46.length 1 false)) (h' := [some ⟨59, [(eI .i64 0), (.row (some true) 1 []), (eI .i64 0), (eI .i64 0)]⟩, some ⟨59, [(eI .i64 (IntKind.i64.wrap x8)), (.row (some true) 1 []), (eI .i64 0), (eI .i64 0)]⟩, some ⟨22, [x44].map (eL 1 (eI .u8))⟩, some ⟨5, x46.map (eI .u8)⟩]) (Vm.Fn.lendR (script_row_ok N [x44] x46 h_9) [] [2] (by decide) rfl (by decide) Lend.nil (Brw.row (exp_slT rfl rfl (fun _ => rfl)) Brw.nil) rfl (rfB.live (rfs_map (fun _ => rfl) _) rfB.nil) rfl (by simp only [lent, lendSet, lendSet_nil, rnH, Blk.rn, V.rns, V.rn, sg, List.map_cons, List.map_nil, Option.map_some, Option.map_none, List.drop_succ_cons, List.drop_zero, List.drop_nil, List.set_cons_zero, List.set_cons_succ, List.cons_append, List.nil_append, List.append_nil, rns_eI, rns_eB, rns_eS, rns_eL, rns_C_api_Op, List.getElem?_cons_zero, List.getElem?_cons_succ, List.getElem?_nil, List.length_cons, List.length_nil, Nat.reduceAdd, Nat.reduceSub, Nat.add_zero, Nat.zero_add, Nat.sub_self, Nat.sub_zero])) (fun h => absurd h (by decide)) (fun _ => ⟨_, rfl⟩) (sv (d_call rfl orc1_hit))) ?_
          refine DrawG.pick (n := 5) (i := 8) (by decide +kernel) rfl (gS (v := (.ptr 1 1)) (sv (d_fa rfl (fap59_1 ..)))) ?_
          refine DrawG.fork (n := 4) [5, 6, 9] (by decide +kernel) (by decide) ?_
          refine (Fork.cons rfl (gS (v := (.row none 1 (x18.map (eI .u8)))) (sv (d_move rfl))) ?_ (Fork.cons rfl (gS (v := (eI .i64 (IntKind.i64.wrap (1 + (IntKind.i64.wrap x38))))) (sv (d_move rfl))) ?_ (Fork.cons rfl (gN (h' := [some ⟨59, [(eI .i64 0), (.row (some true) 1 []), (eI .i64 0), (eI .i64 0)]⟩, some ⟨59, [(eI .i64 (IntKind.i64.wrap x8)), (.sl 3 0 x46.length 1 false), (eI .i64 0), (eI .i64 0)]⟩, some ⟨22, [x44].map (eL 1 (eI .u8))⟩, some ⟨5, x46.map (eI .u8)⟩]) (sv (d_store rfl rfl (stP ti22 rfl rfl rfl (Nat.le_of_ble_eq_true rfl) rfl)))) ?_ Fork.nil)))
          · refine DrawG.fork (n := 3) [6, 9] (by decide +kernel) (by decide) ?_
            refine (Fork.cons rfl (gS (v := (eI .i64 (IntKind.i64.wrap (1 + (IntKind.i64.wrap x38))))) (sv (d_move rfl))) ?_ (Fork.cons rfl (gN (h' := [some ⟨59, [(eI .i64 0), (.row (some true) 1 []), (eI .i64 0), (eI .i64 0)]⟩, some ⟨59, [(eI .i64 (IntKind.i64.wrap x8)), (.sl 3 0 x46.length 1 false), (eI .i64 0), (eI .i64 0)]⟩, some ⟨22, [x44].map (eL 1 (eI .u8))⟩, some ⟨5, x46.map (eI .u8)⟩]) (sv (d_store rfl rfl (stP ti22 rfl rfl rfl (Nat.le_of_ble_eq_true rfl) rfl)))) ?_ Fork.nil))
            · refine DrawG.fork (n := 2) [7, 9] (by decide +kernel) (by decide) ?_
              refine (Fork.cons rfl (gS (v := (.row none 1 (x49.map (eI .u8)))) (sv (d_slice rfl rfl rfl (slR ti22 ti5 rfl rfl h_11)))) ?_ (Fork.cons rfl (gN (h' := [some ⟨59, [(eI .i64 0), (.row (some true) 1 []), (eI .i64 0), (eI .i64 0)]⟩, some ⟨59, [(eI .i64 (IntKind.i64.wrap x8)), (.sl 3 0 x46.length 1 false), (eI .i64 0), (eI .i64 0)]⟩, some ⟨22, [x44].map (eL 1 (eI .u8))⟩, some ⟨5, x46.map (eI .u8)⟩]) (sv (d_store rfl rfl (stP ti22 rfl rfl rfl (Nat.le_of_ble_eq_true rfl) rfl)))) ?_ Fork.nil))
              · refine DrawG.pick (n := 1) (i := 9) (by decide +kernel) rfl (gN (h' := [some ⟨59, [(eI .i64 0), (.row (some true) 1 []), (eI .i64 0), (eI .i64 0)]⟩, some ⟨59, [(eI .i64 (IntKind.i64.wrap x8)), (.sl 3 0 x46.length 1 false), (eI .i64 0), (eI .i64 0)]⟩, some ⟨22, [x44].map (eL 1 (eI .u8))⟩, some ⟨5, x46.map (eI .u8)⟩]) (sv (d_store rfl rfl (stP ti22 rfl rfl rfl (Nat.le_of_ble_eq_true rfl) rfl)))) ?_
                refine DrawG.pick (n := 0) (i := 10) (by decide +kernel) rfl (gS (v := (.row none 1 (x49.map (eI .u8)))) (sv (d_assign rfl))) ?_
                refine DrawG.nil (by decide +kernel) ?_
                refine Ex.inBlock_mk ?_
                refine Ex.then_mk ?_
                exact hG1 _ _ _ _ (Ghost.rn [0, 1, 3] rfl rfl (FLe.same rfl (FLe.same rfl (FLe.same rfl FLe.nil))) (HLe.live rfl (V.les_refl _ _) rfl (HLe.live rfl (V.les_refl _ _) rfl (HLe.live rfl (les_map (fun _ => rfl) _) (all_map (fun _ => rfl) _) HLe.nil))) rfl) (J1 x49 0 0 x46 hr)
              · refine DrawG.pick (n := 1) (i := 7) (by decide +kernel) rfl (gS (v := (.row none 1 (x49.map (eI .u8)))) (sv (d_slice rfl rfl rfl (slR ti22 ti5 rfl rfl h_11)))) ?_
                refine DrawG.pick (n := 0) (i := 10) (by decide +kernel) rfl (gS (v := (.row none 1 (x49.map (eI .u8)))) (sv (d_assign rfl))) ?_
                refine DrawG.nil (by decide +kernel) ?_
                refine Ex.inBlock_mk ?_
                refine Ex.then_mk ?_
                exact hG1 _ _ _ _ (Ghost.rn [0, 1, 3] rfl rfl (FLe.same rfl (FLe.same rfl (FLe.same rfl FLe.nil))) (HLe.live rfl (V.les_refl _ _) rfl (HLe.live rfl (V.les_refl _ _) rfl (HLe.live rfl (les_map (fun _ => rfl) _) (all_map (fun _ => rfl) _) HLe.nil))) rfl) (J1 x49 0 0 x46 hr)
            · refine DrawG.pick (n := 2) (i := 6) (by decide +kernel) rfl (gS (v := (eI .i64 (IntKind.i64.wrap (1 + (IntKind.i64.wrap x38))))) (sv (d_move rfl))) ?_
              refine DrawG.pick (n := 1) (i := 7) (by decide +kernel) rfl (gS (v := (.row none 1 (x49.map (eI .u8)))) (sv (d_slice rfl rfl rfl (slR ti22 ti5 rfl rfl h_11)))) ?_
              refine DrawG.pick (n := 0) (i := 10) (by decide +kernel) rfl (gS (v := (.row none 1 (x49.map (eI .u8)))) (sv (d_assign rfl))) ?_
              refine DrawG.nil (by decide +kernel) ?_
              refine Ex.inBlock_mk ?_
              refine Ex.then_mk ?_
              exact hG1 _ _ _ _ (Ghost.rn [0, 1, 3] rfl rfl (FLe.same rfl (FLe.same rfl (FLe.same rfl FLe.nil))) (HLe.live rfl (V.les_refl _ _) rfl (HLe.live rfl (V.les_refl _ _) rfl (HLe.live rfl (les_map (fun _ => rfl) _) (all_map (fun _ => rfl) _) HLe.nil))) rfl) (J1 x49 0 0 x46 hr)
          · refine DrawG.fork (n := 3) [5, 9] (by decide +kernel) (by decide) ?_
            refine (Fork.cons rfl (gS (v := (.row none 1 (x18.map (eI .u8)))) (sv (d_move rfl))) ?_ (Fork.cons rfl (gN (h' := [some ⟨59, [(eI .i64 0), (.row (some true) 1 []), (eI .i64 0), (eI .i64 0)]⟩, some ⟨59, [(eI .i64 (IntKind.i64.wrap x8)), (.sl 3 0 x46.length 1 false), (eI .i64 0), (eI .i64 0)]⟩, some ⟨22, [x44].map (eL 1 (eI .u8))⟩, some ⟨5, x46.map (eI .u8)⟩]) (sv (d_store rfl rfl (stP ti22 rfl rfl rfl (Nat.le_of_ble_eq_true rfl) rfl)))) ?_ Fork.nil))
            · refine DrawG.fork (n := 2) [7, 9] (by decide +kernel) (by decide) ?_
              refine (Fork.cons rfl (gS (v := (.row none 1 (x49.map (eI .u8)))) (sv (d_slice rfl rfl rfl (slR ti22 ti5 rfl rfl h_11)))) ?_ (Fork.cons rfl (gN (h' := [some ⟨59, [(eI .i64 0), (.row (some true) 1 []), (eI .i64 0), (eI .i64 0)]⟩, some ⟨59, [(eI .i64 (IntKind.i64.wrap x8)), (.sl 3 0 x46.length 1 false), (eI .i64 0), (eI .i64 0)]⟩, some ⟨22, [x44].map (eL 1 (eI .u8))⟩, some ⟨5, x46.map (eI .u8)⟩]) (sv (d_store rfl rfl (stP ti22 rfl rfl rfl (Nat.le_of_ble_eq_true rfl) rfl)))) ?_ Fork.nil))
              · refine DrawG.pick (n := 1) (i := 9) (by decide +kernel) rfl (gN (h' := [some ⟨59, [(eI .i64 0), (.row (some true) 1 []), (eI .i64 0), (eI .i64 0)]⟩, some ⟨59, [(eI .i64 (IntKind.i64.wrap x8)), (.sl 3 0 x46.length 1 false), (eI .i64 0), (eI .i64 0)]⟩, some ⟨22, [x44].map (eL 1 (eI .u8))⟩, some ⟨5, x46.map (eI .u8)⟩]) (sv (d_store rfl rfl (stP ti22 rfl rfl rfl (Nat.le_of_ble_eq_true rfl) rfl)))) ?_
                refine DrawG.pick (n := 0) (i := 10) (by decide +kernel) rfl (gS (v := (.row none 1 (x49.map (eI .u8)))) (sv (d_assign rfl))) ?_
                refine DrawG.nil (by decide +kernel) ?_
                refine Ex.inBlock_mk ?_
                refine Ex.then_mk ?_
                exact hG1 _ _ _ _ (Ghost.rn [0, 1, 3] rfl rfl (FLe.same rfl (FLe.same rfl (FLe.same rfl FLe.nil))) (HLe.live rfl (V.les_refl _ _) rfl (HLe.live rfl (V.les_refl _ _) rfl (HLe.live rfl (les_map (fun _ => rfl) _) (all_map (fun _ => rfl) _) HLe.nil))) rfl) (J1 x49 0 0 x46 hr)
              · refine DrawG.pick (n := 1) (i := 7) (by decide +kernel) rfl (gS (v := (.row none 1 (x49.map (eI .u8)))) (sv (d_slice rfl rfl rfl (slR ti22 ti5 rfl rfl h_11)))) ?_
                refine DrawG.pick (n := 0) (i := 10) (by decide +kernel) rfl (gS (v := (.row none 1 (x49.map (eI .u8)))) (sv (d_assign rfl))) ?_
                refine DrawG.nil (by decide +kernel) ?_
                refine Ex.inBlock_mk ?_
                refine Ex.then_mk ?_
                exact hG1 _ _ _ _ (Ghost.rn [0, 1, 3] rfl rfl (FLe.same rfl (FLe.same rfl (FLe.same rfl FLe.nil))) (HLe.live rfl (V.les_refl _ _) rfl (HLe.live rfl (V.les_refl _ _) rfl (HLe.live rfl (les_map (fun _ => rfl) _) (all_map (fun _ => rfl) _) HLe.nil))) rfl) (J1 x49 0 0 x46 hr)
            · refine DrawG.pick (n := 2) (i := 5) (by decide +kernel) rfl (gS (v := (.row none 1 (x18.map (eI .u8)))) (sv (d_move rfl))) ?_
              refine DrawG.pick (n := 1) (i := 7) (by decide +kernel) rfl (gS (v := (.row none 1 (x49.map (eI .u8)))) (sv (d_slice rfl rfl rfl (slR ti22 ti5 rfl rfl h_11)))) ?_
              refine DrawG.pick (n := 0) (i := 10) (by decide +kernel) rfl (gS (v := (.row none 1 (x49.map (eI .u8)))) (sv (d_assign rfl))) ?_
              refine DrawG.nil (by decide +kernel) ?_
              refine Ex.inBlock_mk ?_
              refine Ex.then_mk ?_
              exact hG1 _ _ _ _ (Ghost.rn [0, 1, 3] rfl rfl (FLe.same rfl (FLe.same rfl (FLe.same rfl FLe.nil))) (HLe.live rfl (V.les_refl _ _) rfl (HLe.live rfl (V.les_refl _ _) rfl (HLe.live rfl (les_map (fun _ => rfl) _) (all_map (fun _ => rfl) _) HLe.nil))) rfl) (J1 x49 0 0 x46 hr)
          · refine DrawG.pick (n := 3) (i := 5) (by decide +kernel) rfl (gS (v := (.row none 1 (x18.map (eI .u8)))) (sv (d_move rfl))) ?_
            refine DrawG.pick (n := 2) (i := 6) (by decide +kernel) rfl (gS (v := (eI .i64 (IntKind.i64.wrap (1 + (IntKind.i64.wrap x38))))) (sv (d_move rfl))) ?_
            refine DrawG.pick (n := 1) (i := 7) (by decide +kernel) rfl (gS (v := (.row none 1 (x49.map (eI .u8)))) (sv (d_slice rfl rfl rfl (slR ti22 ti5 rfl rfl h_11)))) ?_
            refine DrawG.pick (n := 0) (i := 10) (by decide +kernel) rfl (gS (v := (.row none 1 (x49.map (eI .u8)))) (sv (d_assign rfl))) ?_
            refine DrawG.nil (by decide +kernel) ?_
            refine Ex.inBlock_mk ?_
            refine Ex.then_mk ?_
            exact hG1 _ _ _ _ (Ghost.rn [0, 1, 3] rfl rfl (FLe.same rfl (FLe.same rfl (FLe.same rfl FLe.nil))) (HLe.live rfl (V.les_refl _ _) rfl (HLe.live rfl (V.les_refl _ _) rfl (HLe.live rfl (les_map (fun _ => rfl) _) (all_map (fun _ => rfl) _) HLe.nil))) rfl) (J1 x49 0 0 x46 hr)
      rcases Bool.eq_false_or_eq_true ((x18.length : Int) == 0) with h12 | h12
      · replace hr := iteT hr h12
        refine AB.rw ?_
        refine wS (v := (.row none 1 (x18.map (eI .u8)))) (sv (d_move rfl)) ?_
        refine wS (v := (eI .i64 (x18.length : Int))) (sv (d_len rfl (lenR ti22))) ?_
        refine wS (v := (eB ((x18.length : Int) == 0))) (sv (d_bin rfl rfl (bin_eql ..))) ?_
        refine wS (v := (eB ((x18.length : Int) == 0))) (sv (d_move rfl)) ?_
        refine wS (svX rfl rfl h12) ?_
        refine wS (svX rfl rfl h12) ?_
        refine wS (svX rfl rfl h12) ?_
        refine wS (svX rfl rfl h12) ?_
        refine wS (svX rfl rfl h12) ?_
        refine wS (svX rfl rfl h12) ?_
        refine wS (svX rfl rfl h12) ?_
        refine wS (svX rfl rfl h12) ?_
        refine wS (v := (eB true)) (sv (d_pickT rfl h12 rfl)) ?_
        refine OpsW.nil ?_
        refine Ex.then_mk ?_
        exact hG2 _ _ _ _ (Ghost.rn [0, 1] rfl rfl (FLe.same rfl (FLe.same rfl (FLe.same rfl (FLe.same rfl FLe.nil)))) (HLe.live rfl (V.les_refl _ _) rfl (HLe.live rfl (V.les_refl _ _) rfl HLe.nil)) rfl) (J2 true hr)
      · replace hr := iteF hr h12
        replace hr := bnd hr; obtain ⟨x31, h_13, hr⟩ := hr
        refine AB.rw ?_
        refine wS (v := (.row none 1 (x18.map (eI .u8)))) (sv (d_move rfl)) ?_
        refine wS (v := (eI .i64 (x18.length : Int))) (sv (d_len rfl (lenR ti22))) ?_
        refine wS (v := (eB ((x18.length : Int) == 0))) (sv (d_bin rfl rfl (bin_eql ..))) ?_
        refine wS (v := (eB ((x18.length : Int) == 0))) (sv (d_move rfl)) ?_
        refine wS (v := (.row none 1 (x18.map (eI .u8)))) (svG rfl rfl h12 (d_move rfl)) ?_
        refine wS (v := (eI .i64 (x18.length : Int))) (svG rfl rfl h12 (d_len rfl (lenR ti22))) ?_
        refine wS (v := (eI .i64 (IntKind.i64.wrap ((x18.length : Int) - 1)))) (svG rfl rfl h12 (d_bin rfl rfl (bin_sub ..))) ?_
        refine wS (v := (.row none 1 (x18.map (eI .u8)))) (svG rfl rfl h12 (d_move rfl)) ?_
        refine wS (svG rfl rfl h12 (d_ia rfl rfl (iaR ti22 ti5 h_13))) ?_
        refine wS (v := (eI .u8 x31)) (svG rfl rfl h12 (d_load rfl (ldR h_13 (part1 ti5 rfl rfl)))) ?_
        refine wS (v := (eI .i64 (IntKind.i64.wrap x31))) (svG rfl rfl h12 (d_conv rfl (conv_int _ ⟨_, ti5⟩ ti3 rfl))) ?_
        refine wS (v := (eB (decide ((IntKind.i64.wrap ((x18.length : Int) - 1)) < (IntKind.i64.wrap x31))))) (svG rfl rfl h12 (d_bin rfl rfl (bin_lss ..))) ?_
        refine wS (v := (eB (decide ((IntKind.i64.wrap ((x18.length : Int) - 1)) < (IntKind.i64.wrap x31))))) (sv (d_pickF rfl h12 rfl)) ?_
        refine OpsW.nil ?_
        refine Ex.then_mk ?_
        exact hG2 _ _ _ _ (Ghost.rn [0, 1] rfl rfl (FLe.same rfl (FLe.same rfl (FLe.same rfl (FLe.same rfl FLe.nil)))) (HLe.live rfl (V.les_refl _ _) rfl (HLe.live rfl (V.les_refl _ _) rfl HLe.nil)) rfl) (J2 (decide ((IntKind.i64.wrap ((x18.length : Int) - 1)) < (IntKind.i64.wrap x31))) hr)
    · replace hr := iteF hr h5
      refine AB.seq ?_
      refine AB.rw ?_
      refine wS (v := (eB ((IntKind.i64.wrap x8) == 11))) (sv (d_bin rfl rfl (bin_eql ..))) ?_
      refine wS (v := (eB ((IntKind.i64.wrap x8) == 11))) (sv (d_assign rfl)) ?_
      refine OpsW.nil ?_
      refine Ex.then_mk ?_
      refine AB.cnd rfl (fun h14 => ?_) (fun h14 => ?_)
      · replace hr := iteT hr h14
        refine AB.seq ?_
        refine AB.seq ?_
        refine AB.rw ?_
        refine wS (v := (.row none 1 (x18.map (eI .u8)))) (sv (d_move rfl)) ?_
        refine wS (v := (eI .i64 (x18.length : Int))) (sv (d_len rfl (lenR ti22))) ?_
        refine wS (v := (eB (decide ((x18.length : Int) < 2)))) (sv (d_bin rfl rfl (bin_lss ..))) ?_
        refine OpsW.nil ?_
        refine Ex.then_mk ?_
        refine AB.cnd rfl (fun h15 => ?_) (fun h15 => ?_)
        · replace hr := iteT hr h15
          refine AB.seq ?_
          refine AB.rw ?_
          refine wS (v := (.agg [(eI .i64 0), (.row (some true) 1 []), (eI .i64 0), (eI .i64 0)])) (sv (d_build rfl (bldS ti59 pl59 rfl))) ?_
          refine wN (h' := [some ⟨59, [(eI .i64 0), (.row (some true) 1 []), (eI .i64 0), (eI .i64 0)]⟩, some ⟨59, [(eI .i64 (IntKind.i64.wrap x8)), (.row (some true) 1 []), (eI .i64 0), (eI .i64 0)]⟩]) (sv (d_store rfl rfl (stP ti59 rfl rfl rfl (Nat.le_of_ble_eq_true rfl) rfl))) ?_
          refine wS (v := (.row (some true) 1 [])) (sv (d_assign rfl)) ?_
          refine wS (v := (eI .i64 1)) (sv (d_assign rfl)) ?_
          refine OpsW.nil ?_
          refine Ex.then_mk ?_
          refine AB.ret ?_
          refine Ex.then_ret_mk ?_
          refine Ex.inBlock_ret_mk ?_
          refine Ex.then_ret_mk ?_
          obtain rfl := Option.some.inj hr
          exact done_ret (r1 := (.tup [(.agg [(eI .i64 0), (.row (some true) 1 []), (eI .i64 0), (eI .i64 0)]), (.row (some true) 1 []), (eI .i64 1)])) (res3 Tryd.results35 (rvC rfl (ldP rfl (partN (ds := [(eI .i64 0), (.row (some true) 1 []), (eI .i64 0), (eI .i64 0)]) ti59 rfl (Nat.le_of_ble_eq_true rfl) rfl))) (rvT rfl) (rvT rfl)) (Ghost.trans (Ghost.virt (fr' := [(0, (.tup [(.agg [(eI .i64 0), (.sl 2 0 0 1 false), (eI .i64 0), (eI .i64 0)]), (.row (some true) 1 []), (eI .i64 1)]))]) (h1 := [some ⟨59, [(eI .i64 0), (.row (some true) 1 []), (eI .i64 0), (eI .i64 0)]⟩, some ⟨59, [(eI .i64 (IntKind.i64.wrap x8)), (.row (some true) 1 []), (eI .i64 0), (eI .i64 0)]⟩]) 5 (FLe.le rfl (V.le_tup (V.les_cons (V.le_agg (V.les_cons (V.le_refl _ _) (V.les_cons (V.le_virt rfl) (V.les_cons (V.le_refl _ _) (V.les_cons (V.le_refl _ _) V.les_nil))))) (V.les_cons (V.le_refl _ _) (V.les_cons (V.le_refl _ _) V.les_nil)))) FLe.nil) (HLv.live (V.les_refl _ _) rfl (HLv.live (V.les_refl _ _) rfl HLv.nil))) (Ghost.rn [2] rfl rfl (FLe.le rfl (V.le_tup (V.les_cons (V.le_agg (V.les_cons (V.le_refl _ _) (V.les_cons (by first | exact V.le_refl _ _ | (simp only [len_set, len_cpy]; exact V.le_refl _ _)) (V.les_cons (V.le_refl _ _) (V.les_cons (V.le_refl _ _) V.les_nil))))) (V.les_cons V.le_nil (V.les_cons (V.le_refl _ _) V.les_nil)))) FLe.nil) (HLe.live rfl V.les_nil rfl HLe.nil) rfl))
        · replace hr := iteF hr h15
          refine AB.skip ?_
          refine Ex.then_mk ?_
          refine AB.seq_g fun K3 hK3 hG3 => ?_
          have J3 : ∀ (b_2 : List Int) (c1_2 : Int) (c1_3 : Int), script_next_J3 N x8 b_2 c1_2 c1_3 = some r → K3 (mkF 78 [(0, (.row none 1 (b_2.map (eI .u8)))), (2, (.ptr 0 0)), (5, (.ptr 1 0))]) [some ⟨59, [(eI .i64 0), (.row (some true) 1 []), (eI .i64 0), (eI .i64 0)]⟩, some ⟨59, [(eI .i64 (IntKind.i64.wrap x8)), (.row (some true) 1 []), (eI .i64 c1_2), (eI .i64 c1_3)]⟩] := by
            intro b_2 c1_2 c1_3 hr
            unfold script_next_J3 at hr
            refine hK3 _ _ ?_
            refine AB.seq ?_
            replace hr := bnd hr; obtain ⟨x73, h_16, hr⟩ := hr
            refine AB.rw ?_
            refine wS (v := (.ptr 1 2)) (sv (d_fa rfl (fap59_2 ..))) ?_
            refine wS (v := (eI .i64 c1_2)) (sv (d_load rfl (ldP rfl (part1 ti3 rfl rfl)))) ?_
            refine wS (v := (.ptr 1 3)) (sv (d_fa rfl (fap59_3 ..))) ?_
            refine wS (v := (eI .i64 c1_3)) (sv (d_load rfl (ldP rfl (part1 ti3 rfl rfl)))) ?_
            refine wC (v := (eB x73)) (h' := [some ⟨59, [(eI .i64 0), (.row (some true) 1 []), (eI .i64 0), (eI .i64 0)]⟩, some ⟨59, [(eI .i64 (IntKind.i64.wrap x8)), (.row (some true) 1 []), (eI .i64 c1_2), (eI .i64 c1_3)]⟩]) rfl (Vm.Fn.pure (script_inRange_ok N c1_2 c1_3 x73 h_16) rfl rfl) ?_
            refine wS (v := (eB (!x73))) (sv (d_un rfl (un_not _ _))) ?_
            refine OpsW.nil ?_
            refine Ex.then_mk ?_
            refine AB.cnd rfl (fun h17 => ?_) (fun h17 => ?_)
            · replace hr := iteT hr h17
              refine AB.seq ?_
              refine AB.rw ?_
              refine wS (v := (.agg [(eI .i64 0), (.row (some true) 1 []), (eI .i64 0), (eI .i64 0)])) (sv (d_build rfl (bldS ti59 pl59 rfl))) ?_
              refine wN (h' := [some ⟨59, [(eI .i64 0), (.row (some true) 1 []), (eI .i64 0), (eI .i64 0)]⟩, some ⟨59, [(eI .i64 (IntKind.i64.wrap x8)), (.row (some true) 1 []), (eI .i64 c1_2), (eI .i64 c1_3)]⟩]) (sv (d_store rfl rfl (stP ti59 rfl rfl rfl (Nat.le_of_ble_eq_true rfl) rfl))) ?_
              refine wS (v := (.row (some true) 1 [])) (sv (d_assign rfl)) ?_
              refine wS (v := (eI .i64 5)) (sv (d_assign rfl)) ?_
              refine OpsW.nil ?_
              refine Ex.then_mk ?_
              refine AB.ret ?_
              refine Ex.inBlock_ret_mk ?_
              refine Ex.then_ret_mk ?_
              obtain rfl := Option.some.inj hr
              exact done_ret (r1 := (.tup [(.agg [(eI .i64 0), (.row (some true) 1 []), (eI .i64 0), (eI .i64 0)]), (.row (some true) 1 []), (eI .i64 5)])) (res3 Tryd.results35 (rvC rfl (ldP rfl (partN (ds := [(eI .i64 0), (.row (some true) 1 []), (eI .i64 0), (eI .i64 0)]) ti59 rfl (Nat.le_of_ble_eq_true rfl) rfl))) (rvT rfl) (rvT rfl)) (Ghost.trans (Ghost.virt (fr' := [(0, (.tup [(.agg [(eI .i64 0), (.sl 2 0 0 1 false), (eI .i64 0), (eI .i64 0)]), (.row (some true) 1 []), (eI .i64 5)]))]) (h1 := [some ⟨59, [(eI .i64 0), (.row (some true) 1 []), (eI .i64 0), (eI .i64 0)]⟩, some ⟨59, [(eI .i64 (IntKind.i64.wrap x8)), (.row (some true) 1 []), (eI .i64 c1_2), (eI .i64 c1_3)]⟩]) 5 (FLe.le rfl (V.le_tup (V.les_cons (V.le_agg (V.les_cons (V.le_refl _ _) (V.les_cons (V.le_virt rfl) (V.les_cons (V.le_refl _ _) (V.les_cons (V.le_refl _ _) V.les_nil))))) (V.les_cons (V.le_refl _ _) (V.les_cons (V.le_refl _ _) V.les_nil)))) FLe.nil) (HLv.live (V.les_refl _ _) rfl (HLv.live (V.les_refl _ _) rfl HLv.nil))) (Ghost.rn [2] rfl rfl (FLe.le rfl (V.le_tup (V.les_cons (V.le_agg (V.les_cons (V.le_refl _ _) (V.les_cons (by first | exact V.le_refl _ _ | (simp only [len_set, len_cpy]; exact V.le_refl _ _)) (V.les_cons (V.le_refl _ _) (V.les_cons (V.le_refl _ _) V.les_nil))))) (V.les_cons V.le_nil (V.les_cons (V.le_refl _ _) V.les_nil)))) FLe.nil) (HLe.live rfl V.les_nil rfl HLe.nil) rfl))
            · replace hr := iteF hr h17
              refine AB.skip ?_
              refine Ex.inBlock_mk ?_
              refine Ex.then_mk ?_
              exact hG1 _ _ _ _ (Ghost.trans (Ghost.virt (fr' := [(0, (.row none 1 (b_2.map (eI .u8)))), (2, (.ptr 0 0)), (5, (.ptr 1 0))]) (h1 := [some ⟨59, [(eI .i64 0), (.row (some true) 1 []), (eI .i64 0), (eI .i64 0)]⟩, some ⟨59, [(eI .i64 (IntKind.i64.wrap x8)), (.sl 2 0 0 1 false), (eI .i64 c1_2), (eI .i64 c1_3)]⟩]) 5 (FLe.same rfl (FLe.same rfl (FLe.same rfl FLe.nil))) (HLv.live (V.les_refl _ _) rfl (HLv.live (V.les_cons (V.le_refl _ _) (V.les_cons (V.le_virt rfl) (V.les_cons (V.le_refl _ _) (V.les_cons (V.le_refl _ _) V.les_nil)))) rfl HLv.nil))) (Ghost.rn [0, 1, 2] rfl rfl (FLe.same rfl (FLe.same rfl (FLe.same rfl FLe.nil))) (HLe.live rfl (V.les_refl _ _) rfl (HLe.live rfl (V.les_cons (V.le_refl _ _) (V.les_cons (by first | exact V.le_refl _ _ | (simp only [len_set, len_cpy]; exact V.le_refl _ _)) (V.les_cons (V.le_refl _ _) (V.les_cons (V.le_refl _ _) V.les_nil)))) rfl (HLe.live rfl V.les_nil rfl HLe.nil))) rfl)) (J1 b_2 c1_2 c1_3 [] hr)
          replace hr := bnd hr; obtain ⟨x58, h_18, hr⟩ := hr
          replace hr := bnd hr; obtain ⟨x62, h_19, hr⟩ := hr
          replace hr := bnd hr; obtain ⟨x66, h_20, hr⟩ := hr
          refine AB.rd (memF []) (memF []) mixed ?_
          refine DrawG.pick (n := 14) (i := 0) (by decide +kernel) rfl (gS (v := (.row none 1 (x18.map (eI .u8)))) (sv (d_move rfl))) ?_
          refine DrawG.pick (n := 13) (i := 1) (by decide +kernel) rfl (gS (sv (d_ia rfl rfl (iaR ti22 ti5 h_18)))) ?_
          refine DrawG.pick (n := 12) (i := 2) (by decide +kernel) rfl (gS (v := (eI .u8 x58)) (sv (d_load rfl (ldR h_18 (part1 ti5 rfl rfl))))) ?_
          refine DrawG.pick (n := 11) (i := 3) (by decide +kernel) rfl (gS (v := (eI .i64 (IntKind.i64.wrap x58))) (sv (d_conv rfl (conv_int _ ⟨_, ti5⟩ ti3 rfl)))) ?_
          refine DrawG.pick (n := 10) (i := 10) (by decide +kernel) rfl (gS (v := (.ptr 1 2)) (sv (d_fa rfl (fap59_2 ..)))) ?_
          refine DrawG.fork (n := 9) [4, 8, 11] (by decide +kernel) (by decide) ?_
          refine (Fork.cons rfl (gS (v := (.row none 1 (x18.map (eI .u8)))) (sv (d_move rfl))) ?_ (Fork.cons rfl (gS (v := (.row none 1 (x18.map (eI .u8)))) (sv (d_move rfl))) ?_ (Fork.cons rfl (gN (h' := [some ⟨59, [(eI .i64 0), (.row (some true) 1 []), (eI .i64 0), (eI .i64 0)]⟩, some ⟨59, [(eI .i64 (IntKind.i64.wrap x8)), (.row (some true) 1 []), (eI .i64 (IntKind.i64.wrap x58)), (eI .i64 0)]⟩]) (sv (d_store rfl rfl (stP ti3 rfl rfl rfl (Nat.le_of_ble_eq_true rfl) rfl)))) ?_ Fork.nil)))
          · refine DrawG.fork (n := 8) [5, 8, 11] (by decide +kernel) (by decide) ?_
            refine (Fork.cons rfl (gS (sv (d_ia rfl rfl (iaR ti22 ti5 h_19)))) ?_ (Fork.cons rfl (gS (v := (.row none 1 (x18.map (eI .u8)))) (sv (d_move rfl))) ?_ (Fork.cons rfl (gN (h' := [some ⟨59, [(eI .i64 0), (.row (some true) 1 []), (eI .i64 0), (eI .i64 0)]⟩, some ⟨59, [(eI .i64 (IntKind.i64.wrap x8)), (.row (some true) 1 []), (eI .i64 (IntKind.i64.wrap x58)), (eI .i64 0)]⟩]) (sv (d_store rfl rfl (stP ti3 rfl rfl rfl (Nat.le_of_ble_eq_true rfl) rfl)))) ?_ Fork.nil)))
            · refine DrawG.fork (n := 7) [6, 8, 11] (by decide +kernel) (by decide) ?_
              refine (Fork.cons rfl (gS (v := (eI .u8 x62)) (sv (d_load rfl (ldR h_19 (part1 ti5 rfl rfl))))) ?_ (Fork.cons rfl (gS (v := (.row none 1 (x18.map (eI .u8)))) (sv (d_move rfl))) ?_ (Fork.cons rfl (gN (h' := [some ⟨59, [(eI .i64 0), (.row (some true) 1 []), (eI .i64 0), (eI .i64 0)]⟩, some ⟨59, [(eI .i64 (IntKind.i64.wrap x8)), (.row (some true) 1 []), (eI .i64 (IntKind.i64.wrap x58)), (eI .i64 0)]⟩]) (sv (d_store rfl rfl (stP ti3 rfl rfl rfl (Nat.le_of_ble_eq_true rfl) rfl)))) ?_ Fork.nil)))
              · refine DrawG.fork (n := 6) [7, 8, 11] (by decide +kernel) (by decide) ?_
                refine (Fork.cons rfl (gS (v := (eI .i64 (IntKind.i64.wrap x62))) (sv (d_conv rfl (conv_int _ ⟨_, ti5⟩ ti3 rfl)))) ?_ (Fork.cons rfl (gS (v := (.row none 1 (x18.map (eI .u8)))) (sv (d_move rfl))) ?_ (Fork.cons rfl (gN (h' := [some ⟨59, [(eI .i64 0), (.row (some true) 1 []), (eI .i64 0), (eI .i64 0)]⟩, some ⟨59, [(eI .i64 (IntKind.i64.wrap x8)), (.row (some true) 1 []), (eI .i64 (IntKind.i64.wrap x58)), (eI .i64 0)]⟩]) (sv (d_store rfl rfl (stP ti3 rfl rfl rfl (Nat.le_of_ble_eq_true rfl) rfl)))) ?_ Fork.nil)))
                · refine DrawG.fork (n := 5) [8, 11] (by decide +kernel) (by decide) ?_
                  refine (Fork.cons rfl (gS (v := (.row none 1 (x18.map (eI .u8)))) (sv (d_move rfl))) ?_ (Fork.cons rfl (gN (h' := [some ⟨59, [(eI .i64 0), (.row (some true) 1 []), (eI .i64 0), (eI .i64 0)]⟩, some ⟨59, [(eI .i64 (IntKind.i64.wrap x8)), (.row (some true) 1 []), (eI .i64 (IntKind.i64.wrap x58)), (eI .i64 0)]⟩]) (sv (d_store rfl rfl (stP ti3 rfl rfl rfl (Nat.le_of_ble_eq_true rfl) rfl)))) ?_ Fork.nil))
                  · refine DrawG.fork (n := 4) [9, 11] (by decide +kernel) (by decide) ?_
                    refine (Fork.cons rfl (gS (v := (.row none 1 (x66.map (eI .u8)))) (sv (d_slice rfl rfl rfl (slR ti22 ti5 rfl rfl h_20)))) ?_ (Fork.cons rfl (gN (h' := [some ⟨59, [(eI .i64 0), (.row (some true) 1 []), (eI .i64 0), (eI .i64 0)]⟩, some ⟨59, [(eI .i64 (IntKind.i64.wrap x8)), (.row (some true) 1 []), (eI .i64 (IntKind.i64.wrap x58)), (eI .i64 0)]⟩]) (sv (d_store rfl rfl (stP ti3 rfl rfl rfl (Nat.le_of_ble_eq_true rfl) rfl)))) ?_ Fork.nil))
                    · refine DrawG.pick (n := 3) (i := 11) (by decide +kernel) rfl (gN (h' := [some ⟨59, [(eI .i64 0), (.row (some true) 1 []), (eI .i64 0), (eI .i64 0)]⟩, some ⟨59, [(eI .i64 (IntKind.i64.wrap x8)), (.row (some true) 1 []), (eI .i64 (IntKind.i64.wrap x58)), (eI .i64 0)]⟩]) (sv (d_store rfl rfl (stP ti3 rfl rfl rfl (Nat.le_of_ble_eq_true rfl) rfl)))) ?_
                      refine DrawG.pick (n := 2) (i := 12) (by decide +kernel) rfl (gS (v := (.ptr 1 3)) (sv (d_fa rfl (fap59_3 ..)))) ?_
                      refine DrawG.pick (n := 1) (i := 13) (by decide +kernel) rfl (gN (h' := [some ⟨59, [(eI .i64 0), (.row (some true) 1 []), (eI .i64 0), (eI .i64 0)]⟩, some ⟨59, [(eI .i64 (IntKind.i64.wrap x8)), (.row (some true) 1 []), (eI .i64 (IntKind.i64.wrap x58)), (eI .i64 (IntKind.i64.wrap x62))]⟩]) (sv (d_store rfl rfl (stP ti3 rfl rfl rfl (Nat.le_of_ble_eq_true rfl) rfl)))) ?_
                      refine DrawG.pick (n := 0) (i := 14) (by decide +kernel) rfl (gS (v := (.row none 1 (x66.map (eI .u8)))) (sv (d_assign rfl))) ?_
                      refine DrawG.nil (by decide +kernel) ?_
                      refine Ex.then_mk ?_
                      exact hG3 _ _ _ _ (Ghost.rn [0, 1] rfl rfl (FLe.same rfl (FLe.same rfl (FLe.same rfl FLe.nil))) (HLe.live rfl (V.les_refl _ _) rfl (HLe.live rfl (V.les_refl _ _) rfl HLe.nil)) rfl) (J3 x66 (IntKind.i64.wrap x58) (IntKind.i64.wrap x62) hr)
                    · refine DrawG.pick (n := 3) (i := 12) (by decide +kernel) rfl (gS (v := (.ptr 1 3)) (sv (d_fa rfl (fap59_3 ..)))) ?_
                      refine DrawG.fork (n := 2) [9, 13] (by decide +kernel) (by decide) ?_
                      refine (Fork.cons rfl (gS (v := (.row none 1 (x66.map (eI .u8)))) (sv (d_slice rfl rfl rfl (slR ti22 ti5 rfl rfl h_20)))) ?_ (Fork.cons rfl (gN (h' := [some ⟨59, [(eI .i64 0), (.row (some true) 1 []), (eI .i64 0), (eI .i64 0)]⟩, some ⟨59, [(eI .i64 (IntKind.i64.wrap x8)), (.row (some true) 1 []), (eI .i64 (IntKind.i64.wrap x58)), (eI .i64 (IntKind.i64.wrap x62))]⟩]) (sv (d_store rfl rfl (stP ti3 rfl rfl rfl (Nat.le_of_ble_eq_true rfl) rfl)))) ?_ Fork.nil))
                      · refine DrawG.pick (n := 1) (i := 13) (by decide +kernel) rfl (gN (h' := [some ⟨59, [(eI .i64 0), (.row (some true) 1 []), (eI .i64 0), (eI .i64 0)]⟩, some ⟨59, [(eI .i64 (IntKind.i64.wrap x8)), (.row (some true) 1 []), (eI .i64 (IntKind.i64.wrap x58)), (eI .i64 (IntKind.i64.wrap x62))]⟩]) (sv (d_store rfl rfl (stP ti3 rfl rfl rfl (Nat.le_of_ble_eq_true rfl) rfl)))) ?_
                        refine DrawG.pick (n := 0) (i := 14) (by decide +kernel) rfl (gS (v := (.row none 1 (x66.map (eI .u8)))) (sv (d_assign rfl))) ?_
                        refine DrawG.nil (by decide +kernel) ?_
                        refine Ex.then_mk ?_
                        exact hG3 _ _ _ _ (Ghost.rn [0, 1] rfl rfl (FLe.same rfl (FLe.same rfl (FLe.same rfl FLe.nil))) (HLe.live rfl (V.les_refl _ _) rfl (HLe.live rfl (V.les_refl _ _) rfl HLe.nil)) rfl) (J3 x66 (IntKind.i64.wrap x58) (IntKind.i64.wrap x62) hr)
                      · refine DrawG.pick (n := 1) (i := 9) (by decide +kernel) rfl (gS (v := (.row none 1 (x66.map (eI .u8)))) (sv (d_slice rfl rfl rfl (slR ti22 ti5 rfl rfl h_20)))) ?_
                        refine DrawG.pick (n := 0) (i := 14) (by decide +kernel) rfl (gS (v := (.row none 1 (x66.map (eI .u8)))) (sv (d_assign rfl))) ?_
                        refine DrawG.nil (by decide +kernel) ?_
                        refine Ex.then_mk ?_
                        exact hG3 _ _ _ _ (Ghost.rn [0, 1] rfl rfl (FLe.same rfl (FLe.same rfl (FLe.same rfl FLe.nil))) (HLe.live rfl (V.les_refl _ _) rfl (HLe.live rfl (V.les_refl _ _) rfl HLe.nil)) rfl) (J3 x66 (IntKind.i64.wrap x58) (IntKind.i64.wrap x62) hr)
                  · refine DrawG.pick (n := 4) (i := 12) (by decide +kernel) rfl (gS (v := (.ptr 1 3)) (sv (d_fa rfl (fap59_3 ..)))) ?_
                    refine DrawG.fork (n := 3) [8, 13] (by decide +kernel) (by decide) ?_
                    refine (Fork.cons rfl (gS (v := (.row none 1 (x18.map (eI .u8)))) (sv (d_move rfl))) ?_ (Fork.cons rfl (gN (h' := [some ⟨59, [(eI .i64 0), (.row (some true) 1 []), (eI .i64 0), (eI .i64 0)]⟩, some ⟨59, [(eI .i64 (IntKind.i64.wrap x8)), (.row (some true) 1 []), (eI .i64 (IntKind.i64.wrap x58)), (eI .i64 (IntKind.i64.wrap x62))]⟩]) (sv (d_store rfl rfl (stP ti3 rfl rfl rfl (Nat.le_of_ble_eq_true rfl) rfl)))) ?_ Fork.nil))
                    · refine DrawG.fork (n := 2) [9, 13] (by decide +kernel) (by decide) ?_
                      refine (Fork.cons rfl (gS (v := (.row none 1 (x66.map (eI .u8)))) (sv (d_slice rfl rfl rfl (slR ti22 ti5 rfl rfl h_20)))) ?_ (Fork.cons rfl (gN (h' := [some ⟨59, [(eI .i64 0), (.row (some true) 1 []), (eI .i64 0), (eI .i64 0)]⟩, some ⟨59, [(eI .i64 (IntKind.i64.wrap x8)), (.row (some true) 1 []), (eI .i64 (IntKind.i64.wrap x58)), (eI .i64 (IntKind.i64.wrap x62))]⟩]) (sv (d_store rfl rfl (stP ti3 rfl rfl rfl (Nat.le_of_ble_eq_true rfl) rfl)))) ?_ Fork.nil))
                      · refine DrawG.pick (n := 1) (i := 13) (by decide +kernel) rfl (gN (h' := [some ⟨59, [(eI .i64 0), (.row (some true) 1 []), (eI .i64 0), (eI .i64 0)]⟩, some ⟨59, [(eI .i64 (IntKind.i64.wrap x8)), (.row (some true) 1 []), (eI .i64 (IntKind.i64.wrap x58)), (eI .i64 (IntKind.i64.wrap x62))]⟩]) (sv (d_store rfl rfl (stP ti3 rfl rfl rfl (Nat.le_of_ble_eq_true rfl) rfl)))) ?_
                        refine DrawG.pick (n := 0) (i := 14) (by decide +kernel) rfl (gS (v := (.row none 1 (x66.map (eI .u8)))) (sv (d_assign rfl))) ?_
                        refine DrawG.nil (by decide +kernel) ?_
                        refine Ex.then_mk ?_
                        exact hG3 _ _ _ _ (Ghost.rn [0, 1] rfl rfl (FLe.same rfl (FLe.same rfl (FLe.same rfl FLe.nil))) (HLe.live rfl (V.les_refl _ _) rfl (HLe.live rfl (V.les_refl _ _) rfl HLe.nil)) rfl) (J3 x66 (IntKind.i64.wrap x58) (IntKind.i64.wrap x62) hr)
                      · refine DrawG.pick (n := 1) (i := 9) (by decide +kernel) rfl (gS (v := (.row none 1 (x66.map (eI .u8)))) (sv (d_slice rfl rfl rfl (slR ti22 ti5 rfl rfl h_20)))) ?_
                        refine DrawG.pick (n := 0) (i := 14) (by decide +kernel) rfl (gS (v := (.row none 1 (x66.map (eI .u8)))) (sv (d_assign rfl))) ?_
                        refine DrawG.nil (by decide +kernel) ?_
                        refine Ex.then_mk ?_
                        exact hG3 _ _ _ _ (Ghost.rn [0, 1] rfl rfl (FLe.same rfl (FLe.same rfl (FLe.same rfl FLe.nil))) (HLe.live rfl (V.les_refl _ _) rfl (HLe.live rfl (V.les_refl _ _) rfl HLe.nil)) rfl) (J3 x66 (IntKind.i64.wrap x58) (IntKind.i64.wrap x62) hr)
                    · refine DrawG.pick (n := 2) (i := 8) (by decide +kernel) rfl (gS (v := (.row none 1 (x18.map (eI .u8)))) (sv (d_move rfl))) ?_
                      refine DrawG.pick (n := 1) (i := 9) (by decide +kernel) rfl (gS (v := (.row none 1 (x66.map (eI .u8)))) (sv (d_slice rfl rfl rfl (slR ti22 ti5 rfl rfl h_20)))) ?_
                      refine DrawG.pick (n := 0) (i := 14) (by decide +kernel) rfl (gS (v := (.row none 1 (x66.map (eI .u8)))) (sv (d_assign rfl))) ?_
                      refine DrawG.nil (by decide +kernel) ?_
                      refine Ex.then_mk ?_
                      exact hG3 _ _ _ _ (Ghost.rn [0, 1] rfl rfl (FLe.same rfl (FLe.same rfl (FLe.same rfl FLe.nil))) (HLe.live rfl (V.les_refl _ _) rfl (HLe.live rfl (V.les_refl _ _) rfl HLe.nil)) rfl) (J3 x66 (IntKind.i64.wrap x58) (IntKind.i64.wrap x62) hr)
                · refine DrawG.fork (n := 5) [7, 9, 11] (by decide +kernel) (by decide) ?_
                  refine (Fork.cons rfl (gS (v := (eI .i64 (IntKind.i64.wrap x62))) (sv (d_conv rfl (conv_int _ ⟨_, ti5⟩ ti3 rfl)))) ?_ (Fork.cons rfl (gS (v := (.row none 1 (x66.map (eI .u8)))) (sv (d_slice rfl rfl rfl (slR ti22 ti5 rfl rfl h_20)))) ?_ (Fork.cons rfl (gN (h' := [some ⟨59, [(eI .i64 0), (.row (some true) 1 []), (eI .i64 0), (eI .i64 0)]⟩, some ⟨59, [(eI .i64 (IntKind.i64.wrap x8)), (.row (some true) 1 []), (eI .i64 (IntKind.i64.wrap x58)), (eI .i64 0)]⟩]) (sv (d_store rfl rfl (stP ti3 rfl rfl rfl (Nat.le_of_ble_eq_true rfl) rfl)))) ?_ Fork.nil)))
                  · refine DrawG.fork (n := 4) [9, 11] (by decide +kernel) (by decide) ?_
                    refine (Fork.cons rfl (gS (v := (.row none 1 (x66.map (eI .u8)))) (sv (d_slice rfl rfl rfl (slR ti22 ti5 rfl rfl h_20)))) ?_ (Fork.cons rfl (gN (h' := [some ⟨59, [(eI .i64 0), (.row (some true) 1 []), (eI .i64 0), (eI .i64 0)]⟩, some ⟨59, [(eI .i64 (IntKind.i64.wrap x8)), (.row (some true) 1 []), (eI .i64 (IntKind.i64.wrap x58)), (eI .i64 0)]⟩]) (sv (d_store rfl rfl (stP ti3 rfl rfl rfl (Nat.le_of_ble_eq_true rfl) rfl)))) ?_ Fork.nil))
                    · refine DrawG.pick (n := 3) (i := 11) (by decide +kernel) rfl (gN (h' := [some ⟨59, [(eI .i64 0), (.row (some true) 1 []), (eI .i64 0), (eI .i64 0)]⟩, some ⟨59, [(eI .i64 (IntKind.i64.wrap x8)), (.row (some true) 1 []), (eI .i64 (IntKind.i64.wrap x58)), (eI .i64 0)]⟩]) (sv (d_store rfl rfl (stP ti3 rfl rfl rfl (Nat.le_of_ble_eq_true rfl) rfl)))) ?_
                      refine DrawG.pick (n := 2) (i := 12) (by decide +kernel) rfl (gS (v := (.ptr 1 3)) (sv (d_fa rfl (fap59_3 ..)))) ?_
                      refine DrawG.pick (n := 1) (i := 13) (by decide +kernel) rfl (gN (h' := [some ⟨59, [(eI .i64 0), (.row (some true) 1 []), (eI .i64 0), (eI .i64 0)]⟩, some ⟨59, [(eI .i64 (IntKind.i64.wrap x8)), (.row (some true) 1 []), (eI .i64 (IntKind.i64.wrap x58)), (eI .i64 (IntKind.i64.wrap x62))]⟩]) (sv (d_store rfl rfl (stP ti3 rfl rfl rfl (Nat.le_of_ble_eq_true rfl) rfl)))) ?_
                      refine DrawG.pick (n := 0) (i := 14) (by decide +kernel) rfl (gS (v := (.row none 1 (x66.map (eI .u8)))) (sv (d_assign rfl))) ?_
                      refine DrawG.nil (by decide +kernel) ?_
                      refine Ex.then_mk ?_
                      exact hG3 _ _ _ _ (Ghost.rn [0, 1] rfl rfl (FLe.same rfl (FLe.same rfl (FLe.same rfl FLe.nil))) (HLe.live rfl (V.les_refl _ _) rfl (HLe.live rfl (V.les_refl _ _) rfl HLe.nil)) rfl) (J3 x66 (IntKind.i64.wrap x58) (IntKind.i64.wrap x62) hr)
                    · refine DrawG.pick (n := 3) (i := 12) (by decide +kernel) rfl (gS (v := (.ptr 1 3)) (sv (d_fa rfl (fap59_3 ..)))) ?_
                      refine DrawG.fork (n := 2) [9, 13] (by decide +kernel) (by decide) ?_
                      refine (Fork.cons rfl (gS (v := (.row none 1 (x66.map (eI .u8)))) (sv (d_slice rfl rfl rfl (slR ti22 ti5 rfl rfl h_20)))) ?_ (Fork.cons rfl (gN (h' := [some ⟨59, [(eI .i64 0), (.row (some true) 1 []), (eI .i64 0), (eI .i64 0)]⟩, some ⟨59, [(eI .i64 (IntKind.i64.wrap x8)), (.row (some true) 1 []), (eI .i64 (IntKind.i64.wrap x58)), (eI .i64 (IntKind.i64.wrap x62))]⟩]) (sv (d_store rfl rfl (stP ti3 rfl rfl rfl (Nat.le_of_ble_eq_true rfl) rfl)))) ?_ Fork.nil))
                      · refine DrawG.pick (n := 1) (i := 13) (by decide +kernel) rfl (gN (h' := [some ⟨59, [(eI .i64 0), (.row (some true) 1 []), (eI .i64 0), (eI .i64 0)]⟩, some ⟨59, [(eI .i64 (IntKind.i64.wrap x8)), (.row (some true) 1 []), (eI .i64 (IntKind.i64.wrap x58)), (eI .i64 (IntKind.i64.wrap x62))]⟩]) (sv (d_store rfl rfl (stP ti3 rfl rfl rfl (Nat.le_of_ble_eq_true rfl) rfl)))) ?_
                        refine DrawG.pick (n := 0) (i := 14) (by decide +kernel) rfl (gS (v := (.row none 1 (x66.map (eI .u8)))) (sv (d_assign rfl))) ?_
                        refine DrawG.nil (by decide +kernel) ?_
                        refine Ex.then_mk ?_
                        exact hG3 _ _ _ _ (Ghost.rn [0, 1] rfl rfl (FLe.same rfl (FLe.same rfl (FLe.same rfl FLe.nil))) (HLe.live rfl (V.les_refl _ _) rfl (HLe.live rfl (V.les_refl _ _) rfl HLe.nil)) rfl) (J3 x66 (IntKind.i64.wrap x58) (IntKind.i64.wrap x62) hr)
                      · refine DrawG.pick (n := 1) (i := 9) (by decide +kernel) rfl (gS (v := (.row none 1 (x66.map (eI .u8)))) (sv (d_slice rfl rfl rfl (slR ti22 ti5 rfl rfl h_20)))) ?_
                        refine DrawG.pick (n := 0) (i := 14) (by decide +kernel) rfl (gS (v := (.row none 1 (x66.map (eI .u8)))) (sv (d_assign rfl))) ?_
                        refine DrawG.nil (by decide +kernel) ?_
                        refine Ex.then_mk ?_
                        exact hG3 _ _ _ _ (Ghost.rn [0, 1] rfl rfl (FLe.same rfl (FLe.same rfl (FLe.same rfl FLe.nil))) (HLe.live rfl (V.les_refl _ _) rfl (HLe.live rfl (V.les_refl _ _) rfl HLe.nil)) rfl) (J3 x66 (IntKind.i64.wrap x58) (IntKind.i64.wrap x62) hr)
                  · refine DrawG.fork (n := 4) [7, 11] (by decide +kernel) (by decide) ?_
                    refine (Fork.cons rfl (gS (v := (eI .i64 (IntKind.i64.wrap x62))) (sv (d_conv rfl (conv_int _ ⟨_, ti5⟩ ti3 rfl)))) ?_ (Fork.cons rfl (gN (h' := [some ⟨59, [(eI .i64 0), (.row (some true) 1 []), (eI .i64 0), (eI .i64 0)]⟩, some ⟨59, [(eI .i64 (IntKind.i64.wrap x8)), (.row (some true) 1 []), (eI .i64 (IntKind.i64.wrap x58)), (eI .i64 0)]⟩]) (sv (d_store rfl rfl (stP ti3 rfl rfl rfl (Nat.le_of_ble_eq_true rfl) rfl)))) ?_ Fork.nil))
                    · refine DrawG.pick (n := 3) (i := 11) (by decide +kernel) rfl (gN (h' := [some ⟨59, [(eI .i64 0), (.row (some true) 1 []), (eI .i64 0), (eI .i64 0)]⟩, some ⟨59, [(eI .i64 (IntKind.i64.wrap x8)), (.row (some true) 1 []), (eI .i64 (IntKind.i64.wrap x58)), (eI .i64 0)]⟩]) (sv (d_store rfl rfl (stP ti3 rfl rfl rfl (Nat.le_of_ble_eq_true rfl) rfl)))) ?_
                      refine DrawG.pick (n := 2) (i := 12) (by decide +kernel) rfl (gS (v := (.ptr 1 3)) (sv (d_fa rfl (fap59_3 ..)))) ?_
                      refine DrawG.pick (n := 1) (i := 13) (by decide +kernel) rfl (gN (h' := [some ⟨59, [(eI .i64 0), (.row (some true) 1 []), (eI .i64 0), (eI .i64 0)]⟩, some ⟨59, [(eI .i64 (IntKind.i64.wrap x8)), (.row (some true) 1 []), (eI .i64 (IntKind.i64.wrap x58)), (eI .i64 (IntKind.i64.wrap x62))]⟩]) (sv (d_store rfl rfl (stP ti3 rfl rfl rfl (Nat.le_of_ble_eq_true rfl) rfl)))) ?_
                      refine DrawG.pick (n := 0) (i := 14) (by decide +kernel) rfl (gS (v := (.row none 1 (x66.map (eI .u8)))) (sv (d_assign rfl))) ?_
                      refine DrawG.nil (by decide +kernel) ?_
                      refine Ex.then_mk ?_
                      exact hG3 _ _ _ _ (Ghost.rn [0, 1] rfl rfl (FLe.same rfl (FLe.same rfl (FLe.same rfl FLe.nil))) (HLe.live rfl (V.les_refl _ _) rfl (HLe.live rfl (V.les_refl _ _) rfl HLe.nil)) rfl) (J3 x66 (IntKind.i64.wrap x58) (IntKind.i64.wrap x62) hr)
                    · refine DrawG.pick (n := 3) (i := 7) (by decide +kernel) rfl (gS (v := (eI .i64 (IntKind.i64.wrap x62))) (sv (d_conv rfl (conv_int _ ⟨_, ti5⟩ ti3 rfl)))) ?_
                      refine DrawG.pick (n := 2) (i := 12) (by decide +kernel) rfl (gS (v := (.ptr 1 3)) (sv (d_fa rfl (fap59_3 ..)))) ?_
                      refine DrawG.pick (n := 1) (i := 13) (by decide +kernel) rfl (gN (h' := [some ⟨59, [(eI .i64 0), (.row (some true) 1 []), (eI .i64 0), (eI .i64 0)]⟩, some ⟨59, [(eI .i64 (IntKind.i64.wrap x8)), (.row (some true) 1 []), (eI .i64 (IntKind.i64.wrap x58)), (eI .i64 (IntKind.i64.wrap x62))]⟩]) (sv (d_store rfl rfl (stP ti3 rfl rfl rfl (Nat.le_of_ble_eq_true rfl) rfl)))) ?_
                      refine DrawG.pick (n := 0) (i := 14) (by decide +kernel) rfl (gS (v := (.row none 1 (x66.map (eI .u8)))) (sv (d_assign rfl))) ?_
                      refine DrawG.nil (by decide +kernel) ?_
                      refine Ex.then_mk ?_
                      exact hG3 _ _ _ _ (Ghost.rn [0, 1] rfl rfl (FLe.same rfl (FLe.same rfl (FLe.same rfl FLe.nil))) (HLe.live rfl (V.les_refl _ _) rfl (HLe.live rfl (V.les_refl _ _) rfl HLe.nil)) rfl) (J3 x66 (IntKind.i64.wrap x58) (IntKind.i64.wrap x62) hr)
                  · refine DrawG.pick (n := 4) (i := 7) (by decide +kernel) rfl (gS (v := (eI .i64 (IntKind.i64.wrap x62))) (sv (d_conv rfl (conv_int _ ⟨_, ti5⟩ ti3 rfl)))) ?_
                    refine DrawG.pick (n := 3) (i := 12) (by decide +kernel) rfl (gS (v := (.ptr 1 3)) (sv (d_fa rfl (fap59_3 ..)))) ?_
                    refine DrawG.fork (n := 2) [9, 13] (by decide +kernel) (by decide) ?_
                    refine (Fork.cons rfl (gS (v := (.row none 1 (x66.map (eI .u8)))) (sv (d_slice rfl rfl rfl (slR ti22 ti5 rfl rfl h_20)))) ?_ (Fork.cons rfl (gN (h' := [some ⟨59, [(eI .i64 0), (.row (some true) 1 []), (eI .i64 0), (eI .i64 0)]⟩, some ⟨59, [(eI .i64 (IntKind.i64.wrap x8)), (.row (some true) 1 []), (eI .i64 (IntKind.i64.wrap x58)), (eI .i64 (IntKind.i64.wrap x62))]⟩]) (sv (d_store rfl rfl (stP ti3 rfl rfl rfl (Nat.le_of_ble_eq_true rfl) rfl)))) ?_ Fork.nil))
                    · refine DrawG.pick (n := 1) (i := 13) (by decide +kernel) rfl (gN (h' := [some ⟨59, [(eI .i64 0), (.row (some true) 1 []), (eI .i64 0), (eI .i64 0)]⟩, some ⟨59, [(eI .i64 (IntKind.i64.wrap x8)), (.row (some true) 1 []), (eI .i64 (IntKind.i64.wrap x58)), (eI .i64 (IntKind.i64.wrap x62))]⟩]) (sv (d_store rfl rfl (stP ti3 rfl rfl rfl (Nat.le_of_ble_eq_true rfl) rfl)))) ?_
                      refine DrawG.pick (n := 0) (i := 14) (by decide +kernel) rfl (gS (v := (.row none 1 (x66.map (eI .u8)))) (sv (d_assign rfl))) ?_
                      refine DrawG.nil (by decide +kernel) ?_
                      refine Ex.then_mk ?_
                      exact hG3 _ _ _ _ (Ghost.rn [0, 1] rfl rfl (FLe.same rfl (FLe.same rfl (FLe.same rfl FLe.nil))) (HLe.live rfl (V.les_refl _ _) rfl (HLe.live rfl (V.les_refl _ _) rfl HLe.nil)) rfl) (J3 x66 (IntKind.i64.wrap x58) (IntKind.i64.wrap x62) hr)
                    · refine DrawG.pick (n := 1) (i := 9) (by decide +kernel) rfl (gS (v := (.row none 1 (x66.map (eI .u8)))) (sv (d_slice rfl rfl rfl (slR ti22 ti5 rfl rfl h_20)))) ?_
                      refine DrawG.pick (n := 0) (i := 14) (by decide +kernel) rfl (gS (v := (.row none 1 (x66.map (eI .u8)))) (sv (d_assign rfl))) ?_
                      refine DrawG.nil (by decide +kernel) ?_
                      refine Ex.then_mk ?_
                      exact hG3 _ _ _ _ (Ghost.rn [0, 1] rfl rfl (FLe.same rfl (FLe.same rfl (FLe.same rfl FLe.nil))) (HLe.live rfl (V.les_refl _ _) rfl (HLe.live rfl (V.les_refl _ _) rfl HLe.nil)) rfl) (J3 x66 (IntKind.i64.wrap x58) (IntKind.i64.wrap x62) hr)
                · refine DrawG.pick (n := 5) (i := 7) (by decide +kernel) rfl (gS (v := (eI .i64 (IntKind.i64.wrap x62))) (sv (d_conv rfl (conv_int _ ⟨_, ti5⟩ ti3 rfl)))) ?_
                  refine DrawG.pick (n := 4) (i := 12) (by decide +kernel) rfl (gS (v := (.ptr 1 3)) (sv (d_fa rfl (fap59_3 ..)))) ?_
                  refine DrawG.fork (n := 3) [8, 13] (by decide +kernel) (by decide) ?_
                  refine (Fork.cons rfl (gS (v := (.row none 1 (x18.map (eI .u8)))) (sv (d_move rfl))) ?_ (Fork.cons rfl (gN (h' := [some ⟨59, [(eI .i64 0), (.row (some true) 1 []), (eI .i64 0), (eI .i64 0)]⟩, some ⟨59, [(eI .i64 (IntKind.i64.wrap x8)), (.row (some true) 1 []), (eI .i64 (IntKind.i64.wrap x58)), (eI .i64 (IntKind.i64.wrap x62))]⟩]) (sv (d_store rfl rfl (stP ti3 rfl rfl rfl (Nat.le_of_ble_eq_true rfl) rfl)))) ?_ Fork.nil))
                  · refine DrawG.fork (n := 2) [9, 13] (by decide +kernel) (by decide) ?_
                    refine (Fork.cons rfl (gS (v := (.row none 1 (x66.map (eI .u8)))) (sv (d_slice rfl rfl rfl (slR ti22 ti5 rfl rfl h_20)))) ?_ (Fork.cons rfl (gN (h' := [some ⟨59, [(eI .i64 0), (.row (some true) 1 []), (eI .i64 0), (eI .i64 0)]⟩, some ⟨59, [(eI .i64 (IntKind.i64.wrap x8)), (.row (some true) 1 []), (eI .i64 (IntKind.i64.wrap x58)), (eI .i64 (IntKind.i64.wrap x62))]⟩]) (sv (d_store rfl rfl (stP ti3 rfl rfl rfl (Nat.le_of_ble_eq_true rfl) rfl)))) ?_ Fork.nil))
                    · refine DrawG.pick (n := 1) (i := 13) (by decide +kernel) rfl (gN (h' := [some ⟨59, [(eI .i64 0), (.row (some true) 1 []), (eI .i64 0), (eI .i64 0)]⟩, some ⟨59, [(eI .i64 (IntKind.i64.wrap x8)), (.row (some true) 1 []), (eI .i64 (IntKind.i64.wrap x58)), (eI .i64 (IntKind.i64.wrap x62))]⟩]) (sv (d_store rfl rfl (stP ti3 rfl rfl rfl (Nat.le_of_ble_eq_true rfl) rfl)))) ?_
                      refine DrawG.pick (n := 0) (i := 14) (by decide +kernel) rfl (gS (v := (.row none 1 (x66.map (eI .u8)))) (sv (d_assign rfl))) ?_
                      refine DrawG.nil (by decide +kernel) ?_
                      refine Ex.then_mk ?_
                      exact hG3 _ _ _ _ (Ghost.rn [0, 1] rfl rfl (FLe.same rfl (FLe.same rfl (FLe.same rfl FLe.nil))) (HLe.live rfl (V.les_refl _ _) rfl (HLe.live rfl (V.les_refl _ _) rfl HLe.nil)) rfl) (J3 x66 (IntKind.i64.wrap x58) (IntKind.i64.wrap x62) hr)
                    · refine DrawG.pick (n := 1) (i := 9) (by decide +kernel) rfl (gS (v := (.row none 1 (x66.map (eI .u8)))) (sv (d_slice rfl rfl rfl (slR ti22 ti5 rfl rfl h_20)))) ?_
                      refine DrawG.pick (n := 0) (i := 14) (by decide +kernel) rfl (gS (v := (.row none 1 (x66.map (eI .u8)))) (sv (d_assign rfl))) ?_
                      refine DrawG.nil (by decide +kernel) ?_
                      refine Ex.then_mk ?_
                      exact hG3 _ _ _ _ (Ghost.rn [0, 1] rfl rfl (FLe.same rfl (FLe.same rfl (FLe.same rfl FLe.nil))) (HLe.live rfl (V.les_refl _ _) rfl (HLe.live rfl (V.les_refl _ _) rfl HLe.nil)) rfl) (J3 x66 (IntKind.i64.wrap x58) (IntKind.i64.wrap x62) hr)
                  · refine DrawG.pick (n := 2) (i := 8) (by decide +kernel) rfl (gS (v := (.row none 1 (x18.map (eI .u8)))) (sv (d_move rfl))) ?_
                    refine DrawG.pick (n := 1) (i := 9) (by decide +kernel) rfl (gS (v := (.row none 1 (x66.map (eI .u8)))) (sv (d_slice rfl rfl rfl (slR ti22 ti5 rfl rfl h_20)))) ?_
                    refine DrawG.pick (n := 0) (i := 14) (by decide +kernel) rfl (gS (v := (.row none 1 (x66.map (eI .u8)))) (sv (d_assign rfl))) ?_
                    refine DrawG.nil (by decide +kernel) ?_
                    refine Ex.then_mk ?_
                    exact hG3 _ _ _ _ (Ghost.rn [0, 1] rfl rfl (FLe.same rfl (FLe.same rfl (FLe.same rfl FLe.nil))) (HLe.live rfl (V.les_refl _ _) rfl (HLe.live rfl (V.les_refl _ _) rfl HLe.nil)) rfl) (J3 x66 (IntKind.i64.wrap x58) (IntKind.i64.wrap x62) hr)
              · refine DrawG.fork (n := 6) [6, 9, 11] (by decide +kernel) (by decide) ?_
                refine (Fork.cons rfl (gS (v := (eI .u8 x62)) (sv (d_load rfl (ldR h_19 (part1 ti5 rfl rfl))))) ?_ (Fork.cons rfl (gS (v := (.row none 1 (x66.map (eI .u8)))) (sv (d_slice rfl rfl rfl (slR ti22 ti5 rfl rfl h_20)))) ?_ (Fork.cons rfl (gN (h' := [some ⟨59, [(eI .i64 0), (.row (some true) 1 []), (eI .i64 0), (eI .i64 0)]⟩, some ⟨59, [(eI .i64 (IntKind.i64.wrap x8)), (.row (some true) 1 []), (eI .i64 (IntKind.i64.wrap x58)), (eI .i64 0)]⟩]) (sv (d_store rfl rfl (stP ti3 rfl rfl rfl (Nat.le_of_ble_eq_true rfl) rfl)))) ?_ Fork.nil)))
                · refine DrawG.fork (n := 5) [7, 9, 11] (by decide +kernel) (by decide) ?_
                  refine (Fork.cons rfl (gS (v := (eI .i64 (IntKind.i64.wrap x62))) (sv (d_conv rfl (conv_int _ ⟨_, ti5⟩ ti3 rfl)))) ?_ (Fork.cons rfl (gS (v := (.row none 1 (x66.map (eI .u8)))) (sv (d_slice rfl rfl rfl (slR ti22 ti5 rfl rfl h_20)))) ?_ (Fork.cons rfl (gN (h' := [some ⟨59, [(eI .i64 0), (.row (some true) 1 []), (eI .i64 0), (eI .i64 0)]⟩, some ⟨59, [(eI .i64 (IntKind.i64.wrap x8)), (.row (some true) 1 []), (eI .i64 (IntKind.i64.wrap x58)), (eI .i64 0)]⟩]) (sv (d_store rfl rfl (stP ti3 rfl rfl rfl (Nat.le_of_ble_eq_true rfl) rfl)))) ?_ Fork.nil)))
                  · refine DrawG.fork (n := 4) [9, 11] (by decide +kernel) (by decide) ?_
                    refine (Fork.cons rfl (gS (v := (.row none 1 (x66.map (eI .u8)))) (sv (d_slice rfl rfl rfl (slR ti22 ti5 rfl rfl h_20)))) ?_ (Fork.cons rfl (gN (h' := [some ⟨59, [(eI .i64 0), (.row (some true) 1 []), (eI .i64 0), (eI .i64 0)]⟩, some ⟨59, [(eI .i64 (IntKind.i64.wrap x8)), (.row (some true) 1 []), (eI .i64 (IntKind.i64.wrap x58)), (eI .i64 0)]⟩]) (sv (d_store rfl rfl (stP ti3 rfl rfl rfl (Nat.le_of_ble_eq_true rfl) rfl)))) ?_ Fork.nil))
                    · refine DrawG.pick (n := 3) (i := 11) (by decide +kernel) rfl (gN (h' := [some ⟨59, [(eI .i64 0), (.row (some true) 1 []), (eI .i64 0), (eI .i64 0)]⟩, some ⟨59, [(eI .i64 (IntKind.i64.wrap x8)), (.row (some true) 1 []), (eI .i64 (IntKind.i64.wrap x58)), (eI .i64 0)]⟩]) (sv (d_store rfl rfl (stP ti3 rfl rfl rfl (Nat.le_of_ble_eq_true rfl) rfl)))) ?_
                      refine DrawG.pick (n := 2) (i := 12) (by decide +kernel) rfl (gS (v := (.ptr 1 3)) (sv (d_fa rfl (fap59_3 ..)))) ?_
                      refine DrawG.pick (n := 1) (i := 13) (by decide +kernel) rfl (gN (h' := [some ⟨59, [(eI .i64 0), (.row (some true) 1 []), (eI .i64 0), (eI .i64 0)]⟩, some ⟨59, [(eI .i64 (IntKind.i64.wrap x8)), (.row (some true) 1 []), (eI .i64 (IntKind.i64.wrap x58)), (eI .i64 (IntKind.i64.wrap x62))]⟩]) (sv (d_store rfl rfl (stP ti3 rfl rfl rfl (Nat.le_of_ble_eq_true rfl) rfl)))) ?_
                      refine DrawG.pick (n := 0) (i := 14) (by decide +kernel) rfl (gS (v := (.row none 1 (x66.map (eI .u8)))) (sv (d_assign rfl))) ?_
                      refine DrawG.nil (by decide +kernel) ?_
                      refine Ex.then_mk ?_
                      exact hG3 _ _ _ _ (Ghost.rn [0, 1] rfl rfl (FLe.same rfl (FLe.same rfl (FLe.same rfl FLe.nil))) (HLe.live rfl (V.les_refl _ _) rfl (HLe.live rfl (V.les_refl _ _) rfl HLe.nil)) rfl) (J3 x66 (IntKind.i64.wrap x58) (IntKind.i64.wrap x62) hr)
                    · refine DrawG.pick (n := 3) (i := 12) (by decide +kernel) rfl (gS (v := (.ptr 1 3)) (sv (d_fa rfl (fap59_3 ..)))) ?_
                      refine DrawG.fork (n := 2) [9, 13] (by decide +kernel) (by decide) ?_
                      refine (Fork.cons rfl (gS (v := (.row none 1 (x66.map (eI .u8)))) (sv (d_slice rfl rfl rfl (slR ti22 ti5 rfl rfl h_20)))) ?_ (Fork.cons rfl (gN (h' := [some ⟨59, [(eI .i64 0), (.row (some true) 1 []), (eI .i64 0), (eI .i64 0)]⟩, some ⟨59, [(eI .i64 (IntKind.i64.wrap x8)), (.row (some true) 1 []), (eI .i64 (IntKind.i64.wrap x58)), (eI .i64 (IntKind.i64.wrap x62))]⟩]) (sv (d_store rfl rfl (stP ti3 rfl rfl rfl (Nat.le_of_ble_eq_true rfl) rfl)))) ?_ Fork.nil))
                      · refine DrawG.pick (n := 1) (i := 13) (by decide +kernel) rfl (gN (h' := [some ⟨59, [(eI .i64 0), (.row (some true) 1 []), (eI .i64 0), (eI .i64 0)]⟩, some ⟨59, [(eI .i64 (IntKind.i64.wrap x8)), (.row (some true) 1 []), (eI .i64 (IntKind.i64.wrap x58)), (eI .i64 (IntKind.i64.wrap x62))]⟩]) (sv (d_store rfl rfl (stP ti3 rfl rfl rfl (Nat.le_of_ble_eq_true rfl) rfl)))) ?_
                        refine DrawG.pick (n := 0) (i := 14) (by decide +kernel) rfl (gS (v := (.row none 1 (x66.map (eI .u8)))) (sv (d_assign rfl))) ?_
                        refine DrawG.nil (by decide +kernel) ?_
                        refine Ex.then_mk ?_
                        exact hG3 _ _ _ _ (Ghost.rn [0, 1] rfl rfl (FLe.same rfl (FLe.same rfl (FLe.same rfl FLe.nil))) (HLe.live rfl (V.les_refl _ _) rfl (HLe.live rfl (V.les_refl _ _) rfl HLe.nil)) rfl) (J3 x66 (IntKind.i64.wrap x58) (IntKind.i64.wrap x62) hr)
                      · refine DrawG.pick (n := 1) (i := 9) (by decide +kernel) rfl (gS (v := (.row none 1 (x66.map (eI .u8)))) (sv (d_slice rfl rfl rfl (slR ti22 ti5 rfl rfl h_20)))) ?_
                        refine DrawG.pick (n := 0) (i := 14) (by decide +kernel) rfl (gS (v := (.row none 1 (x66.map (eI .u8)))) (sv (d_assign rfl))) ?_
                        refine DrawG.nil (by decide +kernel) ?_
                        refine Ex.then_mk ?_
                        exact hG3 _ _ _ _ (Ghost.rn [0, 1] rfl rfl (FLe.same rfl (FLe.same rfl (FLe.same rfl FLe.nil))) (HLe.live rfl (V.les_refl _ _) rfl (HLe.live rfl (V.les_refl _ _) rfl HLe.nil)) rfl) (J3 x66 (IntKind.i64.wrap x58) (IntKind.i64.wrap x62) hr)
                  · refine DrawG.fork (n := 4) [7, 11] (by decide +kernel) (by decide) ?_
                    refine (Fork.cons rfl (gS (v := (eI .i64 (IntKind.i64.wrap x62))) (sv (d_conv rfl (conv_int _ ⟨_, ti5⟩ ti3 rfl)))) ?_ (Fork.cons rfl (gN (h' := [some ⟨59, [(eI .i64 0), (.row (some true) 1 []), (eI .i64 0), (eI .i64 0)]⟩, some ⟨59, [(eI .i64 (IntKind.i64.wrap x8)), (.row (some true) 1 []), (eI .i64 (IntKind.i64.wrap x58)), (eI .i64 0)]⟩]) (sv (d_store rfl rfl (stP ti3 rfl rfl rfl (Nat.le_of_ble_eq_true rfl) rfl)))) ?_ Fork.nil))
                    · refine DrawG.pick (n := 3) (i := 11) (by decide +kernel) rfl (gN (h' := [some ⟨59, [(eI .i64 0), (.row (some true) 1 []), (eI .i64 0), (eI .i64 0)]⟩, some ⟨59, [(eI .i64 (IntKind.i64.wrap x8)), (.row (some true) 1 []), (eI .i64 (IntKind.i64.wrap x58)), (eI .i64 0)]⟩]) (sv (d_store rfl rfl (stP ti3 rfl rfl rfl (Nat.le_of_ble_eq_true rfl) rfl)))) ?_
                      refine DrawG.pick (n := 2) (i := 12) (by decide +kernel) rfl (gS (v := (.ptr 1 3)) (sv (d_fa rfl (fap59_3 ..)))) ?_
                      refine DrawG.pick (n := 1) (i := 13) (by decide +kernel) rfl (gN (h' := [some ⟨59, [(eI .i64 0), (.row (some true) 1 []), (eI .i64 0), (eI .i64 0)]⟩, some ⟨59, [(eI .i64 (IntKind.i64.wrap x8)), (.row (some true) 1 []), (eI .i64 (IntKind.i64.wrap x58)), (eI .i64 (IntKind.i64.wrap x62))]⟩]) (sv (d_store rfl rfl (stP ti3 rfl rfl rfl (Nat.le_of_ble_eq_true rfl) rfl)))) ?_
                      refine DrawG.pick (n := 0) (i := 14) (by decide +kernel) rfl (gS (v := (.row none 1 (x66.map (eI .u8)))) (sv (d_assign rfl))) ?_
                      refine DrawG.nil (by decide +kernel) ?_
                      refine Ex.then_mk ?_
                      exact hG3 _ _ _ _ (Ghost.rn [0, 1] rfl rfl (FLe.same rfl (FLe.same rfl (FLe.same rfl FLe.nil))) (HLe.live rfl (V.les_refl _ _) rfl (HLe.live rfl (V.les_refl _ _) rfl HLe.nil)) rfl) (J3 x66 (IntKind.i64.wrap x58) (IntKind.i64.wrap x62) hr)
                    · refine DrawG.pick (n := 3) (i := 7) (by decide +kernel) rfl (gS (v := (eI .i64 (IntKind.i64.wrap x62))) (sv (d_conv rfl (conv_int _ ⟨_, ti5⟩ ti3 rfl)))) ?_
                      refine DrawG.pick (n := 2) (i := 12) (by decide +kernel) rfl (gS (v := (.ptr 1 3)) (sv (d_fa rfl (fap59_3 ..)))) ?_
                      refine DrawG.pick (n := 1) (i := 13) (by decide +kernel) rfl (gN (h' := [some ⟨59, [(eI .i64 0), (.row (some true) 1 []), (eI .i64 0), (eI .i64 0)]⟩, some ⟨59, [(eI .i64 (IntKind.i64.wrap x8)), (.row (some true) 1 []), (eI .i64 (IntKind.i64.wrap x58)), (eI .i64 (IntKind.i64.wrap x62))]⟩]) (sv (d_store rfl rfl (stP ti3 rfl rfl rfl (Nat.le_of_ble_eq_true rfl) rfl)))) ?_
                      refine DrawG.pick (n := 0) (i := 14) (by decide +kernel) rfl (gS (v := (.row none 1 (x66.map (eI .u8)))) (sv (d_assign rfl))) ?_
                      refine DrawG.nil (by decide +kernel) ?_
                      refine Ex.then_mk ?_
                      exact hG3 _ _ _ _ (Ghost.rn [0, 1] rfl rfl (FLe.same rfl (FLe.same rfl (FLe.same rfl FLe.nil))) (HLe.live rfl (V.les_refl _ _) rfl (HLe.live rfl (V.les_refl _ _) rfl HLe.nil)) rfl) (J3 x66 (IntKind.i64.wrap x58) (IntKind.i64.wrap x62) hr)
                  · refine DrawG.pick (n := 4) (i := 7) (by decide +kernel) rfl (gS (v := (eI .i64 (IntKind.i64.wrap x62))) (sv (d_conv rfl (conv_int _ ⟨_, ti5⟩ ti3 rfl)))) ?_
                    refine DrawG.pick (n := 3) (i := 12) (by decide +kernel) rfl (gS (v := (.ptr 1 3)) (sv (d_fa rfl (fap59_3 ..)))) ?_
                    refine DrawG.fork (n := 2) [9, 13] (by decide +kernel) (by decide) ?_
                    refine (Fork.cons rfl (gS (v := (.row none 1 (x66.map (eI .u8)))) (sv (d_slice rfl rfl rfl (slR ti22 ti5 rfl rfl h_20)))) ?_ (Fork.cons rfl (gN (h' := [some ⟨59, [(eI .i64 0), (.row (some true) 1 []), (eI .i64 0), (eI .i64 0)]⟩, some ⟨59, [(eI .i64 (IntKind.i64.wrap x8)), (.row (some true) 1 []), (eI .i64 (IntKind.i64.wrap x58)), (eI .i64 (IntKind.i64.wrap x62))]⟩]) (sv (d_store rfl rfl (stP ti3 rfl rfl rfl (Nat.le_of_ble_eq_true rfl) rfl)))) ?_ Fork.nil))
                    · refine DrawG.pick (n := 1) (i := 13) (by decide +kernel) rfl (gN (h' := [some ⟨59, [(eI .i64 0), (.row (some true) 1 []), (eI .i64 0), (eI .i64 0)]⟩, some ⟨59, [(eI .i64 (IntKind.i64.wrap x8)), (.row (some true) 1 []), (eI .i64 (IntKind.i64.wrap x58)), (eI .i64 (IntKind.i64.wrap x62))]⟩]) (sv (d_store rfl rfl (stP ti3 rfl rfl rfl (Nat.le_of_ble_eq_true rfl) rfl)))) ?_
                      refine DrawG.pick (n := 0) (i := 14) (by decide +kernel) rfl (gS (v := (.row none 1 (x66.map (eI .u8)))) (sv (d_assign rfl))) ?_
                      refine DrawG.nil (by decide +kernel) ?_
                      refine Ex.then_mk ?_
                      exact hG3 _ _ _ _ (Ghost.rn [0, 1] rfl rfl (FLe.same rfl (FLe.same rfl (FLe.same rfl FLe.nil))) (HLe.live rfl (V.les_refl _ _) rfl (HLe.live rfl (V.les_refl _ _) rfl HLe.nil)) rfl) (J3 x66 (IntKind.i64.wrap x58) (IntKind.i64.wrap x62) hr)
                    · refine DrawG.pick (n := 1) (i := 9) (by decide +kernel) rfl (gS (v := (.row none 1 (x66.map (eI .u8)))) (sv (d_slice rfl rfl rfl (slR ti22 ti5 rfl rfl h_20)))) ?_
                      refine DrawG.pick (n := 0) (i := 14) (by decide +kernel) rfl (gS (v := (.row none 1 (x66.map (eI .u8)))) (sv (d_assign rfl))) ?_
                      refine DrawG.nil (by decide +kernel) ?_
                      refine Ex.then_mk ?_
                      exact hG3 _ _ _ _ (Ghost.rn [0, 1] rfl rfl (FLe.same rfl (FLe.same rfl (FLe.same rfl FLe.nil))) (HLe.live rfl (V.les_refl _ _) rfl (HLe.live rfl (V.les_refl _ _) rfl HLe.nil)) rfl) (J3 x66 (IntKind.i64.wrap x58) (IntKind.i64.wrap x62) hr)
                · refine DrawG.fork (n := 5) [6, 11] (by decide +kernel) (by decide) ?_
                  refine (Fork.cons rfl (gS (v := (eI .u8 x62)) (sv (d_load rfl (ldR h_19 (part1 ti5 rfl rfl))))) ?_ (Fork.cons rfl (gN (h' := [some ⟨59, [(eI .i64 0), (.row (some true) 1 []), (eI .i64 0), (eI .i64 0)]⟩, some ⟨59, [(eI .i64 (IntKind.i64.wrap x8)), (.row (some true) 1 []), (eI .i64 (IntKind.i64.wrap x58)), (eI .i64 0)]⟩]) (sv (d_store rfl rfl (stP ti3 rfl rfl rfl (Nat.le_of_ble_eq_true rfl) rfl)))) ?_ Fork.nil))
                  · refine DrawG.fork (n := 4) [7, 11] (by decide +kernel) (by decide) ?_
                    refine (Fork.cons rfl (gS (v := (eI .i64 (IntKind.i64.wrap x62))) (sv (d_conv rfl (conv_int _ ⟨_, ti5⟩ ti3 rfl)))) ?_ (Fork.cons rfl (gN (h' := [some ⟨59, [(eI .i64 0), (.row (some true) 1 []), (eI .i64 0), (eI .i64 0)]⟩, some ⟨59, [(eI .i64 (IntKind.i64.wrap x8)), (.row (some true) 1 []), (eI .i64 (IntKind.i64.wrap x58)), (eI .i64 0)]⟩]) (sv (d_store rfl rfl (stP ti3 rfl rfl rfl (Nat.le_of_ble_eq_true rfl) rfl)))) ?_ Fork.nil))
                    · refine DrawG.pick (n := 3) (i := 11) (by decide +kernel) rfl (gN (h' := [some ⟨59, [(eI .i64 0), (.row (some true) 1 []), (eI .i64 0), (eI .i64 0)]⟩, some ⟨59, [(eI .i64 (IntKind.i64.wrap x8)), (.row (some true) 1 []), (eI .i64 (IntKind.i64.wrap x58)), (eI .i64 0)]⟩]) (sv (d_store rfl rfl (stP ti3 rfl rfl rfl (Nat.le_of_ble_eq_true rfl) rfl)))) ?_
                      refine DrawG.pick (n := 2) (i := 12) (by decide +kernel) rfl (gS (v := (.ptr 1 3)) (sv (d_fa rfl (fap59_3 ..)))) ?_
                      refine DrawG.pick (n := 1) (i := 13) (by decide +kernel) rfl (gN (h' := [some ⟨59, [(eI .i64 0), (.row (some true) 1 []), (eI .i64 0), (eI .i64 0)]⟩, some ⟨59, [(eI .i64 (IntKind.i64.wrap x8)), (.row (some true) 1 []), (eI .i64 (IntKind.i64.wrap x58)), (eI .i64 (IntKind.i64.wrap x62))]⟩]) (sv (d_store rfl rfl (stP ti3 rfl rfl rfl (Nat.le_of_ble_eq_true rfl) rfl)))) ?_
                      refine DrawG.pick (n := 0) (i := 14) (by decide +kernel) rfl (gS (v := (.row none 1 (x66.map (eI .u8)))) (sv (d_assign rfl))) ?_
                      refine DrawG.nil (by decide +kernel) ?_
                      refine Ex.then_mk ?_
                      exact hG3 _ _ _ _ (Ghost.rn [0, 1] rfl rfl (FLe.same rfl (FLe.same rfl (FLe.same rfl FLe.nil))) (HLe.live rfl (V.les_refl _ _) rfl (HLe.live rfl (V.les_refl _ _) rfl HLe.nil)) rfl) (J3 x66 (IntKind.i64.wrap x58) (IntKind.i64.wrap x62) hr)
                    · refine DrawG.pick (n := 3) (i := 7) (by decide +kernel) rfl (gS (v := (eI .i64 (IntKind.i64.wrap x62))) (sv (d_conv rfl (conv_int _ ⟨_, ti5⟩ ti3 rfl)))) ?_
                      refine DrawG.pick (n := 2) (i := 12) (by decide +kernel) rfl (gS (v := (.ptr 1 3)) (sv (d_fa rfl (fap59_3 ..)))) ?_
                      refine DrawG.pick (n := 1) (i := 13) (by decide +kernel) rfl (gN (h' := [some ⟨59, [(eI .i64 0), (.row (some true) 1 []), (eI .i64 0), (eI .i64 0)]⟩, some ⟨59, [(eI .i64 (IntKind.i64.wrap x8)), (.row (some true) 1 []), (eI .i64 (IntKind.i64.wrap x58)), (eI .i64 (IntKind.i64.wrap x62))]⟩]) (sv (d_store rfl rfl (stP ti3 rfl rfl rfl (Nat.le_of_ble_eq_true rfl) rfl)))) ?_
                      refine DrawG.pick (n := 0) (i := 14) (by decide +kernel) rfl (gS (v := (.row none 1 (x66.map (eI .u8)))) (sv (d_assign rfl))) ?_
                      refine DrawG.nil (by decide +kernel) ?_
                      refine Ex.then_mk ?_
                      exact hG3 _ _ _ _ (Ghost.rn [0, 1] rfl rfl (FLe.same rfl (FLe.same rfl (FLe.same rfl FLe.nil))) (HLe.live rfl (V.les_refl _ _) rfl (HLe.live rfl (V.les_refl _ _) rfl HLe.nil)) rfl) (J3 x66 (IntKind.i64.wrap x58) (IntKind.i64.wrap x62) hr)
                  · refine DrawG.pick (n := 4) (i := 6) (by decide +kernel) rfl (gS (v := (eI .u8 x62)) (sv (d_load rfl (ldR h_19 (part1 ti5 rfl rfl))))) ?_
                    refine DrawG.pick (n := 3) (i := 7) (by decide +kernel) rfl (gS (v := (eI .i64 (IntKind.i64.wrap x62))) (sv (d_conv rfl (conv_int _ ⟨_, ti5⟩ ti3 rfl)))) ?_
                    refine DrawG.pick (n := 2) (i := 12) (by decide +kernel) rfl (gS (v := (.ptr 1 3)) (sv (d_fa rfl (fap59_3 ..)))) ?_
                    refine DrawG.pick (n := 1) (i := 13) (by decide +kernel) rfl (gN (h' := [some ⟨59, [(eI .i64 0), (.row (some true) 1 []), (eI .i64 0), (eI .i64 0)]⟩, some ⟨59, [(eI .i64 (IntKind.i64.wrap x8)), (.row (some true) 1 []), (eI .i64 (IntKind.i64.wrap x58)), (eI .i64 (IntKind.i64.wrap x62))]⟩]) (sv (d_store rfl rfl (stP ti3 rfl rfl rfl (Nat.le_of_ble_eq_true rfl) rfl)))) ?_
                    refine DrawG.pick (n := 0) (i := 14) (by decide +kernel) rfl (gS (v := (.row none 1 (x66.map (eI .u8)))) (sv (d_assign rfl))) ?_
                    refine DrawG.nil (by decide +kernel) ?_
                    refine Ex.then_mk ?_
                    exact hG3 _ _ _ _ (Ghost.rn [0, 1] rfl rfl (FLe.same rfl (FLe.same rfl (FLe.same rfl FLe.nil))) (HLe.live rfl (V.les_refl _ _) rfl (HLe.live rfl (V.les_refl _ _) rfl HLe.nil)) rfl) (J3 x66 (IntKind.i64.wrap x58) (IntKind.i64.wrap x62) hr)
                · refine DrawG.pick (n := 5) (i := 6) (by decide +kernel) rfl (gS (v := (eI .u8 x62)) (sv (d_load rfl (ldR h_19 (part1 ti5 rfl rfl))))) ?_
                  refine DrawG.pick (n := 4) (i := 7) (by decide +kernel) rfl (gS (v := (eI .i64 (IntKind.i64.wrap x62))) (sv (d_conv rfl (conv_int _ ⟨_, ti5⟩ ti3 rfl)))) ?_
                  refine DrawG.pick (n := 3) (i := 12) (by decide +kernel) rfl (gS (v := (.ptr 1 3)) (sv (d_fa rfl (fap59_3 ..)))) ?_
                  refine DrawG.fork (n := 2) [9, 13] (by decide +kernel) (by decide) ?_
                  refine (Fork.cons rfl (gS (v := (.row none 1 (x66.map (eI .u8)))) (sv (d_slice rfl rfl rfl (slR ti22 ti5 rfl rfl h_20)))) ?_ (Fork.cons rfl (gN (h' := [some ⟨59, [(eI .i64 0), (.row (some true) 1 []), (eI .i64 0), (eI .i64 0)]⟩, some ⟨59, [(eI .i64 (IntKind.i64.wrap x8)), (.row (some true) 1 []), (eI .i64 (IntKind.i64.wrap x58)), (eI .i64 (IntKind.i64.wrap x62))]⟩]) (sv (d_store rfl rfl (stP ti3 rfl rfl rfl (Nat.le_of_ble_eq_true rfl) rfl)))) ?_ Fork.nil))
                  · refine DrawG.pick (n := 1) (i := 13) (by decide +kernel) rfl (gN (h' := [some ⟨59, [(eI .i64 0), (.row (some true) 1 []), (eI .i64 0), (eI .i64 0)]⟩, some ⟨59, [(eI .i64 (IntKind.i64.wrap x8)), (.row (some true) 1 []), (eI .i64 (IntKind.i64.wrap x58)), (eI .i64 (IntKind.i64.wrap x62))]⟩]) (sv (d_store rfl rfl (stP ti3 rfl rfl rfl (Nat.le_of_ble_eq_true rfl) rfl)))) ?_
                    refine DrawG.pick (n := 0) (i := 14) (by decide +kernel) rfl (gS (v := (.row none 1 (x66.map (eI .u8)))) (sv (d_assign rfl))) ?_
                    refine DrawG.nil (by decide +kernel) ?_
                    refine Ex.then_mk ?_
                    exact hG3 _ _ _ _ (Ghost.rn [0, 1] rfl rfl (FLe.same rfl (FLe.same rfl (FLe.same rfl FLe.nil))) (HLe.live rfl (V.les_refl _ _) rfl (HLe.live rfl (V.les_refl _ _) rfl HLe.nil)) rfl) (J3 x66 (IntKind.i64.wrap x58) (IntKind.i64.wrap x62) hr)
                  · refine DrawG.pick (n := 1) (i := 9) (by decide +kernel) rfl (gS (v := (.row none 1 (x66.map (eI .u8)))) (sv (d_slice rfl rfl rfl (slR ti22 ti5 rfl rfl h_20)))) ?_
                    refine DrawG.pick (n := 0) (i := 14) (by decide +kernel) rfl (gS (v := (.row none 1 (x66.map (eI .u8)))) (sv (d_assign rfl))) ?_
                    refine DrawG.nil (by decide +kernel) ?_
                    refine Ex.then_mk ?_
                    exact hG3 _ _ _ _ (Ghost.rn [0, 1] rfl rfl (FLe.same rfl (FLe.same rfl (FLe.same rfl FLe.nil))) (HLe.live rfl (V.les_refl _ _) rfl (HLe.live rfl (V.les_refl _ _) rfl HLe.nil)) rfl) (J3 x66 (IntKind.i64.wrap x58) (IntKind.i64.wrap x62) hr)
              · refine DrawG.pick (n := 6) (i := 6) (by decide +kernel) rfl (gS (v := (eI .u8 x62)) (sv (d_load rfl (ldR h_19 (part1 ti5 rfl rfl))))) ?_
                refine DrawG.pick (n := 5) (i := 7) (by decide +kernel) rfl (gS (v := (eI .i64 (IntKind.i64.wrap x62))) (sv (d_conv rfl (conv_int _ ⟨_, ti5⟩ ti3 rfl)))) ?_
                refine DrawG.pick (n := 4) (i := 12) (by decide +kernel) rfl (gS (v := (.ptr 1 3)) (sv (d_fa rfl (fap59_3 ..)))) ?_
                refine DrawG.fork (n := 3) [8, 13] (by decide +kernel) (by decide) ?_
                refine (Fork.cons rfl (gS (v := (.row none 1 (x18.map (eI .u8)))) (sv (d_move rfl))) ?_ (Fork.cons rfl (gN (h' := [some ⟨59, [(eI .i64 0), (.row (some true) 1 []), (eI .i64 0), (eI .i64 0)]⟩, some ⟨59, [(eI .i64 (IntKind.i64.wrap x8)), (.row (some true) 1 []), (eI .i64 (IntKind.i64.wrap x58)), (eI .i64 (IntKind.i64.wrap x62))]⟩]) (sv (d_store rfl rfl (stP ti3 rfl rfl rfl (Nat.le_of_ble_eq_true rfl) rfl)))) ?_ Fork.nil))
                · refine DrawG.fork (n := 2) [9, 13] (by decide +kernel) (by decide) ?_
                  refine (Fork.cons rfl (gS (v := (.row none 1 (x66.map (eI .u8)))) (sv (d_slice rfl rfl rfl (slR ti22 ti5 rfl rfl h_20)))) ?_ (Fork.cons rfl (gN (h' := [some ⟨59, [(eI .i64 0), (.row (some true) 1 []), (eI .i64 0), (eI .i64 0)]⟩, some ⟨59, [(eI .i64 (IntKind.i64.wrap x8)), (.row (some true) 1 []), (eI .i64 (IntKind.i64.wrap x58)), (eI .i64 (IntKind.i64.wrap x62))]⟩]) (sv (d_store rfl rfl (stP ti3 rfl rfl rfl (Nat.le_of_ble_eq_true rfl) rfl)))) ?_ Fork.nil))
                  · refine DrawG.pick (n := 1) (i := 13) (by decide +kernel) rfl (gN (h' := [some ⟨59, [(eI .i64 0), (.row (some true) 1 []), (eI .i64 0), (eI .i64 0)]⟩, some ⟨59, [(eI .i64 (IntKind.i64.wrap x8)), (.row (some true) 1 []), (eI .i64 (IntKind.i64.wrap x58)), (eI .i64 (IntKind.i64.wrap x62))]⟩]) (sv (d_store rfl rfl (stP ti3 rfl rfl rfl (Nat.le_of_ble_eq_true rfl) rfl)))) ?_
                    refine DrawG.pick (n := 0) (i := 14) (by decide +kernel) rfl (gS (v := (.row none 1 (x66.map (eI .u8)))) (sv (d_assign rfl))) ?_
                    refine DrawG.nil (by decide +kernel) ?_
                    refine Ex.then_mk ?_
                    exact hG3 _ _ _ _ (Ghost.rn [0, 1] rfl rfl (FLe.same rfl (FLe.same rfl (FLe.same rfl FLe.nil))) (HLe.live rfl (V.les_refl _ _) rfl (HLe.live rfl (V.les_refl _ _) rfl HLe.nil)) rfl) (J3 x66 (IntKind.i64.wrap x58) (IntKind.i64.wrap x62) hr)
                  · refine DrawG.pick (n := 1) (i := 9) (by decide +kernel) rfl (gS (v := (.row none 1 (x66.map (eI .u8)))) (sv (d_slice rfl rfl rfl (slR ti22 ti5 rfl rfl h_20)))) ?_
                    refine DrawG.pick (n := 0) (i := 14) (by decide +kernel) rfl (gS (v := (.row none 1 (x66.map (eI .u8)))) (sv (d_assign rfl))) ?_
                    refine DrawG.nil (by decide +kernel) ?_
                    refine Ex.then_mk ?_
                    exact hG3 _ _ _ _ (Ghost.rn [0, 1] rfl rfl (FLe.same rfl (FLe.same rfl (FLe.same rfl FLe.nil))) (HLe.live rfl (V.les_refl _ _) rfl (HLe.live rfl (V.les_refl _ _) rfl HLe.nil)) rfl) (J3 x66 (IntKind.i64.wrap x58) (IntKind.i64.wrap x62) hr)
                · refine DrawG.pick (n := 2) (i := 8) (by decide +kernel) rfl (gS (v := (.row none 1 (x18.map (eI .u8)))) (sv (d_move rfl))) ?_
                  refine DrawG.pick (n := 1) (i := 9) (by decide +kernel) rfl (gS (v := (.row none 1 (x66.map (eI .u8)))) (sv (d_slice rfl rfl rfl (slR ti22 ti5 rfl rfl h_20)))) ?_
                  refine DrawG.pick (n := 0) (i := 14) (by decide +kernel) rfl (gS (v := (.row none 1 (x66.map (eI .u8)))) (sv (d_assign rfl))) ?_
                  refine DrawG.nil (by decide +kernel) ?_
                  refine Ex.then_mk ?_
                  exact hG3 _ _ _ _ (Ghost.rn [0, 1] rfl rfl (FLe.same rfl (FLe.same rfl (FLe.same rfl FLe.nil))) (HLe.live rfl (V.les_refl _ _) rfl (HLe.live rfl (V.les_refl _ _) rfl HLe.nil)) rfl) (J3 x66 (IntKind.i64.wrap x58) (IntKind.i64.wrap x62) hr)
            · refine DrawG.fork (n := 7) [5, 9, 11] (by decide +kernel) (by decide) ?_
              refine (Fork.cons rfl (gS (sv (d_ia rfl rfl (iaR ti22 ti5 h_19)))) ?_ (Fork.cons rfl (gS (v := (.row none 1 (x66.map (eI .u8)))) (sv (d_slice rfl rfl rfl (slR ti22 ti5 rfl rfl h_20)))) ?_ (Fork.cons rfl (gN (h' := [some ⟨59, [(eI .i64 0), (.row (some true) 1 []), (eI .i64 0), (eI .i64 0)]⟩, some ⟨59, [(eI .i64 (IntKind.i64.wrap x8)), (.row (some true) 1 []), (eI .i64 (IntKind.i64.wrap x58)), (eI .i64 0)]⟩]) (sv (d_store rfl rfl (stP ti3 rfl rfl rfl (Nat.le_of_ble_eq_true rfl) rfl)))) ?_ Fork.nil)))
              · refine DrawG.fork (n := 6) [6, 9, 11] (by decide +kernel) (by decide) ?_
                refine (Fork.cons rfl (gS (v := (eI .u8 x62)) (sv (d_load rfl (ldR h_19 (part1 ti5 rfl rfl))))) ?_ (Fork.cons rfl (gS (v := (.row none 1 (x66.map (eI .u8)))) (sv (d_slice rfl rfl rfl (slR ti22 ti5 rfl rfl h_20)))) ?_ (Fork.cons rfl (gN (h' := [some ⟨59, [(eI .i64 0), (.row (some true) 1 []), (eI .i64 0), (eI .i64 0)]⟩, some ⟨59, [(eI .i64 (IntKind.i64.wrap x8)), (.row (some true) 1 []), (eI .i64 (IntKind.i64.wrap x58)), (eI .i64 0)]⟩]) (sv (d_store rfl rfl (stP ti3 rfl rfl rfl (Nat.le_of_ble_eq_true rfl) rfl)))) ?_ Fork.nil)))
                · refine DrawG.fork (n := 5) [7, 9, 11] (by decide +kernel) (by decide) ?_
                  refine (Fork.cons rfl (gS (v := (eI .i64 (IntKind.i64.wrap x62))) (sv (d_conv rfl (conv_int _ ⟨_, ti5⟩ ti3 rfl)))) ?_ (Fork.cons rfl (gS (v := (.row none 1 (x66.map (eI .u8)))) (sv (d_slice rfl rfl rfl (slR ti22 ti5 rfl rfl h_20)))) ?_ (Fork.cons rfl (gN (h' := [some ⟨59, [(eI .i64 0), (.row (some true) 1 []), (eI .i64 0), (eI .i64 0)]⟩, some ⟨59, [(eI .i64 (IntKind.i64.wrap x8)), (.row (some true) 1 []), (eI .i64 (IntKind.i64.wrap x58)), (eI .i64 0)]⟩]) (sv (d_store rfl rfl (stP ti3 rfl rfl rfl (Nat.le_of_ble_eq_true rfl) rfl)))) ?_ Fork.nil)))
                  · refine DrawG.fork (n := 4) [9, 11] (by decide +kernel) (by decide) ?_
                    refine (Fork.cons rfl (gS (v := (.row none 1 (x66.map (eI .u8)))) (sv (d_slice rfl rfl rfl (slR ti22 ti5 rfl rfl h_20)))) ?_ (Fork.cons rfl (gN (h' := [some ⟨59, [(eI .i64 0), (.row (some true) 1 []), (eI .i64 0), (eI .i64 0)]⟩, some ⟨59, [(eI .i64 (IntKind.i64.wrap x8)), (.row (some true) 1 []), (eI .i64 (IntKind.i64.wrap x58)), (eI .i64 0)]⟩]) (sv (d_store rfl rfl (stP ti3 rfl rfl rfl (Nat.le_of_ble_eq_true rfl) rfl)))) ?_ Fork.nil))
                    · refine DrawG.pick (n := 3) (i := 11) (by decide +kernel) rfl (gN (h' := [some ⟨59, [(eI .i64 0), (.row (some true) 1 []), (eI .i64 0), (eI .i64 0)]⟩, some ⟨59, [(eI .i64 (IntKind.i64.wrap x8)), (.row (some true) 1 []), (eI .i64 (IntKind.i64.wrap x58)), (eI .i64 0)]⟩]) (sv (d_store rfl rfl (stP ti3 rfl rfl rfl (Nat.le_of_ble_eq_true rfl) rfl)))) ?_
                      refine DrawG.pick (n := 2) (i := 12) (by decide +kernel) rfl (gS (v := (.ptr 1 3)) (sv (d_fa rfl (fap59_3 ..)))) ?_
                      refine DrawG.pick (n := 1) (i := 13) (by decide +kernel) rfl (gN (h' := [some ⟨59, [(eI .i64 0), (.row (some true) 1 []), (eI .i64 0), (eI .i64 0)]⟩, some ⟨59, [(eI .i64 (IntKind.i64.wrap x8)), (.row (some true) 1 []), (eI .i64 (IntKind.i64.wrap x58)), (eI .i64 (IntKind.i64.wrap x62))]⟩]) (sv (d_store rfl rfl (stP ti3 rfl rfl rfl (Nat.le_of_ble_eq_true rfl) rfl)))) ?_
                      refine DrawG.pick (n := 0) (i := 14) (by decide +kernel) rfl (gS (v := (.row none 1 (x66.map (eI .u8)))) (sv (d_assign rfl))) ?_
                      refine DrawG.nil (by decide +kernel) ?_
                      refine Ex.then_mk ?_
                      exact hG3 _ _ _ _ (Ghost.rn [0, 1] rfl rfl (FLe.same rfl (FLe.same rfl (FLe.same rfl FLe.nil))) (HLe.live rfl (V.les_refl _ _) rfl (HLe.live rfl (V.les_refl _ _) rfl HLe.nil)) rfl) (J3 x66 (IntKind.i64.wrap x58) (IntKind.i64.wrap x62) hr)
                    · refine DrawG.pick (n := 3) (i := 12) (by decide +kernel) rfl (gS (v := (.ptr 1 3)) (sv (d_fa rfl (fap59_3 ..)))) ?_
                      refine DrawG.fork (n := 2) [9, 13] (by decide +kernel) (by decide) ?_
                      refine (Fork.cons rfl (gS (v := (.row none 1 (x66.map (eI .u8)))) (sv (d_slice rfl rfl rfl (slR ti22 ti5 rfl rfl h_20)))) ?_ (Fork.cons rfl (gN (h' := [some ⟨59, [(eI .i64 0), (.row (some true) 1 []), (eI .i64 0), (eI .i64 0)]⟩, some ⟨59, [(eI .i64 (IntKind.i64.wrap x8)), (.row (some true) 1 []), (eI .i64 (IntKind.i64.wrap x58)), (eI .i64 (IntKind.i64.wrap x62))]⟩]) (sv (d_store rfl rfl (stP ti3 rfl rfl rfl (Nat.le_of_ble_eq_true rfl) rfl)))) ?_ Fork.nil))
                      · refine DrawG.pick (n := 1) (i := 13) (by decide +kernel) rfl (gN (h' := [some ⟨59, [(eI .i64 0), (.row (some true) 1 []), (eI .i64 0), (eI .i64 0)]⟩, some ⟨59, [(eI .i64 (IntKind.i64.wrap x8)), (.row (some true) 1 []), (eI .i64 (IntKind.i64.wrap x58)), (eI .i64 (IntKind.i64.wrap x62))]⟩]) (sv (d_store rfl rfl (stP ti3 rfl rfl rfl (Nat.le_of_ble_eq_true rfl) rfl)))) ?_
                        refine DrawG.pick (n := 0) (i := 14) (by decide +kernel) rfl (gS (v := (.row none 1 (x66.map (eI .u8)))) (sv (d_assign rfl))) ?_
                        refine DrawG.nil (by decide +kernel) ?_
                        refine Ex.then_mk ?_
                        exact hG3 _ _ _ _ (Ghost.rn [0, 1] rfl rfl (FLe.same rfl (FLe.same rfl (FLe.same rfl FLe.nil))) (HLe.live rfl (V.les_refl _ _) rfl (HLe.live rfl (V.les_refl _ _) rfl HLe.nil)) rfl) (J3 x66 (IntKind.i64.wrap x58) (IntKind.i64.wrap x62) hr)
                      · refine DrawG.pick (n := 1) (i := 9) (by decide +kernel) rfl (gS (v := (.row none 1 (x66.map (eI .u8)))) (sv (d_slice rfl rfl rfl (slR ti22 ti5 rfl rfl h_20)))) ?_
                        refine DrawG.pick (n := 0) (i := 14) (by decide +kernel) rfl (gS (v := (.row none 1 (x66.map (eI .u8)))) (sv (d_assign rfl))) ?_
                        refine DrawG.nil (by decide +kernel) ?_
                        refine Ex.then_mk ?_
                        exact hG3 _ _ _ _ (Ghost.rn [0, 1] rfl rfl (FLe.same rfl (FLe.same rfl (FLe.same rfl FLe.nil))) (HLe.live rfl (V.les_refl _ _) rfl (HLe.live rfl (V.les_refl _ _) rfl HLe.nil)) rfl) (J3 x66 (IntKind.i64.wrap x58) (IntKind.i64.wrap x62) hr)
                  · refine DrawG.fork (n := 4) [7, 11] (by decide +kernel) (by decide) ?_
                    refine (Fork.cons rfl (gS (v := (eI .i64 (IntKind.i64.wrap x62))) (sv (d_conv rfl (conv_int _ ⟨_, ti5⟩ ti3 rfl)))) ?_ (Fork.cons rfl (gN (h' := [some ⟨59, [(eI .i64 0), (.row (some true) 1 []), (eI .i64 0), (eI .i64 0)]⟩, some ⟨59, [(eI .i64 (IntKind.i64.wrap x8)), (.row (some true) 1 []), (eI .i64 (IntKind.i64.wrap x58)), (eI .i64 0)]⟩]) (sv (d_store rfl rfl (stP ti3 rfl rfl rfl (Nat.le_of_ble_eq_true rfl) rfl)))) ?_ Fork.nil))
                    · refine DrawG.pick (n := 3) (i := 11) (by decide +kernel) rfl (gN (h' := [some ⟨59, [(eI .i64 0), (.row (some true) 1 []), (eI .i64 0), (eI .i64 0)]⟩, some ⟨59, [(eI .i64 (IntKind.i64.wrap x8)), (.row (some true) 1 []), (eI .i64 (IntKind.i64.wrap x58)), (eI .i64 0)]⟩]) (sv (d_store rfl rfl (stP ti3 rfl rfl rfl (Nat.le_of_ble_eq_true rfl) rfl)))) ?_
                      refine DrawG.pick (n := 2) (i := 12) (by decide +kernel) rfl (gS (v := (.ptr 1 3)) (sv (d_fa rfl (fap59_3 ..)))) ?_
                      refine DrawG.pick (n := 1) (i := 13) (by decide +kernel) rfl (gN (h' := [some ⟨59, [(eI .i64 0), (.row (some true) 1 []), (eI .i64 0), (eI .i64 0)]⟩, some ⟨59, [(eI .i64 (IntKind.i64.wrap x8)), (.row (some true) 1 []), (eI .i64 (IntKind.i64.wrap x58)), (eI .i64 (IntKind.i64.wrap x62))]⟩]) (sv (d_store rfl rfl (stP ti3 rfl rfl rfl (Nat.le_of_ble_eq_true rfl) rfl)))) ?_
                      refine DrawG.pick (n := 0) (i := 14) (by decide +kernel) rfl (gS (v := (.row none 1 (x66.map (eI .u8)))) (sv (d_assign rfl))) ?_
                      refine DrawG.nil (by decide +kernel) ?_
                      refine Ex.then_mk ?_
                      exact hG3 _ _ _ _ (Ghost.rn [0, 1] rfl rfl (FLe.same rfl (FLe.same rfl (FLe.same rfl FLe.nil))) (HLe.live rfl (V.les_refl _ _) rfl (HLe.live rfl (V.les_refl _ _) rfl HLe.nil)) rfl) (J3 x66 (IntKind.i64.wrap x58) (IntKind.i64.wrap x62) hr)
                    · refine DrawG.pick (n := 3) (i := 7) (by decide +kernel) rfl (gS (v := (eI .i64 (IntKind.i64.wrap x62))) (sv (d_conv rfl (conv_int _ ⟨_, ti5⟩ ti3 rfl)))) ?_
                      refine DrawG.pick (n := 2) (i := 12) (by decide +kernel) rfl (gS (v := (.ptr 1 3)) (sv (d_fa rfl (fap59_3 ..)))) ?_
                      refine DrawG.pick (n := 1) (i := 13) (by decide +kernel) rfl (gN (h' := [some ⟨59, [(eI .i64 0), (.row (some true) 1 []), (eI .i64 0), (eI .i64 0)]⟩, some ⟨59, [(eI .i64 (IntKind.i64.wrap x8)), (.row (some true) 1 []), (eI .i64 (IntKind.i64.wrap x58)), (eI .i64 (IntKind.i64.wrap x62))]⟩]) (sv (d_store rfl rfl (stP ti3 rfl rfl rfl (Nat.le_of_ble_eq_true rfl) rfl)))) ?_
                      refine DrawG.pick (n := 0) (i := 14) (by decide +kernel) rfl (gS (v := (.row none 1 (x66.map (eI .u8)))) (sv (d_assign rfl))) ?_
                      refine DrawG.nil (by decide +kernel) ?_
                      refine Ex.then_mk ?_
                      exact hG3 _ _ _ _ (Ghost.rn [0, 1] rfl rfl (FLe.same rfl (FLe.same rfl (FLe.same rfl FLe.nil))) (HLe.live rfl (V.les_refl _ _) rfl (HLe.live rfl (V.les_refl _ _) rfl HLe.nil)) rfl) (J3 x66 (IntKind.i64.wrap x58) (IntKind.i64.wrap x62) hr)
                  · refine DrawG.pick (n := 4) (i := 7) (by decide +kernel) rfl (gS (v := (eI .i64 (IntKind.i64.wrap x62))) (sv (d_conv rfl (conv_int _ ⟨_, ti5⟩ ti3 rfl)))) ?_
                    refine DrawG.pick (n := 3) (i := 12) (by decide +kernel) rfl (gS (v := (.ptr 1 3)) (sv (d_fa rfl (fap59_3 ..)))) ?_
                    refine DrawG.fork (n := 2) [9, 13] (by decide +kernel) (by decide) ?_
                    refine (Fork.cons rfl (gS (v := (.row none 1 (x66.map (eI .u8)))) (sv (d_slice rfl rfl rfl (slR ti22 ti5 rfl rfl h_20)))) ?_ (Fork.cons rfl (gN (h' := [some ⟨59, [(eI .i64 0), (.row (some true) 1 []), (eI .i64 0), (eI .i64 0)]⟩, some ⟨59, [(eI .i64 (IntKind.i64.wrap x8)), (.row (some true) 1 []), (eI .i64 (IntKind.i64.wrap x58)), (eI .i64 (IntKind.i64.wrap x62))]⟩]) (sv (d_store rfl rfl (stP ti3 rfl rfl rfl (Nat.le_of_ble_eq_true rfl) rfl)))) ?_ Fork.nil))
                    · refine DrawG.pick (n := 1) (i := 13) (by decide +kernel) rfl (gN (h' := [some ⟨59, [(eI .i64 0), (.row (some true) 1 []), (eI .i64 0), (eI .i64 0)]⟩, some ⟨59, [(eI .i64 (IntKind.i64.wrap x8)), (.row (some true) 1 []), (eI .i64 (IntKind.i64.wrap x58)), (eI .i64 (IntKind.i64.wrap x62))]⟩]) (sv (d_store rfl rfl (stP ti3 rfl rfl rfl (Nat.le_of_ble_eq_true rfl) rfl)))) ?_
                      refine DrawG.pick (n := 0) (i := 14) (by decide +kernel) rfl (gS (v := (.row none 1 (x66.map (eI .u8)))) (sv (d_assign rfl))) ?_
                      refine DrawG.nil (by decide +kernel) ?_
                      refine Ex.then_mk ?_
                      exact hG3 _ _ _ _ (Ghost.rn [0, 1] rfl rfl (FLe.same rfl (FLe.same rfl (FLe.same rfl FLe.nil))) (HLe.live rfl (V.les_refl _ _) rfl (HLe.live rfl (V.les_refl _ _) rfl HLe.nil)) rfl) (J3 x66 (IntKind.i64.wrap x58) (IntKind.i64.wrap x62) hr)
                    · refine DrawG.pick (n := 1) (i := 9) (by decide +kernel) rfl (gS (v := (.row none 1 (x66.map (eI .u8)))) (sv (d_slice rfl rfl rfl (slR ti22 ti5 rfl rfl h_20)))) ?_
                      refine DrawG.pick (n := 0) (i := 14) (by decide +kernel) rfl (gS (v := (.row none 1 (x66.map (eI .u8)))) (sv (d_assign rfl))) ?_
                      refine DrawG.nil (by decide +kernel) ?_
                      refine Ex.then_mk ?_
                      exact hG3 _ _ _ _ (Ghost.rn [0, 1] rfl rfl (FLe.same rfl (FLe.same rfl (FLe.same rfl FLe.nil))) (HLe.live rfl (V.les_refl _ _) rfl (HLe.live rfl (V.les_refl _ _) rfl HLe.nil)) rfl) (J3 x66 (IntKind.i64.wrap x58) (IntKind.i64.wrap x62) hr)
                · refine DrawG.fork (n := 5) [6, 11] (by decide +kernel) (by decide) ?_
                  refine (Fork.cons rfl (gS (v := (eI .u8 x62)) (sv (d_load rfl (ldR h_19 (part1 ti5 rfl rfl))))) ?_ (Fork.cons rfl (gN (h' := [some ⟨59, [(eI .i64 0), (.row (some true) 1 []), (eI .i64 0), (eI .i64 0)]⟩, some ⟨59, [(eI .i64 (IntKind.i64.wrap x8)), (.row (some true) 1 []), (eI .i64 (IntKind.i64.wrap x58)), (eI .i64 0)]⟩]) (sv (d_store rfl rfl (stP ti3 rfl rfl rfl (Nat.le_of_ble_eq_true rfl) rfl)))) ?_ Fork.nil))
                  · refine DrawG.fork (n := 4) [7, 11] (by decide +kernel) (by decide) ?_
                    refine (Fork.cons rfl (gS (v := (eI .i64 (IntKind.i64.wrap x62))) (sv (d_conv rfl (conv_int _ ⟨_, ti5⟩ ti3 rfl)))) ?_ (Fork.cons rfl (gN (h' := [some ⟨59, [(eI .i64 0), (.row (some true) 1 []), (eI .i64 0), (eI .i64 0)]⟩, some ⟨59, [(eI .i64 (IntKind.i64.wrap x8)), (.row (some true) 1 []), (eI .i64 (IntKind.i64.wrap x58)), (eI .i64 0)]⟩]) (sv (d_store rfl rfl (stP ti3 rfl rfl rfl (Nat.le_of_ble_eq_true rfl) rfl)))) ?_ Fork.nil))
                    · refine DrawG.pick (n := 3) (i := 11) (by decide +kernel) rfl (gN (h' := [some ⟨59, [(eI .i64 0), (.row (some true) 1 []), (eI .i64 0), (eI .i64 0)]⟩, some ⟨59, [(eI .i64 (IntKind.i64.wrap x8)), (.row (some true) 1 []), (eI .i64 (IntKind.i64.wrap x58)), (eI .i64 0)]⟩]) (sv (d_store rfl rfl (stP ti3 rfl rfl rfl (Nat.le_of_ble_eq_true rfl) rfl)))) ?_
                      refine DrawG.pick (n := 2) (i := 12) (by decide +kernel) rfl (gS (v := (.ptr 1 3)) (sv (d_fa rfl (fap59_3 ..)))) ?_
                      refine DrawG.pick (n := 1) (i := 13) (by decide +kernel) rfl (gN (h' := [some ⟨59, [(eI .i64 0), (.row (some true) 1 []), (eI .i64 0), (eI .i64 0)]⟩, some ⟨59, [(eI .i64 (IntKind.i64.wrap x8)), (.row (some true) 1 []), (eI .i64 (IntKind.i64.wrap x58)), (eI .i64 (IntKind.i64.wrap x62))]⟩]) (sv (d_store rfl rfl (stP ti3 rfl rfl rfl (Nat.le_of_ble_eq_true rfl) rfl)))) ?_
                      refine DrawG.pick (n := 0) (i := 14) (by decide +kernel) rfl (gS (v := (.row none 1 (x66.map (eI .u8)))) (sv (d_assign rfl))) ?_
                      refine DrawG.nil (by decide +kernel) ?_
                      refine Ex.then_mk ?_
                      exact hG3 _ _ _ _ (Ghost.rn [0, 1] rfl rfl (FLe.same rfl (FLe.same rfl (FLe.same rfl FLe.nil))) (HLe.live rfl (V.les_refl _ _) rfl (HLe.live rfl (V.les_refl _ _) rfl HLe.nil)) rfl) (J3 x66 (IntKind.i64.wrap x58) (IntKind.i64.wrap x62) hr)
                    · refine DrawG.pick (n := 3) (i := 7) (by decide +kernel) rfl (gS (v := (eI .i64 (IntKind.i64.wrap x62))) (sv (d_conv rfl (conv_int _ ⟨_, ti5⟩ ti3 rfl)))) ?_
                      refine DrawG.pick (n := 2) (i := 12) (by decide +kernel) rfl (gS (v := (.ptr 1 3)) (sv (d_fa rfl (fap59_3 ..)))) ?_
                      refine DrawG.pick (n := 1) (i := 13) (by decide +kernel) rfl (gN (h' := [some ⟨59, [(eI .i64 0), (.row (some true) 1 []), (eI .i64 0), (eI .i64 0)]⟩, some ⟨59, [(eI .i64 (IntKind.i64.wrap x8)), (.row (some true) 1 []), (eI .i64 (IntKind.i64.wrap x58)), (eI .i64 (IntKind.i64.wrap x62))]⟩]) (sv (d_store rfl rfl (stP ti3 rfl rfl rfl (Nat.le_of_ble_eq_true rfl) rfl)))) ?_
                      refine DrawG.pick (n := 0) (i := 14) (by decide +kernel) rfl (gS (v := (.row none 1 (x66.map (eI .u8)))) (sv (d_assign rfl))) ?_
                      refine DrawG.nil (by decide +kernel) ?_
                      refine Ex.then_mk ?_
                      exact hG3 _ _ _ _ (Ghost.rn [0, 1] rfl rfl (FLe.same rfl (FLe.same rfl (FLe.same rfl FLe.nil))) (HLe.live rfl (V.les_refl _ _) rfl (HLe.live rfl (V.les_refl _ _) rfl HLe.nil)) rfl) (J3 x66 (IntKind.i64.wrap x58) (IntKind.i64.wrap x62) hr)
                  · refine DrawG.pick (n := 4) (i := 6) (by decide +kernel) rfl (gS (v := (eI .u8 x62)) (sv (d_load rfl (ldR h_19 (part1 ti5 rfl rfl))))) ?_
                    refine DrawG.pick (n := 3) (i := 7) (by decide +kernel) rfl (gS (v := (eI .i64 (IntKind.i64.wrap x62))) (sv (d_conv rfl (conv_int _ ⟨_, ti5⟩ ti3 rfl)))) ?_
                    refine DrawG.pick (n := 2) (i := 12) (by decide +kernel) rfl (gS (v := (.ptr 1 3)) (sv (d_fa rfl (fap59_3 ..)))) ?_
                    refine DrawG.pick (n := 1) (i := 13) (by decide +kernel) rfl (gN (h' := [some ⟨59, [(eI .i64 0), (.row (some true) 1 []), (eI .i64 0), (eI .i64 0)]⟩, some ⟨59, [(eI .i64 (IntKind.i64.wrap x8)), (.row (some true) 1 []), (eI .i64 (IntKind.i64.wrap x58)), (eI .i64 (IntKind.i64.wrap x62))]⟩]) (sv (d_store rfl rfl (stP ti3 rfl rfl rfl (Nat.le_of_ble_eq_true rfl) rfl)))) ?_
                    refine DrawG.pick (n := 0) (i := 14) (by decide +kernel) rfl (gS (v := (.row none 1 (x66.map (eI .u8)))) (sv (d_assign rfl))) ?_
                    refine DrawG.nil (by decide +kernel) ?_
                    refine Ex.then_mk ?_
                    exact hG3 _ _ _ _ (Ghost.rn [0, 1] rfl rfl (FLe.same rfl (FLe.same rfl (FLe.same rfl FLe.nil))) (HLe.live rfl (V.les_refl _ _) rfl (HLe.live rfl (V.les_refl _ _) rfl HLe.nil)) rfl) (J3 x66 (IntKind.i64.wrap x58) (IntKind.i64.wrap x62) hr)
                · refine DrawG.pick (n := 5) (i := 6) (by decide +kernel) rfl (gS (v := (eI .u8 x62)) (sv (d_load rfl (ldR h_19 (part1 ti5 rfl rfl))))) ?_
                  refine DrawG.pick (n := 4) (i := 7) (by decide +kernel) rfl (gS (v := (eI .i64 (IntKind.i64.wrap x62))) (sv (d_conv rfl (conv_int _ ⟨_, ti5⟩ ti3 rfl)))) ?_
                  refine DrawG.pick (n := 3) (i := 12) (by decide +kernel) rfl (gS (v := (.ptr 1 3)) (sv (d_fa rfl (fap59_3 ..)))) ?_
                  refine DrawG.fork (n := 2) [9, 13] (by decide +kernel) (by decide) ?_
                  refine (Fork.cons rfl (gS (v := (.row none 1 (x66.map (eI .u8)))) (sv (d_slice rfl rfl rfl (slR ti22 ti5 rfl rfl h_20)))) ?_ (Fork.cons rfl (gN (h' := [some ⟨59, [(eI .i64 0), (.row (some true) 1 []), (eI .i64 0), (eI .i64 0)]⟩, some ⟨59, [(eI .i64 (IntKind.i64.wrap x8)), (.row (some true) 1 []), (eI .i64 (IntKind.i64.wrap x58)), (eI .i64 (IntKind.i64.wrap x62))]⟩]) (sv (d_store rfl rfl (stP ti3 rfl rfl rfl (Nat.le_of_ble_eq_true rfl) rfl)))) ?_ Fork.nil))
                  · refine DrawG.pick (n := 1) (i := 13) (by decide +kernel) rfl (gN (h' := [some ⟨59, [(eI .i64 0), (.row (some true) 1 []), (eI .i64 0), (eI .i64 0)]⟩, some ⟨59, [(eI .i64 (IntKind.i64.wrap x8)), (.row (some true) 1 []), (eI .i64 (IntKind.i64.wrap x58)), (eI .i64 (IntKind.i64.wrap x62))]⟩]) (sv (d_store rfl rfl (stP ti3 rfl rfl rfl (Nat.le_of_ble_eq_true rfl) rfl)))) ?_
                    refine DrawG.pick (n := 0) (i := 14) (by decide +kernel) rfl (gS (v := (.row none 1 (x66.map (eI .u8)))) (sv (d_assign rfl))) ?_
                    refine DrawG.nil (by decide +kernel) ?_
                    refine Ex.then_mk ?_
                    exact hG3 _ _ _ _ (Ghost.rn [0, 1] rfl rfl (FLe.same rfl (FLe.same rfl (FLe.same rfl FLe.nil))) (HLe.live rfl (V.les_refl _ _) rfl (HLe.live rfl (V.les_refl _ _) rfl HLe.nil)) rfl) (J3 x66 (IntKind.i64.wrap x58) (IntKind.i64.wrap x62) hr)
                  · refine DrawG.pick (n := 1) (i := 9) (by decide +kernel) rfl (gS (v := (.row none 1 (x66.map (eI .u8)))) (sv (d_slice rfl rfl rfl (slR ti22 ti5 rfl rfl h_20)))) ?_
                    refine DrawG.pick (n := 0) (i := 14) (by decide +kernel) rfl (gS (v := (.row none 1 (x66.map (eI .u8)))) (sv (d_assign rfl))) ?_
                    refine DrawG.nil (by decide +kernel) ?_
                    refine Ex.then_mk ?_
                    exact hG3 _ _ _ _ (Ghost.rn [0, 1] rfl rfl (FLe.same rfl (FLe.same rfl (FLe.same rfl FLe.nil))) (HLe.live rfl (V.les_refl _ _) rfl (HLe.live rfl (V.les_refl _ _) rfl HLe.nil)) rfl) (J3 x66 (IntKind.i64.wrap x58) (IntKind.i64.wrap x62) hr)
              · refine DrawG.fork (n := 6) [5, 11] (by decide +kernel) (by decide) ?_
                refine (Fork.cons rfl (gS (sv (d_ia rfl rfl (iaR ti22 ti5 h_19)))) ?_ (Fork.cons rfl (gN (h' := [some ⟨59, [(eI .i64 0), (.row (some true) 1 []), (eI .i64 0), (eI .i64 0)]⟩, some ⟨59, [(eI .i64 (IntKind.i64.wrap x8)), (.row (some true) 1 []), (eI .i64 (IntKind.i64.wrap x58)), (eI .i64 0)]⟩]) (sv (d_store rfl rfl (stP ti3 rfl rfl rfl (Nat.le_of_ble_eq_true rfl) rfl)))) ?_ Fork.nil))
                · refine DrawG.fork (n := 5) [6, 11] (by decide +kernel) (by decide) ?_
                  refine (Fork.cons rfl (gS (v := (eI .u8 x62)) (sv (d_load rfl (ldR h_19 (part1 ti5 rfl rfl))))) ?_ (Fork.cons rfl (gN (h' := [some ⟨59, [(eI .i64 0), (.row (some true) 1 []), (eI .i64 0), (eI .i64 0)]⟩, some ⟨59, [(eI .i64 (IntKind.i64.wrap x8)), (.row (some true) 1 []), (eI .i64 (IntKind.i64.wrap x58)), (eI .i64 0)]⟩]) (sv (d_store rfl rfl (stP ti3 rfl rfl rfl (Nat.le_of_ble_eq_true rfl) rfl)))) ?_ Fork.nil))
                  · refine DrawG.fork (n := 4) [7, 11] (by decide +kernel) (by decide) ?_
                    refine (Fork.cons rfl (gS (v := (eI .i64 (IntKind.i64.wrap x62))) (sv (d_conv rfl (conv_int _ ⟨_, ti5⟩ ti3 rfl)))) ?_ (Fork.cons rfl (gN (h' := [some ⟨59, [(eI .i64 0), (.row (some true) 1 []), (eI .i64 0), (eI .i64 0)]⟩, some ⟨59, [(eI .i64 (IntKind.i64.wrap x8)), (.row (some true) 1 []), (eI .i64 (IntKind.i64.wrap x58)), (eI .i64 0)]⟩]) (sv (d_store rfl rfl (stP ti3 rfl rfl rfl (Nat.le_of_ble_eq_true rfl) rfl)))) ?_ Fork.nil))
                    · refine DrawG.pick (n := 3) (i := 11) (by decide +kernel) rfl (gN (h' := [some ⟨59, [(eI .i64 0), (.row (some true) 1 []), (eI .i64 0), (eI .i64 0)]⟩, some ⟨59, [(eI .i64 (IntKind.i64.wrap x8)), (.row (some true) 1 []), (eI .i64 (IntKind.i64.wrap x58)), (eI .i64 0)]⟩]) (sv (d_store rfl rfl (stP ti3 rfl rfl rfl (Nat.le_of_ble_eq_true rfl) rfl)))) ?_
                      refine DrawG.pick (n := 2) (i := 12) (by decide +kernel) rfl (gS (v := (.ptr 1 3)) (sv (d_fa rfl (fap59_3 ..)))) ?_
                      refine DrawG.pick (n := 1) (i := 13) (by decide +kernel) rfl (gN (h' := [some ⟨59, [(eI .i64 0), (.row (some true) 1 []), (eI .i64 0), (eI .i64 0)]⟩, some ⟨59, [(eI .i64 (IntKind.i64.wrap x8)), (.row (some true) 1 []), (eI .i64 (IntKind.i64.wrap x58)), (eI .i64 (IntKind.i64.wrap x62))]⟩]) (sv (d_store rfl rfl (stP ti3 rfl rfl rfl (Nat.le_of_ble_eq_true rfl) rfl)))) ?_
                      refine DrawG.pick (n := 0) (i := 14) (by decide +kernel) rfl (gS (v := (.row none 1 (x66.map (eI .u8)))) (sv (d_assign rfl))) ?_
                      refine DrawG.nil (by decide +kernel) ?_
                      refine Ex.then_mk ?_
                      exact hG3 _ _ _ _ (Ghost.rn [0, 1] rfl rfl (FLe.same rfl (FLe.same rfl (FLe.same rfl FLe.nil))) (HLe.live rfl (V.les_refl _ _) rfl (HLe.live rfl (V.les_refl _ _) rfl HLe.nil)) rfl) (J3 x66 (IntKind.i64.wrap x58) (IntKind.i64.wrap x62) hr)
                    · refine DrawG.pick (n := 3) (i := 7) (by decide +kernel) rfl (gS (v := (eI .i64 (IntKind.i64.wrap x62))) (sv (d_conv rfl (conv_int _ ⟨_, ti5⟩ ti3 rfl)))) ?_
                      refine DrawG.pick (n := 2) (i := 12) (by decide +kernel) rfl (gS (v := (.ptr 1 3)) (sv (d_fa rfl (fap59_3 ..)))) ?_
                      refine DrawG.pick (n := 1) (i := 13) (by decide +kernel) rfl (gN (h' := [some ⟨59, [(eI .i64 0), (.row (some true) 1 []), (eI .i64 0), (eI .i64 0)]⟩, some ⟨59, [(eI .i64 (IntKind.i64.wrap x8)), (.row (some true) 1 []), (eI .i64 (IntKind.i64.wrap x58)), (eI .i64 (IntKind.i64.wrap x62))]⟩]) (sv (d_store rfl rfl (stP ti3 rfl rfl rfl (Nat.le_of_ble_eq_true rfl) rfl)))) ?_
                      refine DrawG.pick (n := 0) (i := 14) (by decide +kernel) rfl (gS (v := (.row none 1 (x66.map (eI .u8)))) (sv (d_assign rfl))) ?_
                      refine DrawG.nil (by decide +kernel) ?_
                      refine Ex.then_mk ?_
                      exact hG3 _ _ _ _ (Ghost.rn [0, 1] rfl rfl (FLe.same rfl (FLe.same rfl (FLe.same rfl FLe.nil))) (HLe.live rfl (V.les_refl _ _) rfl (HLe.live rfl (V.les_refl _ _) rfl HLe.nil)) rfl) (J3 x66 (IntKind.i64.wrap x58) (IntKind.i64.wrap x62) hr)
                  · refine DrawG.pick (n := 4) (i := 6) (by decide +kernel) rfl (gS (v := (eI .u8 x62)) (sv (d_load rfl (ldR h_19 (part1 ti5 rfl rfl))))) ?_
                    refine DrawG.pick (n := 3) (i := 7) (by decide +kernel) rfl (gS (v := (eI .i64 (IntKind.i64.wrap x62))) (sv (d_conv rfl (conv_int _ ⟨_, ti5⟩ ti3 rfl)))) ?_
                    refine DrawG.pick (n := 2) (i := 12) (by decide +kernel) rfl (gS (v := (.ptr 1 3)) (sv (d_fa rfl (fap59_3 ..)))) ?_
                    refine DrawG.pick (n := 1) (i := 13) (by decide +kernel) rfl (gN (h' := [some ⟨59, [(eI .i64 0), (.row (some true) 1 []), (eI .i64 0), (eI .i64 0)]⟩, some ⟨59, [(eI .i64 (IntKind.i64.wrap x8)), (.row (some true) 1 []), (eI .i64 (IntKind.i64.wrap x58)), (eI .i64 (IntKind.i64.wrap x62))]⟩]) (sv (d_store rfl rfl (stP ti3 rfl rfl rfl (Nat.le_of_ble_eq_true rfl) rfl)))) ?_
                    refine DrawG.pick (n := 0) (i := 14) (by decide +kernel) rfl (gS (v := (.row none 1 (x66.map (eI .u8)))) (sv (d_assign rfl))) ?_
                    refine DrawG.nil (by decide +kernel) ?_
                    refine Ex.then_mk ?_
                    exact hG3 _ _ _ _ (Ghost.rn [0, 1] rfl rfl (FLe.same rfl (FLe.same rfl (FLe.same rfl FLe.nil))) (HLe.live rfl (V.les_refl _ _) rfl (HLe.live rfl (V.les_refl _ _) rfl HLe.nil)) rfl) (J3 x66 (IntKind.i64.wrap x58) (IntKind.i64.wrap x62) hr)
                · refine DrawG.pick (n := 5) (i := 5) (by decide +kernel) rfl (gS (sv (d_ia rfl rfl (iaR ti22 ti5 h_19)))) ?_
                  refine DrawG.pick (n := 4) (i := 6) (by decide +kernel) rfl (gS (v := (eI .u8 x62)) (sv (d_load rfl (ldR h_19 (part1 ti5 rfl rfl))))) ?_
                  refine DrawG.pick (n := 3) (i := 7) (by decide +kernel) rfl (gS (v := (eI .i64 (IntKind.i64.wrap x62))) (sv (d_conv rfl (conv_int _ ⟨_, ti5⟩ ti3 rfl)))) ?_
                  refine DrawG.pick (n := 2) (i := 12) (by decide +kernel) rfl (gS (v := (.ptr 1 3)) (sv (d_fa rfl (fap59_3 ..)))) ?_
                  refine DrawG.pick (n := 1) (i := 13) (by decide +kernel) rfl (gN (h' := [some ⟨59, [(eI .i64 0), (.row (some true) 1 []), (eI .i64 0), (eI .i64 0)]⟩, some ⟨59, [(eI .i64 (IntKind.i64.wrap x8)), (.row (some true) 1 []), (eI .i64 (IntKind.i64.wrap x58)), (eI .i64 (IntKind.i64.wrap x62))]⟩]) (sv (d_store rfl rfl (stP ti3 rfl rfl rfl (Nat.le_of_ble_eq_true rfl) rfl)))) ?_
                  refine DrawG.pick (n := 0) (i := 14) (by decide +kernel) rfl (gS (v := (.row none 1 (x66.map (eI .u8)))) (sv (d_assign rfl))) ?_
                  refine DrawG.nil (by decide +kernel) ?_
                  refine Ex.then_mk ?_
                  exact hG3 _ _ _ _ (Ghost.rn [0, 1] rfl rfl (FLe.same rfl (FLe.same rfl (FLe.same rfl FLe.nil))) (HLe.live rfl (V.les_refl _ _) rfl (HLe.live rfl (V.les_refl _ _) rfl HLe.nil)) rfl) (J3 x66 (IntKind.i64.wrap x58) (IntKind.i64.wrap x62) hr)
              · refine DrawG.pick (n := 6) (i := 5) (by decide +kernel) rfl (gS (sv (d_ia rfl rfl (iaR ti22 ti5 h_19)))) ?_
                refine DrawG.pick (n := 5) (i := 6) (by decide +kernel) rfl (gS (v := (eI .u8 x62)) (sv (d_load rfl (ldR h_19 (part1 ti5 rfl rfl))))) ?_
                refine DrawG.pick (n := 4) (i := 7) (by decide +kernel) rfl (gS (v := (eI .i64 (IntKind.i64.wrap x62))) (sv (d_conv rfl (conv_int _ ⟨_, ti5⟩ ti3 rfl)))) ?_
                refine DrawG.pick (n := 3) (i := 12) (by decide +kernel) rfl (gS (v := (.ptr 1 3)) (sv (d_fa rfl (fap59_3 ..)))) ?_
                refine DrawG.fork (n := 2) [9, 13] (by decide +kernel) (by decide) ?_
                refine (Fork.cons rfl (gS (v := (.row none 1 (x66.map (eI .u8)))) (sv (d_slice rfl rfl rfl (slR ti22 ti5 rfl rfl h_20)))) ?_ (Fork.cons rfl (gN (h' := [some ⟨59, [(eI .i64 0), (.row (some true) 1 []), (eI .i64 0), (eI .i64 0)]⟩, some ⟨59, [(eI .i64 (IntKind.i64.wrap x8)), (.row (some true) 1 []), (eI .i64 (IntKind.i64.wrap x58)), (eI .i64 (IntKind.i64.wrap x62))]⟩]) (sv (d_store rfl rfl (stP ti3 rfl rfl rfl (Nat.le_of_ble_eq_true rfl) rfl)))) ?_ Fork.nil))
                · refine DrawG.pick (n := 1) (i := 13) (by decide +kernel) rfl (gN (h' := [some ⟨59, [(eI .i64 0), (.row (some true) 1 []), (eI .i64 0), (eI .i64 0)]⟩, some ⟨59, [(eI .i64 (IntKind.i64.wrap x8)), (.row (some true) 1 []), (eI .i64 (IntKind.i64.wrap x58)), (eI .i64 (IntKind.i64.wrap x62))]⟩]) (sv (d_store rfl rfl (stP ti3 rfl rfl rfl (Nat.le_of_ble_eq_true rfl) rfl)))) ?_
                  refine DrawG.pick (n := 0) (i := 14) (by decide +kernel) rfl (gS (v := (.row none 1 (x66.map (eI .u8)))) (sv (d_assign rfl))) ?_
                  refine DrawG.nil (by decide +kernel) ?_
                  refine Ex.then_mk ?_
                  exact hG3 _ _ _ _ (Ghost.rn [0, 1] rfl rfl (FLe.same rfl (FLe.same rfl (FLe.same rfl FLe.nil))) (HLe.live rfl (V.les_refl _ _) rfl (HLe.live rfl (V.les_refl _ _) rfl HLe.nil)) rfl) (J3 x66 (IntKind.i64.wrap x58) (IntKind.i64.wrap x62) hr)
                · refine DrawG.pick (n := 1) (i := 9) (by decide +kernel) rfl (gS (v := (.row none 1 (x66.map (eI .u8)))) (sv (d_slice rfl rfl rfl (slR ti22 ti5 rfl rfl h_20)))) ?_
                  refine DrawG.pick (n := 0) (i := 14) (by decide +kernel) rfl (gS (v := (.row none 1 (x66.map (eI .u8)))) (sv (d_assign rfl))) ?_
                  refine DrawG.nil (by decide +kernel) ?_
                  refine Ex.then_mk ?_
                  exact hG3 _ _ _ _ (Ghost.rn [0, 1] rfl rfl (FLe.same rfl (FLe.same rfl (FLe.same rfl FLe.nil))) (HLe.live rfl (V.les_refl _ _) rfl (HLe.live rfl (V.les_refl _ _) rfl HLe.nil)) rfl) (J3 x66 (IntKind.i64.wrap x58) (IntKind.i64.wrap x62) hr)
            · refine DrawG.pick (n := 7) (i := 5) (by decide +kernel) rfl (gS (sv (d_ia rfl rfl (iaR ti22 ti5 h_19)))) ?_
              refine DrawG.pick (n := 6) (i := 6) (by decide +kernel) rfl (gS (v := (eI .u8 x62)) (sv (d_load rfl (ldR h_19 (part1 ti5 rfl rfl))))) ?_
              refine DrawG.pick (n := 5) (i := 7) (by decide +kernel) rfl (gS (v := (eI .i64 (IntKind.i64.wrap x62))) (sv (d_conv rfl (conv_int _ ⟨_, ti5⟩ ti3 rfl)))) ?_
              refine DrawG.pick (n := 4) (i := 12) (by decide +kernel) rfl (gS (v := (.ptr 1 3)) (sv (d_fa rfl (fap59_3 ..)))) ?_
              refine DrawG.fork (n := 3) [8, 13] (by decide +kernel) (by decide) ?_
              refine (Fork.cons rfl (gS (v := (.row none 1 (x18.map (eI .u8)))) (sv (d_move rfl))) ?_ (Fork.cons rfl (gN (h' := [some ⟨59, [(eI .i64 0), (.row (some true) 1 []), (eI .i64 0), (eI .i64 0)]⟩, some ⟨59, [(eI .i64 (IntKind.i64.wrap x8)), (.row (some true) 1 []), (eI .i64 (IntKind.i64.wrap x58)), (eI .i64 (IntKind.i64.wrap x62))]⟩]) (sv (d_store rfl rfl (stP ti3 rfl rfl rfl (Nat.le_of_ble_eq_true rfl) rfl)))) ?_ Fork.nil))
              · refine DrawG.fork (n := 2) [9, 13] (by decide +kernel) (by decide) ?_
                refine (Fork.cons rfl (gS (v := (.row none 1 (x66.map (eI .u8)))) (sv (d_slice rfl rfl rfl (slR ti22 ti5 rfl rfl h_20)))) ?_ (Fork.cons rfl (gN (h' := [some ⟨59, [(eI .i64 0), (.row (some true) 1 []), (eI .i64 0), (eI .i64 0)]⟩, some ⟨59, [(eI .i64 (IntKind.i64.wrap x8)), (.row (some true) 1 []), (eI .i64 (IntKind.i64.wrap x58)), (eI .i64 (IntKind.i64.wrap x62))]⟩]) (sv (d_store rfl rfl (stP ti3 rfl rfl rfl (Nat.le_of_ble_eq_true rfl) rfl)))) ?_ Fork.nil))
                · refine DrawG.pick (n := 1) (i := 13) (by decide +kernel) rfl (gN (h' := [some ⟨59, [(eI .i64 0), (.row (some true) 1 []), (eI .i64 0), (eI .i64 0)]⟩, some ⟨59, [(eI .i64 (IntKind.i64.wrap x8)), (.row (some true) 1 []), (eI .i64 (IntKind.i64.wrap x58)), (eI .i64 (IntKind.i64.wrap x62))]⟩]) (sv (d_store rfl rfl (stP ti3 rfl rfl rfl (Nat.le_of_ble_eq_true rfl) rfl)))) ?_
                  refine DrawG.pick (n := 0) (i := 14) (by decide +kernel) rfl (gS (v := (.row none 1 (x66.map (eI .u8)))) (sv (d_assign rfl))) ?_
                  refine DrawG.nil (by decide +kernel) ?_
                  refine Ex.then_mk ?_
                  exact hG3 _ _ _ _ (Ghost.rn [0, 1] rfl rfl (FLe.same rfl (FLe.same rfl (FLe.same rfl FLe.nil))) (HLe.live rfl (V.les_refl _ _) rfl (HLe.live rfl (V.les_refl _ _) rfl HLe.nil)) rfl) (J3 x66 (IntKind.i64.wrap x58) (IntKind.i64.wrap x62) hr)
                · refine DrawG.pick (n := 1) (i := 9) (by decide +kernel) rfl (gS (v := (.row none 1 (x66.map (eI .u8)))) (sv (d_slice rfl rfl rfl (slR ti22 ti5 rfl rfl h_20)))) ?_
                  refine DrawG.pick (n := 0) (i := 14) (by decide +kernel) rfl (gS (v := (.row none 1 (x66.map (eI .u8)))) (sv (d_assign rfl))) ?_
                  refine DrawG.nil (by decide +kernel) ?_
                  refine Ex.then_mk ?_
                  exact hG3 _ _ _ _ (Ghost.rn [0, 1] rfl rfl (FLe.same rfl (FLe.same rfl (FLe.same rfl FLe.nil))) (HLe.live rfl (V.les_refl _ _) rfl (HLe.live rfl (V.les_refl _ _) rfl HLe.nil)) rfl) (J3 x66 (IntKind.i64.wrap x58) (IntKind.i64.wrap x62) hr)
              · refine DrawG.pick (n := 2) (i := 8) (by decide +kernel) rfl (gS (v := (.row none 1 (x18.map (eI .u8)))) (sv (d_move rfl))) ?_
                refine DrawG.pick (n := 1) (i := 9) (by decide +kernel) rfl (gS (v := (.row none 1 (x66.map (eI .u8)))) (sv (d_slice rfl rfl rfl (slR ti22 ti5 rfl rfl h_20)))) ?_
                refine DrawG.pick (n := 0) (i := 14) (by decide +kernel) rfl (gS (v := (.row none 1 (x66.map (eI .u8)))) (sv (d_assign rfl))) ?_
                refine DrawG.nil (by decide +kernel) ?_
                refine Ex.then_mk ?_
                exact hG3 _ _ _ _ (Ghost.rn [0, 1] rfl rfl (FLe.same rfl (FLe.same rfl (FLe.same rfl FLe.nil))) (HLe.live rfl (V.les_refl _ _) rfl (HLe.live rfl (V.les_refl _ _) rfl HLe.nil)) rfl) (J3 x66 (IntKind.i64.wrap x58) (IntKind.i64.wrap x62) hr)
          · refine DrawG.fork (n := 8) [4, 9, 11] (by decide +kernel) (by decide) ?_
            refine (Fork.cons rfl (gS (v := (.row none 1 (x18.map (eI .u8)))) (sv (d_move rfl))) ?_ (Fork.cons rfl (gS (v := (.row none 1 (x66.map (eI .u8)))) (sv (d_slice rfl rfl rfl (slR ti22 ti5 rfl rfl h_20)))) ?_ (Fork.cons rfl (gN (h' := [some ⟨59, [(eI .i64 0), (.row (some true) 1 []), (eI .i64 0), (eI .i64 0)]⟩, some ⟨59, [(eI .i64 (IntKind.i64.wrap x8)), (.row (some true) 1 []), (eI .i64 (IntKind.i64.wrap x58)), (eI .i64 0)]⟩]) (sv (d_store rfl rfl (stP ti3 rfl rfl rfl (Nat.le_of_ble_eq_true rfl) rfl)))) ?_ Fork.nil)))
            · refine DrawG.fork (n := 7) [5, 9, 11] (by decide +kernel) (by decide) ?_
              refine (Fork.cons rfl (gS (sv (d_ia rfl rfl (iaR ti22 ti5 h_19)))) ?_ (Fork.cons rfl (gS (v := (.row none 1 (x66.map (eI .u8)))) (sv (d_slice rfl rfl rfl (slR ti22 ti5 rfl rfl h_20)))) ?_ (Fork.cons rfl (gN (h' := [some ⟨59, [(eI .i64 0), (.row (some true) 1 []), (eI .i64 0), (eI .i64 0)]⟩, some ⟨59, [(eI .i64 (IntKind.i64.wrap x8)), (.row (some true) 1 []), (eI .i64 (IntKind.i64.wrap x58)), (eI .i64 0)]⟩]) (sv (d_store rfl rfl (stP ti3 rfl rfl rfl (Nat.le_of_ble_eq_true rfl) rfl)))) ?_ Fork.nil)))
              · refine DrawG.fork (n := 6) [6, 9, 11] (by decide +kernel) (by decide) ?_
                refine (Fork.cons rfl (gS (v := (eI .u8 x62)) (sv (d_load rfl (ldR h_19 (part1 ti5 rfl rfl))))) ?_ (Fork.cons rfl (gS (v := (.row none 1 (x66.map (eI .u8)))) (sv (d_slice rfl rfl rfl (slR ti22 ti5 rfl rfl h_20)))) ?_ (Fork.cons rfl (gN (h' := [some ⟨59, [(eI .i64 0), (.row (some true) 1 []), (eI .i64 0), (eI .i64 0)]⟩, some ⟨59, [(eI .i64 (IntKind.i64.wrap x8)), (.row (some true) 1 []), (eI .i64 (IntKind.i64.wrap x58)), (eI .i64 0)]⟩]) (sv (d_store rfl rfl (stP ti3 rfl rfl rfl (Nat.le_of_ble_eq_true rfl) rfl)))) ?_ Fork.nil)))
                · refine DrawG.fork (n := 5) [7, 9, 11] (by decide +kernel) (by decide) ?_
                  refine (Fork.cons rfl (gS (v := (eI .i64 (IntKind.i64.wrap x62))) (sv (d_conv rfl (conv_int _ ⟨_, ti5⟩ ti3 rfl)))) ?_ (Fork.cons rfl (gS (v := (.row none 1 (x66.map (eI .u8)))) (sv (d_slice rfl rfl rfl (slR ti22 ti5 rfl rfl h_20)))) ?_ (Fork.cons rfl (gN (h' := [some ⟨59, [(eI .i64 0), (.row (some true) 1 []), (eI .i64 0), (eI .i64 0)]⟩, some ⟨59, [(eI .i64 (IntKind.i64.wrap x8)), (.row (some true) 1 []), (eI .i64 (IntKind.i64.wrap x58)), (eI .i64 0)]⟩]) (sv (d_store rfl rfl (stP ti3 rfl rfl rfl (Nat.le_of_ble_eq_true rfl) rfl)))) ?_ Fork.nil)))
                  · refine DrawG.fork (n := 4) [9, 11] (by decide +kernel) (by decide) ?_
                    refine (Fork.cons rfl (gS (v := (.row none 1 (x66.map (eI .u8)))) (sv (d_slice rfl rfl rfl (slR ti22 ti5 rfl rfl h_20)))) ?_ (Fork.cons rfl (gN (h' := [some ⟨59, [(eI .i64 0), (.row (some true) 1 []), (eI .i64 0), (eI .i64 0)]⟩, some ⟨59, [(eI .i64 (IntKind.i64.wrap x8)), (.row (some true) 1 []), (eI .i64 (IntKind.i64.wrap x58)), (eI .i64 0)]⟩]) (sv (d_store rfl rfl (stP ti3 rfl rfl rfl (Nat.le_of_ble_eq_true rfl) rfl)))) ?_ Fork.nil))
                    · refine DrawG.pick (n := 3) (i := 11) (by decide +kernel) rfl (gN (h' := [some ⟨59, [(eI .i64 0), (.row (some true) 1 []), (eI .i64 0), (eI .i64 0)]⟩, some ⟨59, [(eI .i64 (IntKind.i64.wrap x8)), (.row (some true) 1 []), (eI .i64 (IntKind.i64.wrap x58)), (eI .i64 0)]⟩]) (sv (d_store rfl rfl (stP ti3 rfl rfl rfl (Nat.le_of_ble_eq_true rfl) rfl)))) ?_
                      refine DrawG.pick (n := 2) (i := 12) (by decide +kernel) rfl (gS (v := (.ptr 1 3)) (sv (d_fa rfl (fap59_3 ..)))) ?_
                      refine DrawG.pick (n := 1) (i := 13) (by decide +kernel) rfl (gN (h' := [some ⟨59, [(eI .i64 0), (.row (some true) 1 []), (eI .i64 0), (eI .i64 0)]⟩, some ⟨59, [(eI .i64 (IntKind.i64.wrap x8)), (.row (some true) 1 []), (eI .i64 (IntKind.i64.wrap x58)), (eI .i64 (IntKind.i64.wrap x62))]⟩]) (sv (d_store rfl rfl (stP ti3 rfl rfl rfl (Nat.le_of_ble_eq_true rfl) rfl)))) ?_
                      refine DrawG.pick (n := 0) (i := 14) (by decide +kernel) rfl (gS (v := (.row none 1 (x66.map (eI .u8)))) (sv (d_assign rfl))) ?_
                      refine DrawG.nil (by decide +kernel) ?_
                      refine Ex.then_mk ?_
                      exact hG3 _ _ _ _ (Ghost.rn [0, 1] rfl rfl (FLe.same rfl (FLe.same rfl (FLe.same rfl FLe.nil))) (HLe.live rfl (V.les_refl _ _) rfl (HLe.live rfl (V.les_refl _ _) rfl HLe.nil)) rfl) (J3 x66 (IntKind.i64.wrap x58) (IntKind.i64.wrap x62) hr)
                    · refine DrawG.pick (n := 3) (i := 12) (by decide +kernel) rfl (gS (v := (.ptr 1 3)) (sv (d_fa rfl (fap59_3 ..)))) ?_
                      refine DrawG.fork (n := 2) [9, 13] (by decide +kernel) (by decide) ?_
                      refine (Fork.cons rfl (gS (v := (.row none 1 (x66.map (eI .u8)))) (sv (d_slice rfl rfl rfl (slR ti22 ti5 rfl rfl h_20)))) ?_ (Fork.cons rfl (gN (h' := [some ⟨59, [(eI .i64 0), (.row (some true) 1 []), (eI .i64 0), (eI .i64 0)]⟩, some ⟨59, [(eI .i64 (IntKind.i64.wrap x8)), (.row (some true) 1 []), (eI .i64 (IntKind.i64.wrap x58)), (eI .i64 (IntKind.i64.wrap x62))]⟩]) (sv (d_store rfl rfl (stP ti3 rfl rfl rfl (Nat.le_of_ble_eq_true rfl) rfl)))) ?_ Fork.nil))
                      · refine DrawG.pick (n := 1) (i := 13) (by decide +kernel) rfl (gN (h' := [some ⟨59, [(eI .i64 0), (.row (some true) 1 []), (eI .i64 0), (eI .i64 0)]⟩, some ⟨59, [(eI .i64 (IntKind.i64.wrap x8)), (.row (some true) 1 []), (eI .i64 (IntKind.i64.wrap x58)), (eI .i64 (IntKind.i64.wrap x62))]⟩]) (sv (d_store rfl rfl (stP ti3 rfl rfl rfl (Nat.le_of_ble_eq_true rfl) rfl)))) ?_
                        refine DrawG.pick (n := 0) (i := 14) (by decide +kernel) rfl (gS (v := (.row none 1 (x66.map (eI .u8)))) (sv (d_assign rfl))) ?_
                        refine DrawG.nil (by decide +kernel) ?_
                        refine Ex.then_mk ?_
                        exact hG3 _ _ _ _ (Ghost.rn [0, 1] rfl rfl (FLe.same rfl (FLe.same rfl (FLe.same rfl FLe.nil))) (HLe.live rfl (V.les_refl _ _) rfl (HLe.live rfl (V.les_refl _ _) rfl HLe.nil)) rfl) (J3 x66 (IntKind.i64.wrap x58) (IntKind.i64.wrap x62) hr)
                      · refine DrawG.pick (n := 1) (i := 9) (by decide +kernel) rfl (gS (v := (.row none 1 (x66.map (eI .u8)))) (sv (d_slice rfl rfl rfl (slR ti22 ti5 rfl rfl h_20)))) ?_
                        refine DrawG.pick (n := 0) (i := 14) (by decide +kernel) rfl (gS (v := (.row none 1 (x66.map (eI .u8)))) (sv (d_assign rfl))) ?_
                        refine DrawG.nil (by decide +kernel) ?_
                        refine Ex.then_mk ?_
                        exact hG3 _ _ _ _ (Ghost.rn [0, 1] rfl rfl (FLe.same rfl (FLe.same rfl (FLe.same rfl FLe.nil))) (HLe.live rfl (V.les_refl _ _) rfl (HLe.live rfl (V.les_refl _ _) rfl HLe.nil)) rfl) (J3 x66 (IntKind.i64.wrap x58) (IntKind.i64.wrap x62) hr)
                  · refine DrawG.fork (n := 4) [7, 11] (by decide +kernel) (by decide) ?_
                    refine (Fork.cons rfl (gS (v := (eI .i64 (IntKind.i64.wrap x62))) (sv (d_conv rfl (conv_int _ ⟨_, ti5⟩ ti3 rfl)))) ?_ (Fork.cons rfl (gN (h' := [some ⟨59, [(eI .i64 0), (.row (some true) 1 []), (eI .i64 0), (eI .i64 0)]⟩, some ⟨59, [(eI .i64 (IntKind.i64.wrap x8)), (.row (some true) 1 []), (eI .i64 (IntKind.i64.wrap x58)), (eI .i64 0)]⟩]) (sv (d_store rfl rfl (stP ti3 rfl rfl rfl (Nat.le_of_ble_eq_true rfl) rfl)))) ?_ Fork.nil))
                    · refine DrawG.pick (n := 3) (i := 11) (by decide +kernel) rfl (gN (h' := [some ⟨59, [(eI .i64 0), (.row (some true) 1 []), (eI .i64 0), (eI .i64 0)]⟩, some ⟨59, [(eI .i64 (IntKind.i64.wrap x8)), (.row (some true) 1 []), (eI .i64 (IntKind.i64.wrap x58)), (eI .i64 0)]⟩]) (sv (d_store rfl rfl (stP ti3 rfl rfl rfl (Nat.le_of_ble_eq_true rfl) rfl)))) ?_
                      refine DrawG.pick (n := 2) (i := 12) (by decide +kernel) rfl (gS (v := (.ptr 1 3)) (sv (d_fa rfl (fap59_3 ..)))) ?_
                      refine DrawG.pick (n := 1) (i := 13) (by decide +kernel) rfl (gN (h' := [some ⟨59, [(eI .i64 0), (.row (some true) 1 []), (eI .i64 0), (eI .i64 0)]⟩, some ⟨59, [(eI .i64 (IntKind.i64.wrap x8)), (.row (some true) 1 []), (eI .i64 (IntKind.i64.wrap x58)), (eI .i64 (IntKind.i64.wrap x62))]⟩]) (sv (d_store rfl rfl (stP ti3 rfl rfl rfl (Nat.le_of_ble_eq_true rfl) rfl)))) ?_
                      refine DrawG.pick (n := 0) (i := 14) (by decide +kernel) rfl (gS (v := (.row none 1 (x66.map (eI .u8)))) (sv (d_assign rfl))) ?_
                      refine DrawG.nil (by decide +kernel) ?_
                      refine Ex.then_mk ?_
                      exact hG3 _ _ _ _ (Ghost.rn [0, 1] rfl rfl (FLe.same rfl (FLe.same rfl (FLe.same rfl FLe.nil))) (HLe.live rfl (V.les_refl _ _) rfl (HLe.live rfl (V.les_refl _ _) rfl HLe.nil)) rfl) (J3 x66 (IntKind.i64.wrap x58) (IntKind.i64.wrap x62) hr)
                    · refine DrawG.pick (n := 3) (i := 7) (by decide +kernel) rfl (gS (v := (eI .i64 (IntKind.i64.wrap x62))) (sv (d_conv rfl (conv_int _ ⟨_, ti5⟩ ti3 rfl)))) ?_
                      refine DrawG.pick (n := 2) (i := 12) (by decide +kernel) rfl (gS (v := (.ptr 1 3)) (sv (d_fa rfl (fap59_3 ..)))) ?_
                      refine DrawG.pick (n := 1) (i := 13) (by decide +kernel) rfl (gN (h' := [some ⟨59, [(eI .i64 0), (.row (some true) 1 []), (eI .i64 0), (eI .i64 0)]⟩, some ⟨59, [(eI .i64 (IntKind.i64.wrap x8)), (.row (some true) 1 []), (eI .i64 (IntKind.i64.wrap x58)), (eI .i64 (IntKind.i64.wrap x62))]⟩]) (sv (d_store rfl rfl (stP ti3 rfl rfl rfl (Nat.le_of_ble_eq_true rfl) rfl)))) ?_
                      refine DrawG.pick (n := 0) (i := 14) (by decide +kernel) rfl (gS (v := (.row none 1 (x66.map (eI .u8)))) (sv (d_assign rfl))) ?_
                      refine DrawG.nil (by decide +kernel) ?_
                      refine Ex.then_mk ?_
                      exact hG3 _ _ _ _ (Ghost.rn [0, 1] rfl rfl (FLe.same rfl (FLe.same rfl (FLe.same rfl FLe.nil))) (HLe.live rfl (V.les_refl _ _) rfl (HLe.live rfl (V.les_refl _ _) rfl HLe.nil)) rfl) (J3 x66 (IntKind.i64.wrap x58) (IntKind.i64.wrap x62) hr)
                  · refine DrawG.pick (n := 4) (i := 7) (by decide +kernel) rfl (gS (v := (eI .i64 (IntKind.i64.wrap x62))) (sv (d_conv rfl (conv_int _ ⟨_, ti5⟩ ti3 rfl)))) ?_
                    refine DrawG.pick (n := 3) (i := 12) (by decide +kernel) rfl (gS (v := (.ptr 1 3)) (sv (d_fa rfl (fap59_3 ..)))) ?_
                    refine DrawG.fork (n := 2) [9, 13] (by decide +kernel) (by decide) ?_
                    refine (Fork.cons rfl (gS (v := (.row none 1 (x66.map (eI .u8)))) (sv (d_slice rfl rfl rfl (slR ti22 ti5 rfl rfl h_20)))) ?_ (Fork.cons rfl (gN (h' := [some ⟨59, [(eI .i64 0), (.row (some true) 1 []), (eI .i64 0), (eI .i64 0)]⟩, some ⟨59, [(eI .i64 (IntKind.i64.wrap x8)), (.row (some true) 1 []), (eI .i64 (IntKind.i64.wrap x58)), (eI .i64 (IntKind.i64.wrap x62))]⟩]) (sv (d_store rfl rfl (stP ti3 rfl rfl rfl (Nat.le_of_ble_eq_true rfl) rfl)))) ?_ Fork.nil))
                    · refine DrawG.pick (n := 1) (i := 13) (by decide +kernel) rfl (gN (h' := [some ⟨59, [(eI .i64 0), (.row (some true) 1 []), (eI .i64 0), (eI .i64 0)]⟩, some ⟨59, [(eI .i64 (IntKind.i64.wrap x8)), (.row (some true) 1 []), (eI .i64 (IntKind.i64.wrap x58)), (eI .i64 (IntKind.i64.wrap x62))]⟩]) (sv (d_store rfl rfl (stP ti3 rfl rfl rfl (Nat.le_of_ble_eq_true rfl) rfl)))) ?_
                      refine DrawG.pick (n := 0) (i := 14) (by decide +kernel) rfl (gS (v := (.row none 1 (x66.map (eI .u8)))) (sv (d_assign rfl))) ?_
                      refine DrawG.nil (by decide +kernel) ?_
                      refine Ex.then_mk ?_
                      exact hG3 _ _ _ _ (Ghost.rn [0, 1] rfl rfl (FLe.same rfl (FLe.same rfl (FLe.same rfl FLe.nil))) (HLe.live rfl (V.les_refl _ _) rfl (HLe.live rfl (V.les_refl _ _) rfl HLe.nil)) rfl) (J3 x66 (IntKind.i64.wrap x58) (IntKind.i64.wrap x62) hr)
                    · refine DrawG.pick (n := 1) (i := 9) (by decide +kernel) rfl (gS (v := (.row none 1 (x66.map (eI .u8)))) (sv (d_slice rfl rfl rfl (slR ti22 ti5 rfl rfl h_20)))) ?_
                      refine DrawG.pick (n := 0) (i := 14) (by decide +kernel) rfl (gS (v := (.row none 1 (x66.map (eI .u8)))) (sv (d_assign rfl))) ?_
                      refine DrawG.nil (by decide +kernel) ?_
                      refine Ex.then_mk ?_
                      exact hG3 _ _ _ _ (Ghost.rn [0, 1] rfl rfl (FLe.same rfl (FLe.same rfl (FLe.same rfl FLe.nil))) (HLe.live rfl (V.les_refl _ _) rfl (HLe.live rfl (V.les_refl _ _) rfl HLe.nil)) rfl) (J3 x66 (IntKind.i64.wrap x58) (IntKind.i64.wrap x62) hr)
                · refine DrawG.fork (n := 5) [6, 11] (by decide +kernel) (by decide) ?_
                  refine (Fork.cons rfl (gS (v := (eI .u8 x62)) (sv (d_load rfl (ldR h_19 (part1 ti5 rfl rfl))))) ?_ (Fork.cons rfl (gN (h' := [some ⟨59, [(eI .i64 0), (.row (some true) 1 []), (eI .i64 0), (eI .i64 0)]⟩, some ⟨59, [(eI .i64 (IntKind.i64.wrap x8)), (.row (some true) 1 []), (eI .i64 (IntKind.i64.wrap x58)), (eI .i64 0)]⟩]) (sv (d_store rfl rfl (stP ti3 rfl rfl rfl (Nat.le_of_ble_eq_true rfl) rfl)))) ?_ Fork.nil))
                  · refine DrawG.fork (n := 4) [7, 11] (by decide +kernel) (by decide) ?_
                    refine (Fork.cons rfl (gS (v := (eI .i64 (IntKind.i64.wrap x62))) (sv (d_conv rfl (conv_int _ ⟨_, ti5⟩ ti3 rfl)))) ?_ (Fork.cons rfl (gN (h' := [some ⟨59, [(eI .i64 0), (.row (some true) 1 []), (eI .i64 0), (eI .i64 0)]⟩, some ⟨59, [(eI .i64 (IntKind.i64.wrap x8)), (.row (some true) 1 []), (eI .i64 (IntKind.i64.wrap x58)), (eI .i64 0)]⟩]) (sv (d_store rfl rfl (stP ti3 rfl rfl rfl (Nat.le_of_ble_eq_true rfl) rfl)))) ?_ Fork.nil))
                    · refine DrawG.pick (n := 3) (i := 11) (by decide +kernel) rfl (gN (h' := [some ⟨59, [(eI .i64 0), (.row (some true) 1 []), (eI .i64 0), (eI .i64 0)]⟩, some ⟨59, [(eI .i64 (IntKind.i64.wrap x8)), (.row (some true) 1 []), (eI .i64 (IntKind.i64.wrap x58)), (eI .i64 0)]⟩]) (sv (d_store rfl rfl (stP ti3 rfl rfl rfl (Nat.le_of_ble_eq_true rfl) rfl)))) ?_
                      refine DrawG.pick (n := 2) (i := 12) (by decide +kernel) rfl (gS (v := (.ptr 1 3)) (sv (d_fa rfl (fap59_3 ..)))) ?_
                      refine DrawG.pick (n := 1) (i := 13) (by decide +kernel) rfl (gN (h' := [some ⟨59, [(eI .i64 0), (.row (some true) 1 []), (eI .i64 0), (eI .i64 0)]⟩, some ⟨59, [(eI .i64 (IntKind.i64.wrap x8)), (.row (some true) 1 []), (eI .i64 (IntKind.i64.wrap x58)), (eI .i64 (IntKind.i64.wrap x62))]⟩]) (sv (d_store rfl rfl (stP ti3 rfl rfl rfl (Nat.le_of_ble_eq_true rfl) rfl)))) ?_
                      refine DrawG.pick (n := 0) (i := 14) (by decide +kernel) rfl (gS (v := (.row none 1 (x66.map (eI .u8)))) (sv (d_assign rfl))) ?_
                      refine DrawG.nil (by decide +kernel) ?_
                      refine Ex.then_mk ?_
                      exact hG3 _ _ _ _ (Ghost.rn [0, 1] rfl rfl (FLe.same rfl (FLe.same rfl (FLe.same rfl FLe.nil))) (HLe.live rfl (V.les_refl _ _) rfl (HLe.live rfl (V.les_refl _ _) rfl HLe.nil)) rfl) (J3 x66 (IntKind.i64.wrap x58) (IntKind.i64.wrap x62) hr)
                    · refine DrawG.pick (n := 3) (i := 7) (by decide +kernel) rfl (gS (v := (eI .i64 (IntKind.i64.wrap x62))) (sv (d_conv rfl (conv_int _ ⟨_, ti5⟩ ti3 rfl)))) ?_
                      refine DrawG.pick (n := 2) (i := 12) (by decide +kernel) rfl (gS (v := (.ptr 1 3)) (sv (d_fa rfl (fap59_3 ..)))) ?_
                      refine DrawG.pick (n := 1) (i := 13) (by decide +kernel) rfl (gN (h' := [some ⟨59, [(eI .i64 0), (.row (some true) 1 []), (eI .i64 0), (eI .i64 0)]⟩, some ⟨59, [(eI .i64 (IntKind.i64.wrap x8)), (.row (some true) 1 []), (eI .i64 (IntKind.i64.wrap x58)), (eI .i64 (IntKind.i64.wrap x62))]⟩]) (sv (d_store rfl rfl (stP ti3 rfl rfl rfl (Nat.le_of_ble_eq_true rfl) rfl)))) ?_
                      refine DrawG.pick (n := 0) (i := 14) (by decide +kernel) rfl (gS (v := (.row none 1 (x66.map (eI .u8)))) (sv (d_assign rfl))) ?_
                      refine DrawG.nil (by decide +kernel) ?_
                      refine Ex.then_mk ?_
                      exact hG3 _ _ _ _ (Ghost.rn [0, 1] rfl rfl (FLe.same rfl (FLe.same rfl (FLe.same rfl FLe.nil))) (HLe.live rfl (V.les_refl _ _) rfl (HLe.live rfl (V.les_refl _ _) rfl HLe.nil)) rfl) (J3 x66 (IntKind.i64.wrap x58) (IntKind.i64.wrap x62) hr)
                  · refine DrawG.pick (n := 4) (i := 6) (by decide +kernel) rfl (gS (v := (eI .u8 x62)) (sv (d_load rfl (ldR h_19 (part1 ti5 rfl rfl))))) ?_
                    refine DrawG.pick (n := 3) (i := 7) (by decide +kernel) rfl (gS (v := (eI .i64 (IntKind.i64.wrap x62))) (sv (d_conv rfl (conv_int _ ⟨_, ti5⟩ ti3 rfl)))) ?_
                    refine DrawG.pick (n := 2) (i := 12) (by decide +kernel) rfl (gS (v := (.ptr 1 3)) (sv (d_fa rfl (fap59_3 ..)))) ?_
                    refine DrawG.pick (n := 1) (i := 13) (by decide +kernel) rfl (gN (h' := [some ⟨59, [(eI .i64 0), (.row (some true) 1 []), (eI .i64 0), (eI .i64 0)]⟩, some ⟨59, [(eI .i64 (IntKind.i64.wrap x8)), (.row (some true) 1 []), (eI .i64 (IntKind.i64.wrap x58)), (eI .i64 (IntKind.i64.wrap x62))]⟩]) (sv (d_store rfl rfl (stP ti3 rfl rfl rfl (Nat.le_of_ble_eq_true rfl) rfl)))) ?_
                    refine DrawG.pick (n := 0) (i := 14) (by decide +kernel) rfl (gS (v := (.row none 1 (x66.map (eI .u8)))) (sv (d_assign rfl))) ?_
                    refine DrawG.nil (by decide +kernel) ?_
                    refine Ex.then_mk ?_
                    exact hG3 _ _ _ _ (Ghost.rn [0, 1] rfl rfl (FLe.same rfl (FLe.same rfl (FLe.same rfl FLe.nil))) (HLe.live rfl (V.les_refl _ _) rfl (HLe.live rfl (V.les_refl _ _) rfl HLe.nil)) rfl) (J3 x66 (IntKind.i64.wrap x58) (IntKind.i64.wrap x62) hr)
                · refine DrawG.pick (n := 5) (i := 6) (by decide +kernel) rfl (gS (v := (eI .u8 x62)) (sv (d_load rfl (ldR h_19 (part1 ti5 rfl rfl))))) ?_
                  refine DrawG.pick (n := 4) (i := 7) (by decide +kernel) rfl (gS (v := (eI .i64 (IntKind.i64.wrap x62))) (sv (d_conv rfl (conv_int _ ⟨_, ti5⟩ ti3 rfl)))) ?_
                  refine DrawG.pick (n := 3) (i := 12) (by decide +kernel) rfl (gS (v := (.ptr 1 3)) (sv (d_fa rfl (fap59_3 ..)))) ?_
                  refine DrawG.fork (n := 2) [9, 13] (by decide +kernel) (by decide) ?_
                  refine (Fork.cons rfl (gS (v := (.row none 1 (x66.map (eI .u8)))) (sv (d_slice rfl rfl rfl (slR ti22 ti5 rfl rfl h_20)))) ?_ (Fork.cons rfl (gN (h' := [some ⟨59, [(eI .i64 0), (.row (some true) 1 []), (eI .i64 0), (eI .i64 0)]⟩, some ⟨59, [(eI .i64 (IntKind.i64.wrap x8)), (.row (some true) 1 []), (eI .i64 (IntKind.i64.wrap x58)), (eI .i64 (IntKind.i64.wrap x62))]⟩]) (sv (d_store rfl rfl (stP ti3 rfl rfl rfl (Nat.le_of_ble_eq_true rfl) rfl)))) ?_ Fork.nil))
                  · refine DrawG.pick (n := 1) (i := 13) (by decide +kernel) rfl (gN (h' := [some ⟨59, [(eI .i64 0), (.row (some true) 1 []), (eI .i64 0), (eI .i64 0)]⟩, some ⟨59, [(eI .i64 (IntKind.i64.wrap x8)), (.row (some true) 1 []), (eI .i64 (IntKind.i64.wrap x58)), (eI .i64 (IntKind.i64.wrap x62))]⟩]) (sv (d_store rfl rfl (stP ti3 rfl rfl rfl (Nat.le_of_ble_eq_true rfl) rfl)))) ?_
                    refine DrawG.pick (n := 0) (i := 14) (by decide +kernel) rfl (gS (v := (.row none 1 (x66.map (eI .u8)))) (sv (d_assign rfl))) ?_
                    refine DrawG.nil (by decide +kernel) ?_
                    refine Ex.then_mk ?_
                    exact hG3 _ _ _ _ (Ghost.rn [0, 1] rfl rfl (FLe.same rfl (FLe.same rfl (FLe.same rfl FLe.nil))) (HLe.live rfl (V.les_refl _ _) rfl (HLe.live rfl (V.les_refl _ _) rfl HLe.nil)) rfl) (J3 x66 (IntKind.i64.wrap x58) (IntKind.i64.wrap x62) hr)
                  · refine DrawG.pick (n := 1) (i := 9) (by decide +kernel) rfl (gS (v := (.row none 1 (x66.map (eI .u8)))) (sv (d_slice rfl rfl rfl (slR ti22 ti5 rfl rfl h_20)))) ?_
                    refine DrawG.pick (n := 0) (i := 14) (by decide +kernel) rfl (gS (v := (.row none 1 (x66.map (eI .u8)))) (sv (d_assign rfl))) ?_
                    refine DrawG.nil (by decide +kernel) ?_
                    refine Ex.then_mk ?_
                    exact hG3 _ _ _ _ (Ghost.rn [0, 1] rfl rfl (FLe.same rfl (FLe.same rfl (FLe.same rfl FLe.nil))) (HLe.live rfl (V.les_refl _ _) rfl (HLe.live rfl (V.les_refl _ _) rfl HLe.nil)) rfl) (J3 x66 (IntKind.i64.wrap x58) (IntKind.i64.wrap x62) hr)
              · refine DrawG.fork (n := 6) [5, 11] (by decide +kernel) (by decide) ?_
                refine (Fork.cons rfl (gS (sv (d_ia rfl rfl (iaR ti22 ti5 h_19)))) ?_ (Fork.cons rfl (gN (h' := [some ⟨59, [(eI .i64 0), (.row (some true) 1 []), (eI .i64 0), (eI .i64 0)]⟩, some ⟨59, [(eI .i64 (IntKind.i64.wrap x8)), (.row (some true) 1 []), (eI .i64 (IntKind.i64.wrap x58)), (eI .i64 0)]⟩]) (sv (d_store rfl rfl (stP ti3 rfl rfl rfl (Nat.le_of_ble_eq_true rfl) rfl)))) ?_ Fork.nil))
                · refine DrawG.fork (n := 5) [6, 11] (by decide +kernel) (by decide) ?_
                  refine (Fork.cons rfl (gS (v := (eI .u8 x62)) (sv (d_load rfl (ldR h_19 (part1 ti5 rfl rfl))))) ?_ (Fork.cons rfl (gN (h' := [some ⟨59, [(eI .i64 0), (.row (some true) 1 []), (eI .i64 0), (eI .i64 0)]⟩, some ⟨59, [(eI .i64 (IntKind.i64.wrap x8)), (.row (some true) 1 []), (eI .i64 (IntKind.i64.wrap x58)), (eI .i64 0)]⟩]) (sv (d_store rfl rfl (stP ti3 rfl rfl rfl (Nat.le_of_ble_eq_true rfl) rfl)))) ?_ Fork.nil))
                  · refine DrawG.fork (n := 4) [7, 11] (by decide +kernel) (by decide) ?_
                    refine (Fork.cons rfl (gS (v := (eI .i64 (IntKind.i64.wrap x62))) (sv (d_conv rfl (conv_int _ ⟨_, ti5⟩ ti3 rfl)))) ?_ (Fork.cons rfl (gN (h' := [some ⟨59, [(eI .i64 0), (.row (some true) 1 []), (eI .i64 0), (eI .i64 0)]⟩, some ⟨59, [(eI .i64 (IntKind.i64.wrap x8)), (.row (some true) 1 []), (eI .i64 (IntKind.i64.wrap x58)), (eI .i64 0)]⟩]) (sv (d_store rfl rfl (stP ti3 rfl rfl rfl (Nat.le_of_ble_eq_true rfl) rfl)))) ?_ Fork.nil))
                    · refine DrawG.pick (n := 3) (i := 11) (by decide +kernel) rfl (gN (h' := [some ⟨59, [(eI .i64 0), (.row (some true) 1 []), (eI .i64 0), (eI .i64 0)]⟩, some ⟨59, [(eI .i64 (IntKind.i64.wrap x8)), (.row (some true) 1 []), (eI .i64 (IntKind.i64.wrap x58)), (eI .i64 0)]⟩]) (sv (d_store rfl rfl (stP ti3 rfl rfl rfl (Nat.le_of_ble_eq_true rfl) rfl)))) ?_
                      refine DrawG.pick (n := 2) (i := 12) (by decide +kernel) rfl (gS (v := (.ptr 1 3)) (sv (d_fa rfl (fap59_3 ..)))) ?_
                      refine DrawG.pick (n := 1) (i := 13) (by decide +kernel) rfl (gN (h' := [some ⟨59, [(eI .i64 0), (.row (some true) 1 []), (eI .i64 0), (eI .i64 0)]⟩, some ⟨59, [(eI .i64 (IntKind.i64.wrap x8)), (.row (some true) 1 []), (eI .i64 (IntKind.i64.wrap x58)), (eI .i64 (IntKind.i64.wrap x62))]⟩]) (sv (d_store rfl rfl (stP ti3 rfl rfl rfl (Nat.le_of_ble_eq_true rfl) rfl)))) ?_
                      refine DrawG.pick (n := 0) (i := 14) (by decide +kernel) rfl (gS (v := (.row none 1 (x66.map (eI .u8)))) (sv (d_assign rfl))) ?_
                      refine DrawG.nil (by decide +kernel) ?_
                      refine Ex.then_mk ?_
                      exact hG3 _ _ _ _ (Ghost.rn [0, 1] rfl rfl (FLe.same rfl (FLe.same rfl (FLe.same rfl FLe.nil))) (HLe.live rfl (V.les_refl _ _) rfl (HLe.live rfl (V.les_refl _ _) rfl HLe.nil)) rfl) (J3 x66 (IntKind.i64.wrap x58) (IntKind.i64.wrap x62) hr)
                    · refine DrawG.pick (n := 3) (i := 7) (by decide +kernel) rfl (gS (v := (eI .i64 (IntKind.i64.wrap x62))) (sv (d_conv rfl (conv_int _ ⟨_, ti5⟩ ti3 rfl)))) ?_
                      refine DrawG.pick (n := 2) (i := 12) (by decide +kernel) rfl (gS (v := (.ptr 1 3)) (sv (d_fa rfl (fap59_3 ..)))) ?_
                      refine DrawG.pick (n := 1) (i := 13) (by decide +kernel) rfl (gN (h' := [some ⟨59, [(eI .i64 0), (.row (some true) 1 []), (eI .i64 0), (eI .i64 0)]⟩, some ⟨59, [(eI .i64 (IntKind.i64.wrap x8)), (.row (some true) 1 []), (eI .i64 (IntKind.i64.wrap x58)), (eI .i64 (IntKind.i64.wrap x62))]⟩]) (sv (d_store rfl rfl (stP ti3 rfl rfl rfl (Nat.le_of_ble_eq_true rfl) rfl)))) ?_
                      refine DrawG.pick (n := 0) (i := 14) (by decide +kernel) rfl (gS (v := (.row none 1 (x66.map (eI .u8)))) (sv (d_assign rfl))) ?_
                      refine DrawG.nil (by decide +kernel) ?_
                      refine Ex.then_mk ?_
                      exact hG3 _ _ _ _ (Ghost.rn [0, 1] rfl rfl (FLe.same rfl (FLe.same rfl (FLe.same rfl FLe.nil))) (HLe.live rfl (V.les_refl _ _) rfl (HLe.live rfl (V.les_refl _ _) rfl HLe.nil)) rfl) (J3 x66 (IntKind.i64.wrap x58) (IntKind.i64.wrap x62) hr)
                  · refine DrawG.pick (n := 4) (i := 6) (by decide +kernel) rfl (gS (v := (eI .u8 x62)) (sv (d_load rfl (ldR h_19 (part1 ti5 rfl rfl))))) ?_
                    refine DrawG.pick (n := 3) (i := 7) (by decide +kernel) rfl (gS (v := (eI .i64 (IntKind.i64.wrap x62))) (sv (d_conv rfl (conv_int _ ⟨_, ti5⟩ ti3 rfl)))) ?_
                    refine DrawG.pick (n := 2) (i := 12) (by decide +kernel) rfl (gS (v := (.ptr 1 3)) (sv (d_fa rfl (fap59_3 ..)))) ?_
                    refine DrawG.pick (n := 1) (i := 13) (by decide +kernel) rfl (gN (h' := [some ⟨59, [(eI .i64 0), (.row (some true) 1 []), (eI .i64 0), (eI .i64 0)]⟩, some ⟨59, [(eI .i64 (IntKind.i64.wrap x8)), (.row (some true) 1 []), (eI .i64 (IntKind.i64.wrap x58)), (eI .i64 (IntKind.i64.wrap x62))]⟩]) (sv (d_store rfl rfl (stP ti3 rfl rfl rfl (Nat.le_of_ble_eq_true rfl) rfl)))) ?_
                    refine DrawG.pick (n := 0) (i := 14) (by decide +kernel) rfl (gS (v := (.row none 1 (x66.map (eI .u8)))) (sv (d_assign rfl))) ?_
                    refine DrawG.nil (by decide +kernel) ?_
                    refine Ex.then_mk ?_
                    exact hG3 _ _ _ _ (Ghost.rn [0, 1] rfl rfl (FLe.same rfl (FLe.same rfl (FLe.same rfl FLe.nil))) (HLe.live rfl (V.les_refl _ _) rfl (HLe.live rfl (V.les_refl _ _) rfl HLe.nil)) rfl) (J3 x66 (IntKind.i64.wrap x58) (IntKind.i64.wrap x62) hr)
                · refine DrawG.pick (n := 5) (i := 5) (by decide +kernel) rfl (gS (sv (d_ia rfl rfl (iaR ti22 ti5 h_19)))) ?_
                  refine DrawG.pick (n := 4) (i := 6) (by decide +kernel) rfl (gS (v := (eI .u8 x62)) (sv (d_load rfl (ldR h_19 (part1 ti5 rfl rfl))))) ?_
                  refine DrawG.pick (n := 3) (i := 7) (by decide +kernel) rfl (gS (v := (eI .i64 (IntKind.i64.wrap x62))) (sv (d_conv rfl (conv_int _ ⟨_, ti5⟩ ti3 rfl)))) ?_
                  refine DrawG.pick (n := 2) (i := 12) (by decide +kernel) rfl (gS (v := (.ptr 1 3)) (sv (d_fa rfl (fap59_3 ..)))) ?_
                  refine DrawG.pick (n := 1) (i := 13) (by decide +kernel) rfl (gN (h' := [some ⟨59, [(eI .i64 0), (.row (some true) 1 []), (eI .i64 0), (eI .i64 0)]⟩, some ⟨59, [(eI .i64 (IntKind.i64.wrap x8)), (.row (some true) 1 []), (eI .i64 (IntKind.i64.wrap x58)), (eI .i64 (IntKind.i64.wrap x62))]⟩]) (sv (d_store rfl rfl (stP ti3 rfl rfl rfl (Nat.le_of_ble_eq_true rfl) rfl)))) ?_
                  refine DrawG.pick (n := 0) (i := 14) (by decide +kernel) rfl (gS (v := (.row none 1 (x66.map (eI .u8)))) (sv (d_assign rfl))) ?_
                  refine DrawG.nil (by decide +kernel) ?_
                  refine Ex.then_mk ?_
                  exact hG3 _ _ _ _ (Ghost.rn [0, 1] rfl rfl (FLe.same rfl (FLe.same rfl (FLe.same rfl FLe.nil))) (HLe.live rfl (V.les_refl _ _) rfl (HLe.live rfl (V.les_refl _ _) rfl HLe.nil)) rfl) (J3 x66 (IntKind.i64.wrap x58) (IntKind.i64.wrap x62) hr)
              · refine DrawG.pick (n := 6) (i := 5) (by decide +kernel) rfl (gS (sv (d_ia rfl rfl (iaR ti22 ti5 h_19)))) ?_
                refine DrawG.pick (n := 5) (i := 6) (by decide +kernel) rfl (gS (v := (eI .u8 x62)) (sv (d_load rfl (ldR h_19 (part1 ti5 rfl rfl))))) ?_
                refine DrawG.pick (n := 4) (i := 7) (by decide +kernel) rfl (gS (v := (eI .i64 (IntKind.i64.wrap x62))) (sv (d_conv rfl (conv_int _ ⟨_, ti5⟩ ti3 rfl)))) ?_
                refine DrawG.pick (n := 3) (i := 12) (by decide +kernel) rfl (gS (v := (.ptr 1 3)) (sv (d_fa rfl (fap59_3 ..)))) ?_
                refine DrawG.fork (n := 2) [9, 13] (by decide +kernel) (by decide) ?_
                refine (Fork.cons rfl (gS (v := (.row none 1 (x66.map (eI .u8)))) (sv (d_slice rfl rfl rfl (slR ti22 ti5 rfl rfl h_20)))) ?_ (Fork.cons rfl (gN (h' := [some ⟨59, [(eI .i64 0), (.row (some true) 1 []), (eI .i64 0), (eI .i64 0)]⟩, some ⟨59, [(eI .i64 (IntKind.i64.wrap x8)), (.row (some true) 1 []), (eI .i64 (IntKind.i64.wrap x58)), (eI .i64 (IntKind.i64.wrap x62))]⟩]) (sv (d_store rfl rfl (stP ti3 rfl rfl rfl (Nat.le_of_ble_eq_true rfl) rfl)))) ?_ Fork.nil))
                · refine DrawG.pick (n := 1) (i := 13) (by decide +kernel) rfl (gN (h' := [some ⟨59, [(eI .i64 0), (.row (some true) 1 []), (eI .i64 0), (eI .i64 0)]⟩, some ⟨59, [(eI .i64 (IntKind.i64.wrap x8)), (.row (some true) 1 []), (eI .i64 (IntKind.i64.wrap x58)), (eI .i64 (IntKind.i64.wrap x62))]⟩]) (sv (d_store rfl rfl (stP ti3 rfl rfl rfl (Nat.le_of_ble_eq_true rfl) rfl)))) ?_
                  refine DrawG.pick (n := 0) (i := 14) (by decide +kernel) rfl (gS (v := (.row none 1 (x66.map (eI .u8)))) (sv (d_assign rfl))) ?_
                  refine DrawG.nil (by decide +kernel) ?_
                  refine Ex.then_mk ?_
                  exact hG3 _ _ _ _ (Ghost.rn [0, 1] rfl rfl (FLe.same rfl (FLe.same rfl (FLe.same rfl FLe.nil))) (HLe.live rfl (V.les_refl _ _) rfl (HLe.live rfl (V.les_refl _ _) rfl HLe.nil)) rfl) (J3 x66 (IntKind.i64.wrap x58) (IntKind.i64.wrap x62) hr)
                · refine DrawG.pick (n := 1) (i := 9) (by decide +kernel) rfl (gS (v := (.row none 1 (x66.map (eI .u8)))) (sv (d_slice rfl rfl rfl (slR ti22 ti5 rfl rfl h_20)))) ?_
                  refine DrawG.pick (n := 0) (i := 14) (by decide +kernel) rfl (gS (v := (.row none 1 (x66.map (eI .u8)))) (sv (d_assign rfl))) ?_
                  refine DrawG.nil (by decide +kernel) ?_
                  refine Ex.then_mk ?_
                  exact hG3 _ _ _ _ (Ghost.rn [0, 1] rfl rfl (FLe.same rfl (FLe.same rfl (FLe.same rfl FLe.nil))) (HLe.live rfl (V.les_refl _ _) rfl (HLe.live rfl (V.les_refl _ _) rfl HLe.nil)) rfl) (J3 x66 (IntKind.i64.wrap x58) (IntKind.i64.wrap x62) hr)
            · refine DrawG.fork (n := 7) [4, 11] (by decide +kernel) (by decide) ?_
              refine (Fork.cons rfl (gS (v := (.row none 1 (x18.map (eI .u8)))) (sv (d_move rfl))) ?_ (Fork.cons rfl (gN (h' := [some ⟨59, [(eI .i64 0), (.row (some true) 1 []), (eI .i64 0), (eI .i64 0)]⟩, some ⟨59, [(eI .i64 (IntKind.i64.wrap x8)), (.row (some true) 1 []), (eI .i64 (IntKind.i64.wrap x58)), (eI .i64 0)]⟩]) (sv (d_store rfl rfl (stP ti3 rfl rfl rfl (Nat.le_of_ble_eq_true rfl) rfl)))) ?_ Fork.nil))
              · refine DrawG.fork (n := 6) [5, 11] (by decide +kernel) (by decide) ?_
                refine (Fork.cons rfl (gS (sv (d_ia rfl rfl (iaR ti22 ti5 h_19)))) ?_ (Fork.cons rfl (gN (h' := [some ⟨59, [(eI .i64 0), (.row (some true) 1 []), (eI .i64 0), (eI .i64 0)]⟩, some ⟨59, [(eI .i64 (IntKind.i64.wrap x8)), (.row (some true) 1 []), (eI .i64 (IntKind.i64.wrap x58)), (eI .i64 0)]⟩]) (sv (d_store rfl rfl (stP ti3 rfl rfl rfl (Nat.le_of_ble_eq_true rfl) rfl)))) ?_ Fork.nil))
                · refine DrawG.fork (n := 5) [6, 11] (by decide +kernel) (by decide) ?_
                  refine (Fork.cons rfl (gS (v := (eI .u8 x62)) (sv (d_load rfl (ldR h_19 (part1 ti5 rfl rfl))))) ?_ (Fork.cons rfl (gN (h' := [some ⟨59, [(eI .i64 0), (.row (some true) 1 []), (eI .i64 0), (eI .i64 0)]⟩, some ⟨59, [(eI .i64 (IntKind.i64.wrap x8)), (.row (some true) 1 []), (eI .i64 (IntKind.i64.wrap x58)), (eI .i64 0)]⟩]) (sv (d_store rfl rfl (stP ti3 rfl rfl rfl (Nat.le_of_ble_eq_true rfl) rfl)))) ?_ Fork.nil))
                  · refine DrawG.fork (n := 4) [7, 11] (by decide +kernel) (by decide) ?_
                    refine (Fork.cons rfl (gS (v := (eI .i64 (IntKind.i64.wrap x62))) (sv (d_conv rfl (conv_int _ ⟨_, ti5⟩ ti3 rfl)))) ?_ (Fork.cons rfl (gN (h' := [some ⟨59, [(eI .i64 0), (.row (some true) 1 []), (eI .i64 0), (eI .i64 0)]⟩, some ⟨59, [(eI .i64 (IntKind.i64.wrap x8)), (.row (some true) 1 []), (eI .i64 (IntKind.i64.wrap x58)), (eI .i64 0)]⟩]) (sv (d_store rfl rfl (stP ti3 rfl rfl rfl (Nat.le_of_ble_eq_true rfl) rfl)))) ?_ Fork.nil))
                    · refine DrawG.pick (n := 3) (i := 11) (by decide +kernel) rfl (gN (h' := [some ⟨59, [(eI .i64 0), (.row (some true) 1 []), (eI .i64 0), (eI .i64 0)]⟩, some ⟨59, [(eI .i64 (IntKind.i64.wrap x8)), (.row (some true) 1 []), (eI .i64 (IntKind.i64.wrap x58)), (eI .i64 0)]⟩]) (sv (d_store rfl rfl (stP ti3 rfl rfl rfl (Nat.le_of_ble_eq_true rfl) rfl)))) ?_
                      refine DrawG.pick (n := 2) (i := 12) (by decide +kernel) rfl (gS (v := (.ptr 1 3)) (sv (d_fa rfl (fap59_3 ..)))) ?_
                      refine DrawG.pick (n := 1) (i := 13) (by decide +kernel) rfl (gN (h' := [some ⟨59, [(eI .i64 0), (.row (some true) 1 []), (eI .i64 0), (eI .i64 0)]⟩, some ⟨59, [(eI .i64 (IntKind.i64.wrap x8)), (.row (some true) 1 []), (eI .i64 (IntKind.i64.wrap x58)), (eI .i64 (IntKind.i64.wrap x62))]⟩]) (sv (d_store rfl rfl (stP ti3 rfl rfl rfl (Nat.le_of_ble_eq_true rfl) rfl)))) ?_
                      refine DrawG.pick (n := 0) (i := 14) (by decide +kernel) rfl (gS (v := (.row none 1 (x66.map (eI .u8)))) (sv (d_assign rfl))) ?_
                      refine DrawG.nil (by decide +kernel) ?_
                      refine Ex.then_mk ?_
                      exact hG3 _ _ _ _ (Ghost.rn [0, 1] rfl rfl (FLe.same rfl (FLe.same rfl (FLe.same rfl FLe.nil))) (HLe.live rfl (V.les_refl _ _) rfl (HLe.live rfl (V.les_refl _ _) rfl HLe.nil)) rfl) (J3 x66 (IntKind.i64.wrap x58) (IntKind.i64.wrap x62) hr)
                    · refine DrawG.pick (n := 3) (i := 7) (by decide +kernel) rfl (gS (v := (eI .i64 (IntKind.i64.wrap x62))) (sv (d_conv rfl (conv_int _ ⟨_, ti5⟩ ti3 rfl)))) ?_
                      refine DrawG.pick (n := 2) (i := 12) (by decide +kernel) rfl (gS (v := (.ptr 1 3)) (sv (d_fa rfl (fap59_3 ..)))) ?_
                      refine DrawG.pick (n := 1) (i := 13) (by decide +kernel) rfl (gN (h' := [some ⟨59, [(eI .i64 0), (.row (some true) 1 []), (eI .i64 0), (eI .i64 0)]⟩, some ⟨59, [(eI .i64 (IntKind.i64.wrap x8)), (.row (some true) 1 []), (eI .i64 (IntKind.i64.wrap x58)), (eI .i64 (IntKind.i64.wrap x62))]⟩]) (sv (d_store rfl rfl (stP ti3 rfl rfl rfl (Nat.le_of_ble_eq_true rfl) rfl)))) ?_
                      refine DrawG.pick (n := 0) (i := 14) (by decide +kernel) rfl (gS (v := (.row none 1 (x66.map (eI .u8)))) (sv (d_assign rfl))) ?_
                      refine DrawG.nil (by decide +kernel) ?_
                      refine Ex.then_mk ?_
                      exact hG3 _ _ _ _ (Ghost.rn [0, 1] rfl rfl (FLe.same rfl (FLe.same rfl (FLe.same rfl FLe.nil))) (HLe.live rfl (V.les_refl _ _) rfl (HLe.live rfl (V.les_refl _ _) rfl HLe.nil)) rfl) (J3 x66 (IntKind.i64.wrap x58) (IntKind.i64.wrap x62) hr)
                  · refine DrawG.pick (n := 4) (i := 6) (by decide +kernel) rfl (gS (v := (eI .u8 x62)) (sv (d_load rfl (ldR h_19 (part1 ti5 rfl rfl))))) ?_
                    refine DrawG.pick (n := 3) (i := 7) (by decide +kernel) rfl (gS (v := (eI .i64 (IntKind.i64.wrap x62))) (sv (d_conv rfl (conv_int _ ⟨_, ti5⟩ ti3 rfl)))) ?_
                    refine DrawG.pick (n := 2) (i := 12) (by decide +kernel) rfl (gS (v := (.ptr 1 3)) (sv (d_fa rfl (fap59_3 ..)))) ?_
                    refine DrawG.pick (n := 1) (i := 13) (by decide +kernel) rfl (gN (h' := [some ⟨59, [(eI .i64 0), (.row (some true) 1 []), (eI .i64 0), (eI .i64 0)]⟩, some ⟨59, [(eI .i64 (IntKind.i64.wrap x8)), (.row (some true) 1 []), (eI .i64 (IntKind.i64.wrap x58)), (eI .i64 (IntKind.i64.wrap x62))]⟩]) (sv (d_store rfl rfl (stP ti3 rfl rfl rfl (Nat.le_of_ble_eq_true rfl) rfl)))) ?_
                    refine DrawG.pick (n := 0) (i := 14) (by decide +kernel) rfl (gS (v := (.row none 1 (x66.map (eI .u8)))) (sv (d_assign rfl))) ?_
                    refine DrawG.nil (by decide +kernel) ?_
                    refine Ex.then_mk ?_
                    exact hG3 _ _ _ _ (Ghost.rn [0, 1] rfl rfl (FLe.same rfl (FLe.same rfl (FLe.same rfl FLe.nil))) (HLe.live rfl (V.les_refl _ _) rfl (HLe.live rfl (V.les_refl _ _) rfl HLe.nil)) rfl) (J3 x66 (IntKind.i64.wrap x58) (IntKind.i64.wrap x62) hr)
                · refine DrawG.pick (n := 5) (i := 5) (by decide +kernel) rfl (gS (sv (d_ia rfl rfl (iaR ti22 ti5 h_19)))) ?_
                  refine DrawG.pick (n := 4) (i := 6) (by decide +kernel) rfl (gS (v := (eI .u8 x62)) (sv (d_load rfl (ldR h_19 (part1 ti5 rfl rfl))))) ?_
                  refine DrawG.pick (n := 3) (i := 7) (by decide +kernel) rfl (gS (v := (eI .i64 (IntKind.i64.wrap x62))) (sv (d_conv rfl (conv_int _ ⟨_, ti5⟩ ti3 rfl)))) ?_
                  refine DrawG.pick (n := 2) (i := 12) (by decide +kernel) rfl (gS (v := (.ptr 1 3)) (sv (d_fa rfl (fap59_3 ..)))) ?_
                  refine DrawG.pick (n := 1) (i := 13) (by decide +kernel) rfl (gN (h' := [some ⟨59, [(eI .i64 0), (.row (some true) 1 []), (eI .i64 0), (eI .i64 0)]⟩, some ⟨59, [(eI .i64 (IntKind.i64.wrap x8)), (.row (some true) 1 []), (eI .i64 (IntKind.i64.wrap x58)), (eI .i64 (IntKind.i64.wrap x62))]⟩]) (sv (d_store rfl rfl (stP ti3 rfl rfl rfl (Nat.le_of_ble_eq_true rfl) rfl)))) ?_
                  refine DrawG.pick (n := 0) (i := 14) (by decide +kernel) rfl (gS (v := (.row none 1 (x66.map (eI .u8)))) (sv (d_assign rfl))) ?_
                  refine DrawG.nil (by decide +kernel) ?_
                  refine Ex.then_mk ?_
                  exact hG3 _ _ _ _ (Ghost.rn [0, 1] rfl rfl (FLe.same rfl (FLe.same rfl (FLe.same rfl FLe.nil))) (HLe.live rfl (V.les_refl _ _) rfl (HLe.live rfl (V.les_refl _ _) rfl HLe.nil)) rfl) (J3 x66 (IntKind.i64.wrap x58) (IntKind.i64.wrap x62) hr)
              · refine DrawG.pick (n := 6) (i := 4) (by decide +kernel) rfl (gS (v := (.row none 1 (x18.map (eI .u8)))) (sv (d_move rfl))) ?_
                refine DrawG.pick (n := 5) (i := 5) (by decide +kernel) rfl (gS (sv (d_ia rfl rfl (iaR ti22 ti5 h_19)))) ?_
                refine DrawG.pick (n := 4) (i := 6) (by decide +kernel) rfl (gS (v := (eI .u8 x62)) (sv (d_load rfl (ldR h_19 (part1 ti5 rfl rfl))))) ?_
                refine DrawG.pick (n := 3) (i := 7) (by decide +kernel) rfl (gS (v := (eI .i64 (IntKind.i64.wrap x62))) (sv (d_conv rfl (conv_int _ ⟨_, ti5⟩ ti3 rfl)))) ?_
                refine DrawG.pick (n := 2) (i := 12) (by decide +kernel) rfl (gS (v := (.ptr 1 3)) (sv (d_fa rfl (fap59_3 ..)))) ?_
                refine DrawG.pick (n := 1) (i := 13) (by decide +kernel) rfl (gN (h' := [some ⟨59, [(eI .i64 0), (.row (some true) 1 []), (eI .i64 0), (eI .i64 0)]⟩, some ⟨59, [(eI .i64 (IntKind.i64.wrap x8)), (.row (some true) 1 []), (eI .i64 (IntKind.i64.wrap x58)), (eI .i64 (IntKind.i64.wrap x62))]⟩]) (sv (d_store rfl rfl (stP ti3 rfl rfl rfl (Nat.le_of_ble_eq_true rfl) rfl)))) ?_
                refine DrawG.pick (n := 0) (i := 14) (by decide +kernel) rfl (gS (v := (.row none 1 (x66.map (eI .u8)))) (sv (d_assign rfl))) ?_
                refine DrawG.nil (by decide +kernel) ?_
                refine Ex.then_mk ?_
                exact hG3 _ _ _ _ (Ghost.rn [0, 1] rfl rfl (FLe.same rfl (FLe.same rfl (FLe.same rfl FLe.nil))) (HLe.live rfl (V.les_refl _ _) rfl (HLe.live rfl (V.les_refl _ _) rfl HLe.nil)) rfl) (J3 x66 (IntKind.i64.wrap x58) (IntKind.i64.wrap x62) hr)
            · refine DrawG.pick (n := 7) (i := 4) (by decide +kernel) rfl (gS (v := (.row none 1 (x18.map (eI .u8)))) (sv (d_move rfl))) ?_
              refine DrawG.pick (n := 6) (i := 5) (by decide +kernel) rfl (gS (sv (d_ia rfl rfl (iaR ti22 ti5 h_19)))) ?_
              refine DrawG.pick (n := 5) (i := 6) (by decide +kernel) rfl (gS (v := (eI .u8 x62)) (sv (d_load rfl (ldR h_19 (part1 ti5 rfl rfl))))) ?_
              refine DrawG.pick (n := 4) (i := 7) (by decide +kernel) rfl (gS (v := (eI .i64 (IntKind.i64.wrap x62))) (sv (d_conv rfl (conv_int _ ⟨_, ti5⟩ ti3 rfl)))) ?_
              refine DrawG.pick (n := 3) (i := 12) (by decide +kernel) rfl (gS (v := (.ptr 1 3)) (sv (d_fa rfl (fap59_3 ..)))) ?_
              refine DrawG.fork (n := 2) [9, 13] (by decide +kernel) (by decide) ?_
              refine (Fork.cons rfl (gS (v := (.row none 1 (x66.map (eI .u8)))) (sv (d_slice rfl rfl rfl (slR ti22 ti5 rfl rfl h_20)))) ?_ (Fork.cons rfl (gN (h' := [some ⟨59, [(eI .i64 0), (.row (some true) 1 []), (eI .i64 0), (eI .i64 0)]⟩, some ⟨59, [(eI .i64 (IntKind.i64.wrap x8)), (.row (some true) 1 []), (eI .i64 (IntKind.i64.wrap x58)), (eI .i64 (IntKind.i64.wrap x62))]⟩]) (sv (d_store rfl rfl (stP ti3 rfl rfl rfl (Nat.le_of_ble_eq_true rfl) rfl)))) ?_ Fork.nil))
              · refine DrawG.pick (n := 1) (i := 13) (by decide +kernel) rfl (gN (h' := [some ⟨59, [(eI .i64 0), (.row (some true) 1 []), (eI .i64 0), (eI .i64 0)]⟩, some ⟨59, [(eI .i64 (IntKind.i64.wrap x8)), (.row (some true) 1 []), (eI .i64 (IntKind.i64.wrap x58)), (eI .i64 (IntKind.i64.wrap x62))]⟩]) (sv (d_store rfl rfl (stP ti3 rfl rfl rfl (Nat.le_of_ble_eq_true rfl) rfl)))) ?_
                refine DrawG.pick (n := 0) (i := 14) (by decide +kernel) rfl (gS (v := (.row none 1 (x66.map (eI .u8)))) (sv (d_assign rfl))) ?_
                refine DrawG.nil (by decide +kernel) ?_
                refine Ex.then_mk ?_
                exact hG3 _ _ _ _ (Ghost.rn [0, 1] rfl rfl (FLe.same rfl (FLe.same rfl (FLe.same rfl FLe.nil))) (HLe.live rfl (V.les_refl _ _) rfl (HLe.live rfl (V.les_refl _ _) rfl HLe.nil)) rfl) (J3 x66 (IntKind.i64.wrap x58) (IntKind.i64.wrap x62) hr)
              · refine DrawG.pick (n := 1) (i := 9) (by decide +kernel) rfl (gS (v := (.row none 1 (x66.map (eI .u8)))) (sv (d_slice rfl rfl rfl (slR ti22 ti5 rfl rfl h_20)))) ?_
                refine DrawG.pick (n := 0) (i := 14) (by decide +kernel) rfl (gS (v := (.row none 1 (x66.map (eI .u8)))) (sv (d_assign rfl))) ?_
                refine DrawG.nil (by decide +kernel) ?_
                refine Ex.then_mk ?_
                exact hG3 _ _ _ _ (Ghost.rn [0, 1] rfl rfl (FLe.same rfl (FLe.same rfl (FLe.same rfl FLe.nil))) (HLe.live rfl (V.les_refl _ _) rfl (HLe.live rfl (V.les_refl _ _) rfl HLe.nil)) rfl) (J3 x66 (IntKind.i64.wrap x58) (IntKind.i64.wrap x62) hr)
          · refine DrawG.pick (n := 8) (i := 4) (by decide +kernel) rfl (gS (v := (.row none 1 (x18.map (eI .u8)))) (sv (d_move rfl))) ?_
            refine DrawG.pick (n := 7) (i := 5) (by decide +kernel) rfl (gS (sv (d_ia rfl rfl (iaR ti22 ti5 h_19)))) ?_
            refine DrawG.pick (n := 6) (i := 6) (by decide +kernel) rfl (gS (v := (eI .u8 x62)) (sv (d_load rfl (ldR h_19 (part1 ti5 rfl rfl))))) ?_
            refine DrawG.pick (n := 5) (i := 7) (by decide +kernel) rfl (gS (v := (eI .i64 (IntKind.i64.wrap x62))) (sv (d_conv rfl (conv_int _ ⟨_, ti5⟩ ti3 rfl)))) ?_
            refine DrawG.pick (n := 4) (i := 12) (by decide +kernel) rfl (gS (v := (.ptr 1 3)) (sv (d_fa rfl (fap59_3 ..)))) ?_
            refine DrawG.fork (n := 3) [8, 13] (by decide +kernel) (by decide) ?_
            refine (Fork.cons rfl (gS (v := (.row none 1 (x18.map (eI .u8)))) (sv (d_move rfl))) ?_ (Fork.cons rfl (gN (h' := [some ⟨59, [(eI .i64 0), (.row (some true) 1 []), (eI .i64 0), (eI .i64 0)]⟩, some ⟨59, [(eI .i64 (IntKind.i64.wrap x8)), (.row (some true) 1 []), (eI .i64 (IntKind.i64.wrap x58)), (eI .i64 (IntKind.i64.wrap x62))]⟩]) (sv (d_store rfl rfl (stP ti3 rfl rfl rfl (Nat.le_of_ble_eq_true rfl) rfl)))) ?_ Fork.nil))
            · refine DrawG.fork (n := 2) [9, 13] (by decide +kernel) (by decide) ?_
              refine (Fork.cons rfl (gS (v := (.row none 1 (x66.map (eI .u8)))) (sv (d_slice rfl rfl rfl (slR ti22 ti5 rfl rfl h_20)))) ?_ (Fork.cons rfl (gN (h' := [some ⟨59, [(eI .i64 0), (.row (some true) 1 []), (eI .i64 0), (eI .i64 0)]⟩, some ⟨59, [(eI .i64 (IntKind.i64.wrap x8)), (.row (some true) 1 []), (eI .i64 (IntKind.i64.wrap x58)), (eI .i64 (IntKind.i64.wrap x62))]⟩]) (sv (d_store rfl rfl (stP ti3 rfl rfl rfl (Nat.le_of_ble_eq_true rfl) rfl)))) ?_ Fork.nil))
              · refine DrawG.pick (n := 1) (i := 13) (by decide +kernel) rfl (gN (h' := [some ⟨59, [(eI .i64 0), (.row (some true) 1 []), (eI .i64 0), (eI .i64 0)]⟩, some ⟨59, [(eI .i64 (IntKind.i64.wrap x8)), (.row (some true) 1 []), (eI .i64 (IntKind.i64.wrap x58)), (eI .i64 (IntKind.i64.wrap x62))]⟩]) (sv (d_store rfl rfl (stP ti3 rfl rfl rfl (Nat.le_of_ble_eq_true rfl) rfl)))) ?_
                refine DrawG.pick (n := 0) (i := 14) (by decide +kernel) rfl (gS (v := (.row none 1 (x66.map (eI .u8)))) (sv (d_assign rfl))) ?_
                refine DrawG.nil (by decide +kernel) ?_
                refine Ex.then_mk ?_
                exact hG3 _ _ _ _ (Ghost.rn [0, 1] rfl rfl (FLe.same rfl (FLe.same rfl (FLe.same rfl FLe.nil))) (HLe.live rfl (V.les_refl _ _) rfl (HLe.live rfl (V.les_refl _ _) rfl HLe.nil)) rfl) (J3 x66 (IntKind.i64.wrap x58) (IntKind.i64.wrap x62) hr)
              · refine DrawG.pick (n := 1) (i := 9) (by decide +kernel) rfl (gS (v := (.row none 1 (x66.map (eI .u8)))) (sv (d_slice rfl rfl rfl (slR ti22 ti5 rfl rfl h_20)))) ?_
                refine DrawG.pick (n := 0) (i := 14) (by decide +kernel) rfl (gS (v := (.row none 1 (x66.map (eI .u8)))) (sv (d_assign rfl))) ?_
                refine DrawG.nil (by decide +kernel) ?_
                refine Ex.then_mk ?_
                exact hG3 _ _ _ _ (Ghost.rn [0, 1] rfl rfl (FLe.same rfl (FLe.same rfl (FLe.same rfl FLe.nil))) (HLe.live rfl (V.les_refl _ _) rfl (HLe.live rfl (V.les_refl _ _) rfl HLe.nil)) rfl) (J3 x66 (IntKind.i64.wrap x58) (IntKind.i64.wrap x62) hr)
            · refine DrawG.pick (n := 2) (i := 8) (by decide +kernel) rfl (gS (v := (.row none 1 (x18.map (eI .u8)))) (sv (d_move rfl))) ?_
              refine DrawG.pick (n := 1) (i := 9) (by decide +kernel) rfl (gS (v := (.row none 1 (x66.map (eI .u8)))) (sv (d_slice rfl rfl rfl (slR ti22 ti5 rfl rfl h_20)))) ?_
              refine DrawG.pick (n := 0) (i := 14) (by decide +kernel) rfl (gS (v := (.row none 1 (x66.map (eI .u8)))) (sv (d_assign rfl))) ?_
              refine DrawG.nil (by decide +kernel) ?_
              refine Ex.then_mk ?_
              exact hG3 _ _ _ _ (Ghost.rn [0, 1] rfl rfl (FLe.same rfl (FLe.same rfl (FLe.same rfl FLe.nil))) (HLe.live rfl (V.les_refl _ _) rfl (HLe.live rfl (V.les_refl _ _) rfl HLe.nil)) rfl) (J3 x66 (IntKind.i64.wrap x58) (IntKind.i64.wrap x62) hr)
      · replace hr := iteF hr h14
        refine AB.skip ?_
        refine Ex.inBlock_mk ?_
        refine Ex.then_mk ?_
        exact hG1 _ _ _ _ (Ghost.trans (Ghost.virt (fr' := [(0, (.row none 1 (x18.map (eI .u8)))), (2, (.ptr 0 0)), (5, (.ptr 1 0))]) (h1 := [some ⟨59, [(eI .i64 0), (.row (some true) 1 []), (eI .i64 0), (eI .i64 0)]⟩, some ⟨59, [(eI .i64 (IntKind.i64.wrap x8)), (.sl 2 0 0 1 false), (eI .i64 0), (eI .i64 0)]⟩]) 5 (FLe.same rfl (FLe.same rfl (FLe.same rfl FLe.nil))) (HLv.live (V.les_refl _ _) rfl (HLv.live (V.les_cons (V.le_refl _ _) (V.les_cons (V.le_virt rfl) (V.les_cons (V.le_refl _ _) (V.les_cons (V.le_refl _ _) V.les_nil)))) rfl HLv.nil))) (Ghost.rn [0, 1, 2] rfl rfl (FLe.same rfl (FLe.same rfl (FLe.same rfl FLe.nil))) (HLe.live rfl (V.les_refl _ _) rfl (HLe.live rfl (V.les_cons (V.le_refl _ _) (V.les_cons (by first | exact V.le_refl _ _ | (simp only [len_set, len_cpy]; exact V.le_refl _ _)) (V.les_cons (V.le_refl _ _) (V.les_cons (V.le_refl _ _) V.les_nil)))) rfl (HLe.live rfl V.les_nil rfl HLe.nil))) rfl)) (J1 x18 0 0 [] hr)
set_option maxRecDepth 20000 in
set_option maxHeartbeats 1000000 in
theorem script_Parse_ok (N : Nat) (b : List Int) (r : (List S_api_Op) × Int) (hr : script_Parse N b = some r) :
    Vm.Fn Tryd.prog 16 [] [(.row none 1 (b.map (eI .u8)))] (.tup [(.sl 0 0 r.1.length 4 true), (eI .i64 r.2)]) [some ⟨59, r.1.flatMap C_api_Op⟩] := by
  refine fn_ab Tryd.func16 rfl (by kernel_rfl) Tryd.ntmps16 (Nat.le_of_ble_eq_true rfl) rfl (fr := [(0, (.row none 1 (b.map (eI .u8))))]) rfl ?_
  unfold script_Parse at hr
  refine AB.seq ?_
  refine AB.rw ?_
  refine wS (v := (.row (some true) 1 [])) (sv (d_assign rfl)) ?_
  refine wS (v := (eI .i64 0)) (sv (d_assign rfl)) ?_
  refine OpsW.nil ?_
  refine Ex.then_mk ?_
  refine AB.seq ?_
  refine AB.seq ?_
  refine AB.rw ?_
  refine wS (v := (.row none 1 (b.map (eI .u8)))) (sv (d_move rfl)) ?_
  refine wS (v := (eI .i64 (b.length : Int))) (sv (d_len rfl (lenR ti22))) ?_
  refine wS (v := (eB (decide (520 < (b.length : Int))))) (sv (d_bin rfl rfl (bin_gtr ..))) ?_
  refine OpsW.nil ?_
  refine Ex.then_mk ?_
  refine AB.cnd rfl (fun h1 => ?_) (fun h1 => ?_)
  · replace hr := iteT hr h1
    refine AB.seq ?_
    refine AB.rw ?_
    refine wS (v := (.row (some true) 1 [])) (sv (d_assign rfl)) ?_
    refine wS (v := (eI .i64 4)) (sv (d_assign rfl)) ?_
    refine OpsW.nil ?_
    refine Ex.then_mk ?_
    refine AB.ret ?_
    refine Ex.then_ret_mk ?_
    obtain rfl := Option.some.inj hr
    exact done_ret (r1 := (.tup [(.row (some true) 1 []), (eI .i64 4)])) (res2 Tryd.results16 (rvT rfl) (rvT rfl)) (Ghost.trans (Ghost.virt (fr' := [(0, (.tup [(.sl 0 0 0 4 true), (eI .i64 4)]))]) (h1 := []) 59 (FLe.le rfl (V.le_tup (V.les_cons (V.le_virt rfl) (V.les_cons (V.le_refl _ _) V.les_nil))) FLe.nil) HLv.nil) (Ghost.rn [0] rfl rfl (FLe.le rfl (V.le_tup (V.les_cons (by first | exact V.le_refl _ _ | (simp only [len_set, len_cpy]; exact V.le_refl _ _)) (V.les_cons (V.le_refl _ _) V.les_nil))) FLe.nil) (HLe.live rfl V.les_nil rfl HLe.nil) rfl))
  · replace hr := iteF hr h1
    refine AB.skip ?_
    refine Ex.then_mk ?_
    refine AB.seq ?_
    refine AB.rw ?_
    refine wS (v := (.row (some true) 1 [])) (sv (d_assign rfl)) ?_
    refine OpsW.nil ?_
    refine Ex.then_mk ?_
    refine AB.seq_g fun K1 hK1 hG1 => ?_
    have J1 : ∀ (l0 : List S_api_Op), script_Parse_J1 N l0 = some r → K1 (mkF 29 [(4, (.sl 0 0 l0.length 4 true))]) [some ⟨59, l0.flatMap C_api_Op⟩] := by
      intro l0 hr
      unfold script_Parse_J1 at hr
      refine hK1 _ _ ?_
      refine AB.seq ?_
      refine AB.rw ?_
      refine wS (v := (.sl 0 0 l0.length 4 true)) (sv (d_move rfl)) ?_
      refine wS (v := (.sl 0 0 l0.length 4 true)) (sv (d_assign rfl)) ?_
      refine wS (v := (eI .i64 0)) (sv (d_assign rfl)) ?_
      refine OpsW.nil ?_
      refine Ex.then_mk ?_
      refine AB.ret ?_
      obtain rfl := Option.some.inj hr
      exact done_ret (r1 := (.tup [(.sl 0 0 l0.length 4 true), (eI .i64 0)])) (res2 Tryd.results16 (rvT rfl) (rvT rfl)) (Ghost.rn [0] rfl rfl (FLe.same rfl FLe.nil) (HLe.live rfl (les_flat (fun _ => rfl) _) (all_flat (fun _ => rfl) _) HLe.nil) rfl)
    replace hr := bnd hr; obtain ⟨res2, hL2, hr⟩ := hr
    refine AB.block ?_
    refine AB.loopN (fun m s h => ∃ (b_1 : List Int) (l0_1 : List S_api_Op), script_Parse_L2 N m b_1 l0_1 = some res2 ∧ Ghost 0 s h (mkF 29 [(0, (.row none 1 (b_1.map (eI .u8)))), (4, (.sl 0 0 l0_1.length 4 true))]) [some ⟨59, l0_1.flatMap C_api_Op⟩]) (n := N) ⟨b, [], hL2, (Ghost.trans (Ghost.virt (fr' := [(0, (.row none 1 (b.map (eI .u8)))), (4, (.sl 0 0 0 4 true))]) (h1 := []) 59 (FLe.same rfl (FLe.le rfl (V.le_virt rfl) FLe.nil)) HLv.nil) (Ghost.rn [0] rfl rfl (FLe.same rfl (FLe.le rfl (by first | exact V.le_refl _ _ | (simp only [len_set, len_cpy]; exact V.le_refl _ _)) FLe.nil)) (HLe.live rfl V.les_nil rfl HLe.nil) rfl))⟩ (by rintro s h ⟨_, _, h0, _⟩; simp [script_Parse_L2] at h0) ?_
    rintro m2 s h ⟨b_1, l0_1, hr2, hg⟩
    refine AB.ghost hg ?_
    clear hg hL2
    rw [script_Parse_L2] at hr2
    refine AB.seq ?_
    refine AB.seq ?_
    refine AB.rw ?_
    refine wS (v := (.row none 1 (b_1.map (eI .u8)))) (sv (d_move rfl)) ?_
    refine wS (v := (eI .i64 (b_1.length : Int))) (sv (d_len rfl (lenR ti22))) ?_
    refine wS (v := (eB (decide (0 < (b_1.length : Int))))) (sv (d_bin rfl rfl (bin_gtr ..))) ?_
    refine OpsW.nil ?_
    refine Ex.then_mk ?_
    refine AB.cnd rfl (fun h2 => ?_) (fun h2 => ?_)
    · replace hr2 := iteT hr2 h2
      refine AB.skip ?_
      refine Ex.then_mk ?_
      refine AB.block ?_
      refine AB.seq ?_
      replace hr2 := bnd hr2; obtain ⟨x16, h_3, hr2⟩ := hr2
      refine AB.rw ?_
      refine wS (v := (.row none 1 (b_1.map (eI .u8)))) (sv (d_move rfl)) ?_
      refine wC (v := (.tup [(.agg [(eI .i64 x16.1), (.sl 1 0 x16.2.1.length 1 false), (eI .i64 x16.2.2.1), (eI .i64 x16.2.2.2.1)]), (.row none 1 (x16.2.2.2.2.1.map (eI .u8))), (eI .i64 x16.2.2.2.2.2)])) (h' := [some ⟨59, l0_1.flatMap C_api_Op⟩, some ⟨5, x16.2.1.map (eI .u8)⟩]) rfl (Vm.Fn.lendB (script_next_ok N b_1 x16 h_3) [] (by decide) rfl Lend.nil rfl rfl (by simp only [lent, lendSet, lendSet_nil, rnH, Blk.rn, V.rns, V.rn, sg, List.map_cons, List.map_nil, Option.map_some, Option.map_none, List.drop_succ_cons, List.drop_zero, List.drop_nil, List.set_cons_zero, List.set_cons_succ, List.cons_append, List.nil_append, List.append_nil, rns_eI, rns_eB, rns_eS, rns_eL, rns_C_api_Op, List.getElem?_cons_zero, List.getElem?_cons_succ, List.getElem?_nil, List.length_cons, List.length_nil, Nat.reduceAdd, Nat.reduceSub, Nat.add_zero, Nat.zero_add, Nat.sub_self, Nat.sub_zero])) ?_
      refine wS (v := (.tup [(.agg [(eI .i64 x16.1), (.sl 1 0 x16.2.1.length 1 false), (eI .i64 x16.2.2.1), (eI .i64 x16.2.2.2.1)]), (.row none 1 (x16.2.2.2.2.1.map (eI .u8))), (eI .i64 x16.2.2.2.2.2)])) (sv (d_move rfl)) ?_
      refine wS (v := (.agg [(eI .i64 x16.1), (.sl 1 0 x16.2.1.length 1 false), (eI .i64 x16.2.2.1), (eI .i64 x16.2.2.2.1)])) (sv (d_ext rfl rfl)) ?_
      refine wS (v := (.row none 1 (x16.2.2.2.2.1.map (eI .u8)))) (sv (d_ext rfl rfl)) ?_
      refine wS (v := (eI .i64 x16.2.2.2.2.2)) (sv (d_ext rfl rfl)) ?_
      refine wS (v := (.ptr 2 0)) (h' := [some ⟨59, l0_1.flatMap C_api_Op⟩, some ⟨5, x16.2.1.map (eI .u8)⟩, some ⟨59, [(eI .i64 0), (.row (some true) 1 []), (eI .i64 0), (eI .i64 0)]⟩]) (sv (d_alloc ti59 rfl rfl rfl)) ?_
      refine wN (h' := [some ⟨59, l0_1.flatMap C_api_Op⟩, some ⟨5, x16.2.1.map (eI .u8)⟩, some ⟨59, [(eI .i64 x16.1), (.sl 1 0 x16.2.1.length 1 false), (eI .i64 x16.2.2.1), (eI .i64 x16.2.2.2.1)]⟩]) (sv (d_store rfl rfl (stP ti59 rfl rfl rfl (Nat.le_of_ble_eq_true rfl) rfl))) ?_
      refine wS (v := (.row none 1 (x16.2.2.2.2.1.map (eI .u8)))) (sv (d_assign rfl)) ?_
      refine wS (v := (eI .i64 x16.2.2.2.2.2)) (sv (d_assign rfl)) ?_
      refine OpsW.nil ?_
      refine Ex.then_mk ?_
      refine AB.seq ?_
      refine AB.seq ?_
      refine AB.rw ?_
      refine wS (v := (eI .i64 x16.2.2.2.2.2)) (sv (d_move rfl)) ?_
      refine wS (v := (eB (x16.2.2.2.2.2 != 0))) (sv (d_bin rfl rfl (bin_neq ..))) ?_
      refine OpsW.nil ?_
      refine Ex.then_mk ?_
      refine AB.cnd rfl (fun h4 => ?_) (fun h4 => ?_)
      · replace hr2 := iteT hr2 h4
        refine AB.seq ?_
        refine AB.rw ?_
        refine wS (v := (eI .i64 x16.2.2.2.2.2)) (sv (d_move rfl)) ?_
        refine wS (v := (.row (some true) 1 [])) (sv (d_assign rfl)) ?_
        refine wS (v := (eI .i64 x16.2.2.2.2.2)) (sv (d_assign rfl)) ?_
        refine OpsW.nil ?_
        refine Ex.then_mk ?_
        refine AB.ret ?_
        refine Ex.then_ret_mk ?_
        refine Ex.inBlock_ret_mk ?_
        refine Ex.then_ret_mk ?_
        refine Ex.inBlock_ret_mk ?_
        refine Ex.then_ret_mk ?_
        obtain rfl := Option.some.inj hr2
        obtain rfl := Option.some.inj hr
        exact done_ret (r1 := (.tup [(.row (some true) 1 []), (eI .i64 x16.2.2.2.2.2)])) (res2 Tryd.results16 (rvT rfl) (rvT rfl)) (Ghost.trans (Ghost.virt (fr' := [(0, (.tup [(.sl 3 0 0 4 true), (eI .i64 x16.2.2.2.2.2)]))]) (h1 := [some ⟨59, l0_1.flatMap C_api_Op⟩, some ⟨5, x16.2.1.map (eI .u8)⟩, some ⟨59, [(eI .i64 x16.1), (.sl 1 0 x16.2.1.length 1 false), (eI .i64 x16.2.2.1), (eI .i64 x16.2.2.2.1)]⟩]) 59 (FLe.le rfl (V.le_tup (V.les_cons (V.le_virt rfl) (V.les_cons (V.le_refl _ _) V.les_nil))) FLe.nil) (HLv.live (V.les_refl _ _) (all_flat (fun _ => rfl) _) (HLv.live (V.les_refl _ _) (all_map (fun _ => rfl) _) (HLv.live (V.les_refl _ _) rfl HLv.nil)))) (Ghost.rn [3] rfl rfl (FLe.le rfl (V.le_tup (V.les_cons (by first | exact V.le_refl _ _ | (simp only [len_set, len_cpy]; exact V.le_refl _ _)) (V.les_cons (V.le_refl _ _) V.les_nil))) FLe.nil) (HLe.live rfl V.les_nil rfl HLe.nil) rfl))
      · replace hr2 := iteF hr2 h4
        refine AB.skip ?_
        refine Ex.then_mk ?_
        replace hr2 := bnd hr2; obtain ⟨x26, h_5, hr2⟩ := hr2
        refine AB.rw ?_
        refine wS (v := (.sl 0 0 l0_1.length 4 true)) (sv (d_move rfl)) ?_
        refine wS (v := (.agg [(eI .i64 x16.1), (.sl 1 0 x16.2.1.length 1 false), (eI .i64 x16.2.2.1), (eI .i64 x16.2.2.2.1)])) (sv (d_load rfl (ldP rfl (partN (ds := [(eI .i64 x16.1), (.sl 1 0 x16.2.1.length 1 false), (eI .i64 x16.2.2.1), (eI .i64 x16.2.2.2.1)]) ti59 rfl (Nat.le_of_ble_eq_true rfl) rfl)))) ?_
        refine OpsW.ghost (Ghost.conv (fr' := [(0, (.row none 1 (b_1.map (eI .u8)))), (4, (.sl 0 0 l0_1.length 4 true)), (5, (.ptr 2 0)), (6, (.row none 1 (x16.2.2.2.2.1.map (eI .u8)))), (7, (eI .i64 x16.2.2.2.2.2)), (11, (.row none 1 (b_1.map (eI .u8)))), (12, (eI .i64 (b_1.length : Int))), (13, (eB (decide (0 < (b_1.length : Int))))), (14, (.tup [(.agg [(eI .i64 x16.1), (.row none 1 (x16.2.1.map (eI .u8))), (eI .i64 x16.2.2.1), (eI .i64 x16.2.2.2.1)]), (.row none 1 (x16.2.2.2.2.1.map (eI .u8))), (eI .i64 x16.2.2.2.2.2)])), (15, (.row none 1 (b_1.map (eI .u8)))), (16, (.tup [(.agg [(eI .i64 x16.1), (.row none 1 (x16.2.1.map (eI .u8))), (eI .i64 x16.2.2.1), (eI .i64 x16.2.2.2.1)]), (.row none 1 (x16.2.2.2.2.1.map (eI .u8))), (eI .i64 x16.2.2.2.2.2)])), (17, (.agg [(eI .i64 x16.1), (.row none 1 (x16.2.1.map (eI .u8))), (eI .i64 x16.2.2.1), (eI .i64 x16.2.2.2.1)])), (18, (.row none 1 (x16.2.2.2.2.1.map (eI .u8)))), (19, (eI .i64 x16.2.2.2.2.2)), (20, (eI .i64 x16.2.2.2.2.2)), (21, (eB (x16.2.2.2.2.2 != 0))), (23, (.sl 0 0 l0_1.length 4 true)), (24, (.agg [(eI .i64 x16.1), (.row none 1 (x16.2.1.map (eI .u8))), (eI .i64 x16.2.2.1), (eI .i64 x16.2.2.2.1)]))]) (h' := [some ⟨59, l0_1.flatMap C_api_Op⟩, none, some ⟨59, [(eI .i64 x16.1), (.row none 1 (x16.2.1.map (eI .u8))), (eI .i64 x16.2.2.1), (eI .i64 x16.2.2.2.1)]⟩]) (FCv.cons rfl (Conv.same (subB_sub rfl)) (FCv.cons rfl (Conv.same (subB_sub rfl)) (FCv.cons rfl (Conv.same (subB_sub rfl)) (FCv.cons rfl (Conv.same (subB_sub rfl)) (FCv.cons rfl (Conv.same (subB_sub rfl)) (FCv.cons rfl (Conv.same (subB_sub rfl)) (FCv.cons rfl (Conv.same (subB_sub rfl)) (FCv.cons rfl (Conv.same (subB_sub rfl)) (FCv.cons rfl (Conv.tup (Convs.cons (Conv.agg (Convs.cons (Conv.same (subB_sub rfl)) (Convs.cons (Conv.row (subB_sub rfl) rfl rfl (all_mapE (fun _ => rfl)) (by first | rfl | (simp only [List.length_map, len_set, len_cpy]; done))) (Convs.cons (Conv.same (subB_sub rfl)) (Convs.cons (Conv.same (subB_sub rfl)) Convs.nil))))) (Convs.cons (Conv.same (subB_sub rfl)) (Convs.cons (Conv.same (subB_sub rfl)) Convs.nil)))) (FCv.cons rfl (Conv.same (subB_sub rfl)) (FCv.cons rfl (Conv.tup (Convs.cons (Conv.agg (Convs.cons (Conv.same (subB_sub rfl)) (Convs.cons (Conv.row (subB_sub rfl) rfl rfl (all_mapE (fun _ => rfl)) (by first | rfl | (simp only [List.length_map, len_set, len_cpy]; done))) (Convs.cons (Conv.same (subB_sub rfl)) (Convs.cons (Conv.same (subB_sub rfl)) Convs.nil))))) (Convs.cons (Conv.same (subB_sub rfl)) (Convs.cons (Conv.same (subB_sub rfl)) Convs.nil)))) (FCv.cons rfl (Conv.agg (Convs.cons (Conv.same (subB_sub rfl)) (Convs.cons (Conv.row (subB_sub rfl) rfl rfl (all_mapE (fun _ => rfl)) (by first | rfl | (simp only [List.length_map, len_set, len_cpy]; done))) (Convs.cons (Conv.same (subB_sub rfl)) (Convs.cons (Conv.same (subB_sub rfl)) Convs.nil))))) (FCv.cons rfl (Conv.same (subB_sub rfl)) (FCv.cons rfl (Conv.same (subB_sub rfl)) (FCv.cons rfl (Conv.same (subB_sub rfl)) (FCv.cons rfl (Conv.same (subB_sub rfl)) (FCv.cons rfl (Conv.same (subB_sub rfl)) (FCv.cons rfl (Conv.agg (Convs.cons (Conv.same (subB_sub rfl)) (Convs.cons (Conv.row (subB_sub rfl) rfl rfl (all_mapE (fun _ => rfl)) (by first | rfl | (simp only [List.length_map, len_set, len_cpy]; done))) (Convs.cons (Conv.same (subB_sub rfl)) (Convs.cons (Conv.same (subB_sub rfl)) Convs.nil))))) FCv.nil)))))))))))))))))) (HCv.live (Convs.same (subB_sub rfl)) (all_flat (fun _ => rfl) _) (HCv.dead (HCv.live (Convs.cons (Conv.same (subB_sub rfl)) (Convs.cons (Conv.row (subB_sub rfl) rfl rfl (all_mapE (fun _ => rfl)) (by first | rfl | (simp only [List.length_map, len_set, len_cpy]; done))) (Convs.cons (Conv.same (subB_sub rfl)) (Convs.cons (Conv.same (subB_sub rfl)) Convs.nil)))) rfl HCv.nil)))) ?_
        refine wS (v := (.sl 3 0 1 4 true)) (h' := [some ⟨59, l0_1.flatMap C_api_Op⟩, none, some ⟨59, [(eI .i64 x16.1), (.row none 1 (x16.2.1.map (eI .u8))), (eI .i64 x16.2.2.1), (eI .i64 x16.2.2.2.1)]⟩, some ⟨59, [(S_api_Op.mk x16.1 x16.2.1 x16.2.2.1 x16.2.2.2.1)].flatMap C_api_Op⟩]) (sv (d_buildS rfl (bldLK (C := C_api_Op) (xs := [(S_api_Op.mk x16.1 x16.2.1 x16.2.2.1 x16.2.2.2.1)]) (K := 4) (fun _ => rfl) (fun _ => rfl) ti31 ti59 ⟨Nat.le_of_ble_eq_true rfl, Nat.le_of_ble_eq_true rfl, Nat.le_of_ble_eq_true rfl⟩ rfl rfl rfl rfl rfl rfl))) ?_
        refine wS (v := (.sl 4 0 x26.length 4 true)) (h' := [none, none, some ⟨59, [(eI .i64 x16.1), (.row none 1 (x16.2.1.map (eI .u8))), (eI .i64 x16.2.2.1), (eI .i64 x16.2.2.2.1)]⟩, some ⟨59, [(S_api_Op.mk x16.1 x16.2.1 x16.2.2.1 x16.2.2.2.1)].flatMap C_api_Op⟩, some ⟨59, x26.flatMap C_api_Op⟩]) (sv (d_append rfl rfl (appSK (C := C_api_Op) (K := 4) (fun _ => rfl) rfl ti31 ti59 ⟨rfl, rfl, Nat.le_of_ble_eq_true rfl, Nat.le_of_ble_eq_true rfl⟩ rfl (srcSK (C := C_api_Op) (fun _ => rfl) rfl rfl) h_5 rfl rfl))) ?_
        refine wS (v := (.row none 1 (x16.2.2.2.2.1.map (eI .u8)))) (sv (d_move rfl)) ?_
        refine wS (v := (.sl 4 0 x26.length 4 true)) (sv (d_assign rfl)) ?_
        refine wS (v := (.row none 1 (x16.2.2.2.2.1.map (eI .u8)))) (sv (d_assign rfl)) ?_
        refine OpsW.nil ?_
        refine Ex.inBlock_mk ?_
        refine Ex.then_mk ?_
        exact ⟨x16.2.2.2.2.1, x26, hr2, (Ghost.rn [4] rfl rfl (FLe.same rfl (FLe.same rfl FLe.nil)) (HLe.live rfl (les_flat (fun _ => rfl) _) (all_flat (fun _ => rfl) _) HLe.nil) rfl)⟩
    · replace hr2 := iteF hr2 h2
      refine AB.exit ?_
      refine Ex.then_exit_mk ?_
      refine Ex.then_exit_mk ?_
      refine Ex.inBlock_same_mk ?_
      obtain rfl := Option.some.inj hr2
      refine Ex.then_mk ?_
      exact hG1 _ _ _ _ (Ghost.rn [0] rfl rfl (FLe.same rfl FLe.nil) (HLe.live rfl (les_flat (fun _ => rfl) _) (all_flat (fun _ => rfl) _) HLe.nil) rfl) (J1 l0_1 hr)
end Go.Proofs.YtheekineakjhdaaDoor
