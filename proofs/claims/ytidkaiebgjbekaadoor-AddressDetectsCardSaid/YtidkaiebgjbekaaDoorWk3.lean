/- Walks printed by a program of ours (gen.py): each Go function of the list does what its shallow function says. -/
import Derived.Test.YtidkaiebgjbekaaDoorWk2
set_option linter.unusedVariables false
set_option linter.unusedSimpArgs false
namespace Go.Proofs.YtidkaiebgjbekaaDoor
open Go Go.Vm
set_option maxRecDepth 20000 in
set_option maxHeartbeats 1000000 in
theorem law27_AddressDetects_ok (N : Nat) (vn : Int) (b : List Int) (vat : Int) (vby : Int) (r : Bool) (hr : law27_AddressDetects N vn b vat vby = some r) :
    Vm.Fn Tryd.prog 7 [] [(eI .i64 vn), (.row none 1 (b.map (eI .u8))), (eI .i64 vat), (eI .i64 vby)] (eB r) [] := by
  refine fn_ab Tryd.func7 rfl (by kernel_rfl) Tryd.ntmps7 (Nat.le_of_ble_eq_true rfl) rfl (fr := [(0, (eI .i64 vn)), (1, (.row none 1 (b.map (eI .u8)))), (2, (eI .i64 vat)), (3, (eI .i64 vby))]) rfl ?_
  unfold law27_AddressDetects at hr
  refine AB.seq ?_
  refine AB.rw ?_
  refine wS (v := (eB false)) (sv (d_assign rfl)) ?_
  refine OpsW.nil ?_
  refine Ex.then_mk ?_
  refine AB.seq ?_
  refine AB.seq ?_
  replace hr := bnd hr; obtain ⟨x21, h_1, hr⟩ := hr
  refine AB.rw ?_
  refine wC (v := (eB x21)) (h' := []) rfl (Vm.Fn.pure (law27_sane_ok N x21 h_1) rfl rfl) ?_
  refine wS (v := (eB (!x21))) (sv (d_un rfl (un_not _ _))) ?_
  refine OpsW.nil ?_
  refine Ex.then_mk ?_
  refine AB.cnd rfl (fun h2 => ?_) (fun h2 => ?_)
  · replace hr := iteT hr h2
    refine AB.seq ?_
    refine AB.rw ?_
    refine wS (v := (eB false)) (sv (d_assign rfl)) ?_
    refine OpsW.nil ?_
    refine Ex.then_mk ?_
    refine AB.ret ?_
    refine Ex.then_ret_mk ?_
    obtain rfl := Option.some.inj hr
    exact done_ret (r1 := (eB false)) (res1 Tryd.results7 (rvT rfl)) (Ghost.rn [] rfl rfl (FLe.same rfl FLe.nil) HLe.nil rfl)
  · replace hr := iteF hr h2
    refine AB.skip ?_
    refine Ex.then_mk ?_
    refine AB.seq ?_
    refine AB.seq ?_
    refine AB.rw ?_
    refine wS (v := (.row none 1 (b.map (eI .u8)))) (sv (d_move rfl)) ?_
    refine wS (v := (eI .i64 (b.length : Int))) (sv (d_len rfl (lenR ti22))) ?_
    refine wS (v := (eB (decide (60 < (b.length : Int))))) (sv (d_bin rfl rfl (bin_gtr ..))) ?_
    refine OpsW.nil ?_
    refine Ex.then_mk ?_
    refine AB.cnd rfl (fun h3 => ?_) (fun h3 => ?_)
    · replace hr := iteT hr h3
      refine AB.seq ?_
      refine AB.rw ?_
      refine wS (v := (eB true)) (sv (d_assign rfl)) ?_
      refine OpsW.nil ?_
      refine Ex.then_mk ?_
      refine AB.ret ?_
      refine Ex.then_ret_mk ?_
      obtain rfl := Option.some.inj hr
      exact done_ret (r1 := (eB true)) (res1 Tryd.results7 (rvT rfl)) (Ghost.rn [] rfl rfl (FLe.same rfl FLe.nil) HLe.nil rfl)
    · replace hr := iteF hr h3
      refine AB.skip ?_
      refine Ex.then_mk ?_
      refine AB.seq ?_
      replace hr := bnd hr; obtain ⟨x27, h_4, hr⟩ := hr
      refine AB.rw ?_
      refine wS (v := (eI .i64 vn)) (sv (d_move rfl)) ?_
      refine wC (v := (eS x27)) (h' := []) rfl (Vm.Fn.pure (law27_prefix_ok N vn x27 h_4) rfl rfl) ?_
      refine wS (v := (eS x27)) (sv (d_assign rfl)) ?_
      refine OpsW.nil ?_
      refine Ex.then_mk ?_
      refine AB.seq ?_
      replace hr := bnd hr; obtain ⟨x31, h_5, hr⟩ := hr
      refine AB.rw ?_
      refine wS (v := (eS x27)) (sv (d_move rfl)) ?_
      refine wS (v := (.row none 1 (b.map (eI .u8)))) (sv (d_move rfl)) ?_
      refine wC (v := (.tup [(eS x31.1), (eI .i64 x31.2)])) (h' := []) rfl (Vm.Fn.pure (address_Encode_ok N x27 b x31 h_5) rfl rfl) ?_
      refine wS (v := (.tup [(eS x31.1), (eI .i64 x31.2)])) (sv (d_move rfl)) ?_
      refine wS (v := (eS x31.1)) (sv (d_ext rfl rfl)) ?_
      refine wS (v := (eI .i64 x31.2)) (sv (d_ext rfl rfl)) ?_
      refine wS (v := (eS x31.1)) (sv (d_assign rfl)) ?_
      refine wS (v := (eI .i64 x31.2)) (sv (d_assign rfl)) ?_
      refine OpsW.nil ?_
      refine Ex.then_mk ?_
      refine AB.seq ?_
      refine AB.seq_g fun K1 hK1 hG1 => ?_
      have J1 : ∀ (x43 : Bool), law27_AddressDetects_J1 N vat vby x27 x31 x43 = some r → K1 (mkF 123 [(2, (eI .i64 vat)), (3, (eI .i64 vby)), (9, (eS x27)), (10, (eS x31.1)), (43, (eB x43))]) [] := by
        intro x43 hr
        unfold law27_AddressDetects_J1 at hr
        refine hK1 _ _ ?_
        refine AB.cnd rfl (fun h6 => ?_) (fun h6 => ?_)
        · replace hr := iteT hr h6
          refine AB.seq ?_
          refine AB.rw ?_
          refine wS (v := (eB false)) (sv (d_assign rfl)) ?_
          refine OpsW.nil ?_
          refine Ex.then_mk ?_
          refine AB.ret ?_
          refine Ex.then_ret_mk ?_
          obtain rfl := Option.some.inj hr
          exact done_ret (r1 := (eB false)) (res1 Tryd.results7 (rvT rfl)) (Ghost.rn [] rfl rfl (FLe.same rfl FLe.nil) HLe.nil rfl)
        · replace hr := iteF hr h6
          refine AB.skip ?_
          refine Ex.then_mk ?_
          refine AB.seq ?_
          refine AB.rw ?_
          refine wS (v := (eS x27)) (sv (d_move rfl)) ?_
          refine wS (v := (eI .i64 (x27.size : Int))) (sv (d_len rfl (lenT ti9))) ?_
          refine wS (v := (eI .i64 (IntKind.i64.wrap ((x27.size : Int) + 1)))) (sv (d_bin rfl rfl (bin_add ..))) ?_
          refine wS (v := (eI .i64 (IntKind.i64.wrap ((x27.size : Int) + 1)))) (sv (d_assign rfl)) ?_
          refine OpsW.nil ?_
          refine Ex.then_mk ?_
          refine AB.seq ?_
          replace hr := bnd hr; obtain ⟨x53, h_7, hr⟩ := hr
          refine AB.rw ?_
          refine wS (v := (eI .i64 (IntKind.i64.wrap ((x27.size : Int) + 1)))) (sv (d_move rfl)) ?_
          refine wS (v := (eI .i64 vat)) (sv (d_move rfl)) ?_
          refine wS (v := (eS x31.1)) (sv (d_move rfl)) ?_
          refine wS (v := (eI .i64 (x31.1.size : Int))) (sv (d_len rfl (lenT ti9))) ?_
          refine wS (v := (eI .i64 (IntKind.i64.wrap ((x27.size : Int) + 1)))) (sv (d_move rfl)) ?_
          refine wS (v := (eI .i64 (IntKind.i64.wrap ((x31.1.size : Int) - (IntKind.i64.wrap ((x27.size : Int) + 1)))))) (sv (d_bin rfl rfl (bin_sub ..))) ?_
          refine wC (v := (eI .i64 x53)) (h' := []) rfl (Vm.Fn.pure (mill_Mod_ok N vat (IntKind.i64.wrap ((x31.1.size : Int) - (IntKind.i64.wrap ((x27.size : Int) + 1)))) x53 h_7) rfl rfl) ?_
          refine wS (v := (eI .i64 (IntKind.i64.wrap ((IntKind.i64.wrap ((x27.size : Int) + 1)) + x53)))) (sv (d_bin rfl rfl (bin_add ..))) ?_
          refine wS (v := (eI .i64 (IntKind.i64.wrap ((IntKind.i64.wrap ((x27.size : Int) + 1)) + x53)))) (sv (d_assign rfl)) ?_
          refine OpsW.nil ?_
          refine Ex.then_mk ?_
          refine AB.seq ?_
          replace hr := bnd hr; obtain ⟨x56, h_8, hr⟩ := hr
          refine AB.rw ?_
          refine wS (v := (eS x31.1)) (sv (d_move rfl)) ?_
          refine wStr (h' := [some ⟨5, x56.map (eI .u8)⟩]) rfl ti9 ti22 ti5 h_8 rfl rfl ?_
          refine wS (v := (.sl 0 0 x56.length 1 false)) (sv (d_assign rfl)) ?_
          refine OpsW.nil ?_
          refine Ex.then_mk ?_
          refine AB.seq ?_
          replace hr := bnd hr; obtain ⟨x58, h_9, hr⟩ := hr
          replace hr := bnd hr; obtain ⟨x59, h_10, hr⟩ := hr
          refine AB.rw ?_
          refine wS (v := (eI .i64 vby)) (sv (d_move rfl)) ?_
          refine wC (v := (eI .i64 x58)) (h' := [some ⟨5, x56.map (eI .u8)⟩]) rfl (Vm.Fn.pure (mill_Mod_ok N vby 32 x58 h_9) rfl rfl) ?_
          refine wS (v := (eI .u8 x59)) (sv (d_ix rfl rfl (ixT ti9 h_10))) ?_
          refine wS (v := (eI .u8 x59)) (sv (d_assign rfl)) ?_
          refine OpsW.nil ?_
          refine Ex.then_mk ?_
          refine AB.seq_g fun K2 hK2 hG2 => ?_
          have J2 : law27_AddressDetects_J2 N x27 x31 x53 = some r → K2 (mkF 123 [(9, (eS x27)), (10, (eS x31.1)), (13, (eI .i64 (IntKind.i64.wrap ((IntKind.i64.wrap ((x27.size : Int) + 1)) + x53))))]) [] := by
            intro hr
            unfold law27_AddressDetects_J2 at hr
            refine hK2 _ _ ?_
            refine AB.seq ?_
            replace hr := bnd hr; obtain ⟨x80, h_11, hr⟩ := hr
            refine AB.rw ?_
            refine wS (v := (eS x31.1)) (sv (d_move rfl)) ?_
            refine wStr (h' := [some ⟨5, x80.map (eI .u8)⟩]) rfl ti9 ti22 ti5 h_11 rfl rfl ?_
            refine wS (v := (.sl 0 0 x80.length 1 false)) (sv (d_assign rfl)) ?_
            refine OpsW.nil ?_
            refine Ex.then_mk ?_
            refine AB.seq_g fun K3 hK3 hG3 => ?_
            have J3 : law27_AddressDetects_J3 N = some r → K3 (mkF 123 []) [] := by
              intro hr
              unfold law27_AddressDetects_J3 at hr
              refine hK3 _ _ ?_
              refine AB.seq ?_
              refine AB.rw ?_
              refine wS (v := (eB true)) (sv (d_assign rfl)) ?_
              refine OpsW.nil ?_
              refine Ex.then_mk ?_
              refine AB.ret ?_
              obtain rfl := Option.some.inj hr
              exact done_ret (r1 := (eB true)) (res1 Tryd.results7 (rvT rfl)) (Ghost.rn [] rfl rfl (FLe.same rfl FLe.nil) HLe.nil rfl)
            refine AB.seq_g fun K4 hK4 hG4 => ?_
            have J4 : ∀ (x97 : Bool), law27_AddressDetects_J4 N x27 x53 x80 x97 = some r → K4 (mkF 123 [(9, (eS x27)), (13, (eI .i64 (IntKind.i64.wrap ((IntKind.i64.wrap ((x27.size : Int) + 1)) + x53)))), (18, (.sl 0 0 x80.length 1 false)), (97, (eB x97))]) [some ⟨5, x80.map (eI .u8)⟩] := by
              intro x97 hr
              unfold law27_AddressDetects_J4 at hr
              refine hK4 _ _ ?_
              refine AB.cnd rfl (fun h12 => ?_) (fun h12 => ?_)
              · replace hr := iteT hr h12
                refine AB.seq_g fun K5 hK5 hG5 => ?_
                have J5 : ∀ (l0 : List Int), law27_AddressDetects_J5 N x27 l0 = some r → K5 (mkF 123 [(9, (eS x27)), (18, (.sl 0 0 l0.length 1 false))]) [some ⟨5, l0.map (eI .u8)⟩] := by
                  intro l0 hr
                  unfold law27_AddressDetects_J5 at hr
                  refine hK5 _ _ ?_
                  refine AB.seq ?_
                  replace hr := bnd hr; obtain ⟨x118, h_13, hr⟩ := hr
                  refine AB.rw ?_
                  refine wS (v := (eS x27)) (sv (d_move rfl)) ?_
                  refine wS (v := (.sl 0 0 l0.length 1 false)) (sv (d_move rfl)) ?_
                  refine wS (v := (eS (strOf l0))) (sv (d_conv rfl (convB ti22 ti9 ti5 (srcS rfl rfl)))) ?_
                  refine wC (v := (.tup [(.sl 1 0 x118.1.length 1 false), (eI .i64 x118.2)])) (h' := [some ⟨5, l0.map (eI .u8)⟩, some ⟨5, x118.1.map (eI .u8)⟩]) rfl (Vm.Fn.lendB (address_Decode_ok N x27 (strOf l0) x118 h_13) [] (by decide) rfl Lend.nil rfl rfl (by simp only [lent, lendSet, lendSet_nil, rnH, Blk.rn, V.rns, V.rn, sg, List.map_cons, List.map_nil, Option.map_some, Option.map_none, List.drop_succ_cons, List.drop_zero, List.drop_nil, List.set_cons_zero, List.set_cons_succ, List.cons_append, List.nil_append, List.append_nil, rns_eI, rns_eB, rns_eS, rns_eL, List.getElem?_cons_zero, List.getElem?_cons_succ, List.getElem?_nil, List.length_cons, List.length_nil, Nat.reduceAdd, Nat.reduceSub, Nat.add_zero, Nat.zero_add, Nat.sub_self, Nat.sub_zero])) ?_
                  refine wS (v := (.tup [(.sl 1 0 x118.1.length 1 false), (eI .i64 x118.2)])) (sv (d_move rfl)) ?_
                  refine wS (v := (.sl 1 0 x118.1.length 1 false)) (sv (d_ext rfl rfl)) ?_
                  refine wS (v := (eI .i64 x118.2)) (sv (d_ext rfl rfl)) ?_
                  refine wS (v := (.sl 1 0 x118.1.length 1 false)) (sv (d_assign rfl)) ?_
                  refine wS (v := (eI .i64 x118.2)) (sv (d_assign rfl)) ?_
                  refine OpsW.nil ?_
                  refine Ex.then_mk ?_
                  refine AB.seq ?_
                  refine AB.rw ?_
                  refine wS (v := (eI .i64 x118.2)) (sv (d_move rfl)) ?_
                  refine wS (v := (eB (x118.2 == 0))) (sv (d_bin rfl rfl (bin_eql ..))) ?_
                  refine OpsW.nil ?_
                  refine Ex.then_mk ?_
                  refine AB.cnd rfl (fun h14 => ?_) (fun h14 => ?_)
                  · replace hr := iteT hr h14
                    refine AB.seq ?_
                    refine AB.rw ?_
                    refine wS (v := (eB false)) (sv (d_assign rfl)) ?_
                    refine OpsW.nil ?_
                    refine Ex.then_mk ?_
                    refine AB.ret ?_
                    refine Ex.then_ret_mk ?_
                    obtain rfl := Option.some.inj hr
                    exact done_ret (r1 := (eB false)) (res1 Tryd.results7 (rvT rfl)) (Ghost.rn [] rfl rfl (FLe.same rfl FLe.nil) HLe.nil rfl)
                  · replace hr := iteF hr h14
                    refine AB.skip ?_
                    refine Ex.then_mk ?_
                    exact hG3 _ _ _ _ (Ghost.rn [] rfl rfl FLe.nil HLe.nil rfl) (J3 hr)
                replace hr := bnd hr; obtain ⟨x106, h_15, hr⟩ := hr
                replace hr := bnd hr; obtain ⟨x110, h_16, hr⟩ := hr
                replace hr := bnd hr; obtain ⟨x113, h_17, hr⟩ := hr
                refine AB.rd (memF []) (memF []) mixed ?_
                refine DrawG.pick (n := 17) (i := 0) (by decide +kernel) rfl (gS (v := (.sl 0 0 x80.length 1 false)) (sv (d_move rfl))) ?_
                refine DrawG.pick (n := 16) (i := 1) (by decide +kernel) rfl (gS (v := (eI .i64 (IntKind.i64.wrap ((IntKind.i64.wrap ((x27.size : Int) + 1)) + x53)))) (sv (d_move rfl))) ?_
                refine DrawG.pick (n := 15) (i := 5) (by decide +kernel) rfl (gS (v := (.sl 0 0 x80.length 1 false)) (sv (d_move rfl))) ?_
                refine DrawG.pick (n := 14) (i := 6) (by decide +kernel) rfl (gS (v := (eI .i64 (IntKind.i64.wrap ((IntKind.i64.wrap ((x27.size : Int) + 1)) + x53)))) (sv (d_move rfl))) ?_
                refine DrawG.pick (n := 13) (i := 7) (by decide +kernel) rfl (gS (v := (eI .i64 (IntKind.i64.wrap ((IntKind.i64.wrap ((IntKind.i64.wrap ((x27.size : Int) + 1)) + x53)) + 1)))) (sv (d_bin rfl rfl (bin_add ..)))) ?_
                refine DrawG.pick (n := 12) (i := 8) (by decide +kernel) rfl (gS (v := (.ptr 0 (Int.toNat (IntKind.i64.wrap ((IntKind.i64.wrap ((IntKind.i64.wrap ((x27.size : Int) + 1)) + x53)) + 1))))) (sv (d_ia rfl rfl (iaS rfl ti22 ti5 rfl h_15)))) ?_
                refine DrawG.pick (n := 11) (i := 9) (by decide +kernel) rfl (gS (v := (eI .u8 x106)) (sv (d_load rfl (ldX (E := (eI .u8)) (y := x106) ti5 rfl rfl h_15)))) ?_
                refine DrawG.pick (n := 10) (i := 10) (by decide +kernel) rfl (gS (v := (.sl 0 0 x80.length 1 false)) (sv (d_move rfl))) ?_
                refine DrawG.pick (n := 9) (i := 11) (by decide +kernel) rfl (gS (v := (eI .i64 (IntKind.i64.wrap ((IntKind.i64.wrap ((x27.size : Int) + 1)) + x53)))) (sv (d_move rfl))) ?_
                refine DrawG.pick (n := 8) (i := 12) (by decide +kernel) rfl (gS (v := (.ptr 0 (Int.toNat (IntKind.i64.wrap ((IntKind.i64.wrap ((x27.size : Int) + 1)) + x53))))) (sv (d_ia rfl rfl (iaS rfl ti22 ti5 rfl h_16)))) ?_
                refine DrawG.pick (n := 7) (i := 13) (by decide +kernel) rfl (gS (v := (eI .u8 x110)) (sv (d_load rfl (ldX (E := (eI .u8)) (y := x110) ti5 rfl rfl h_16)))) ?_
                refine DrawG.pick (n := 6) (i := 14) (by decide +kernel) rfl (gS (v := (.ptr 0 (Int.toNat (IntKind.i64.wrap ((IntKind.i64.wrap ((x27.size : Int) + 1)) + x53))))) (sv (d_ia rfl rfl (iaS rfl ti22 ti5 rfl h_16)))) ?_
                refine DrawG.fork (n := 5) [2, 3, 15] (by decide +kernel) (by decide) ?_
                refine (Fork.cons rfl (gS (v := (.sl 0 0 x80.length 1 false)) (sv (d_move rfl))) ?_ (Fork.cons rfl (gS (v := (eI .i64 (IntKind.i64.wrap ((IntKind.i64.wrap ((x27.size : Int) + 1)) + x53)))) (sv (d_move rfl))) ?_ (Fork.cons rfl (gN (h' := [some ⟨5, (x80.set (Int.toNat (IntKind.i64.wrap ((IntKind.i64.wrap ((x27.size : Int) + 1)) + x53))) x106).map (eI .u8)⟩]) (sv (d_store rfl rfl (stXe (E := (eI .u8)) (y := x106) ti5 rfl rfl h_16 rfl rfl rfl)))) ?_ Fork.nil)))
                · refine DrawG.fork (n := 4) [3, 15] (by decide +kernel) (by decide) ?_
                  refine (Fork.cons rfl (gS (v := (eI .i64 (IntKind.i64.wrap ((IntKind.i64.wrap ((x27.size : Int) + 1)) + x53)))) (sv (d_move rfl))) ?_ (Fork.cons rfl (gN (h' := [some ⟨5, (x80.set (Int.toNat (IntKind.i64.wrap ((IntKind.i64.wrap ((x27.size : Int) + 1)) + x53))) x106).map (eI .u8)⟩]) (sv (d_store rfl rfl (stXe (E := (eI .u8)) (y := x106) ti5 rfl rfl h_16 rfl rfl rfl)))) ?_ Fork.nil))
                  · refine DrawG.fork (n := 3) [4, 15] (by decide +kernel) (by decide) ?_
                    refine (Fork.cons rfl (gS (v := (eI .i64 (IntKind.i64.wrap ((IntKind.i64.wrap ((IntKind.i64.wrap ((x27.size : Int) + 1)) + x53)) + 1)))) (sv (d_bin rfl rfl (bin_add ..)))) ?_ (Fork.cons rfl (gN (h' := [some ⟨5, (x80.set (Int.toNat (IntKind.i64.wrap ((IntKind.i64.wrap ((x27.size : Int) + 1)) + x53))) x106).map (eI .u8)⟩]) (sv (d_store rfl rfl (stXe (E := (eI .u8)) (y := x106) ti5 rfl rfl h_16 rfl rfl rfl)))) ?_ Fork.nil))
                    · refine DrawG.pick (n := 2) (i := 15) (by decide +kernel) rfl (gN (h' := [some ⟨5, (x80.set (Int.toNat (IntKind.i64.wrap ((IntKind.i64.wrap ((x27.size : Int) + 1)) + x53))) x106).map (eI .u8)⟩]) (sv (d_store rfl rfl (stXe (E := (eI .u8)) (y := x106) ti5 rfl rfl h_16 rfl rfl rfl)))) ?_
                      refine DrawG.pick (n := 1) (i := 16) (by decide +kernel) rfl (gS (v := (.ptr 0 (Int.toNat (IntKind.i64.wrap ((IntKind.i64.wrap ((IntKind.i64.wrap ((x27.size : Int) + 1)) + x53)) + 1))))) (sv (d_ia rfl rfl (iaS (by simp only [len_set, len_cpy]) ti22 ti5 rfl h_17)))) ?_
                      refine DrawG.pick (n := 0) (i := 17) (by decide +kernel) rfl (gN (h' := [some ⟨5, ((x80.set (Int.toNat (IntKind.i64.wrap ((IntKind.i64.wrap ((x27.size : Int) + 1)) + x53))) x106).set (Int.toNat (IntKind.i64.wrap ((IntKind.i64.wrap ((IntKind.i64.wrap ((x27.size : Int) + 1)) + x53)) + 1))) x110).map (eI .u8)⟩]) (sv (d_store rfl rfl (stXe (E := (eI .u8)) (y := x110) ti5 rfl rfl h_17 rfl rfl rfl)))) ?_
                      refine DrawG.nil (by decide +kernel) ?_
                      refine Ex.then_mk ?_
                      exact hG5 _ _ _ _ (Ghost.rn [0] rfl rfl (FLe.same rfl (FLe.le rfl (by first | exact V.le_refl _ _ | (simp only [len_set, len_cpy]; exact V.le_refl _ _)) FLe.nil)) (HLe.live rfl (les_map (fun _ => rfl) _) (all_map (fun _ => rfl) _) HLe.nil) rfl) (J5 ((x80.set (Int.toNat (IntKind.i64.wrap ((IntKind.i64.wrap ((x27.size : Int) + 1)) + x53))) x106).set (Int.toNat (IntKind.i64.wrap ((IntKind.i64.wrap ((IntKind.i64.wrap ((x27.size : Int) + 1)) + x53)) + 1))) x110) hr)
                    · refine DrawG.pick (n := 2) (i := 4) (by decide +kernel) rfl (gS (v := (eI .i64 (IntKind.i64.wrap ((IntKind.i64.wrap ((IntKind.i64.wrap ((x27.size : Int) + 1)) + x53)) + 1)))) (sv (d_bin rfl rfl (bin_add ..)))) ?_
                      refine DrawG.pick (n := 1) (i := 16) (by decide +kernel) rfl (gS (v := (.ptr 0 (Int.toNat (IntKind.i64.wrap ((IntKind.i64.wrap ((IntKind.i64.wrap ((x27.size : Int) + 1)) + x53)) + 1))))) (sv (d_ia rfl rfl (iaS (by simp only [len_set, len_cpy]) ti22 ti5 rfl h_17)))) ?_
                      refine DrawG.pick (n := 0) (i := 17) (by decide +kernel) rfl (gN (h' := [some ⟨5, ((x80.set (Int.toNat (IntKind.i64.wrap ((IntKind.i64.wrap ((x27.size : Int) + 1)) + x53))) x106).set (Int.toNat (IntKind.i64.wrap ((IntKind.i64.wrap ((IntKind.i64.wrap ((x27.size : Int) + 1)) + x53)) + 1))) x110).map (eI .u8)⟩]) (sv (d_store rfl rfl (stXe (E := (eI .u8)) (y := x110) ti5 rfl rfl h_17 rfl rfl rfl)))) ?_
                      refine DrawG.nil (by decide +kernel) ?_
                      refine Ex.then_mk ?_
                      exact hG5 _ _ _ _ (Ghost.rn [0] rfl rfl (FLe.same rfl (FLe.le rfl (by first | exact V.le_refl _ _ | (simp only [len_set, len_cpy]; exact V.le_refl _ _)) FLe.nil)) (HLe.live rfl (les_map (fun _ => rfl) _) (all_map (fun _ => rfl) _) HLe.nil) rfl) (J5 ((x80.set (Int.toNat (IntKind.i64.wrap ((IntKind.i64.wrap ((x27.size : Int) + 1)) + x53))) x106).set (Int.toNat (IntKind.i64.wrap ((IntKind.i64.wrap ((IntKind.i64.wrap ((x27.size : Int) + 1)) + x53)) + 1))) x110) hr)
                  · refine DrawG.pick (n := 3) (i := 3) (by decide +kernel) rfl (gS (v := (eI .i64 (IntKind.i64.wrap ((IntKind.i64.wrap ((x27.size : Int) + 1)) + x53)))) (sv (d_move rfl))) ?_
                    refine DrawG.pick (n := 2) (i := 4) (by decide +kernel) rfl (gS (v := (eI .i64 (IntKind.i64.wrap ((IntKind.i64.wrap ((IntKind.i64.wrap ((x27.size : Int) + 1)) + x53)) + 1)))) (sv (d_bin rfl rfl (bin_add ..)))) ?_
                    refine DrawG.pick (n := 1) (i := 16) (by decide +kernel) rfl (gS (v := (.ptr 0 (Int.toNat (IntKind.i64.wrap ((IntKind.i64.wrap ((IntKind.i64.wrap ((x27.size : Int) + 1)) + x53)) + 1))))) (sv (d_ia rfl rfl (iaS (by simp only [len_set, len_cpy]) ti22 ti5 rfl h_17)))) ?_
                    refine DrawG.pick (n := 0) (i := 17) (by decide +kernel) rfl (gN (h' := [some ⟨5, ((x80.set (Int.toNat (IntKind.i64.wrap ((IntKind.i64.wrap ((x27.size : Int) + 1)) + x53))) x106).set (Int.toNat (IntKind.i64.wrap ((IntKind.i64.wrap ((IntKind.i64.wrap ((x27.size : Int) + 1)) + x53)) + 1))) x110).map (eI .u8)⟩]) (sv (d_store rfl rfl (stXe (E := (eI .u8)) (y := x110) ti5 rfl rfl h_17 rfl rfl rfl)))) ?_
                    refine DrawG.nil (by decide +kernel) ?_
                    refine Ex.then_mk ?_
                    exact hG5 _ _ _ _ (Ghost.rn [0] rfl rfl (FLe.same rfl (FLe.le rfl (by first | exact V.le_refl _ _ | (simp only [len_set, len_cpy]; exact V.le_refl _ _)) FLe.nil)) (HLe.live rfl (les_map (fun _ => rfl) _) (all_map (fun _ => rfl) _) HLe.nil) rfl) (J5 ((x80.set (Int.toNat (IntKind.i64.wrap ((IntKind.i64.wrap ((x27.size : Int) + 1)) + x53))) x106).set (Int.toNat (IntKind.i64.wrap ((IntKind.i64.wrap ((IntKind.i64.wrap ((x27.size : Int) + 1)) + x53)) + 1))) x110) hr)
                · refine DrawG.fork (n := 4) [2, 4, 15] (by decide +kernel) (by decide) ?_
                  refine (Fork.cons rfl (gS (v := (.sl 0 0 x80.length 1 false)) (sv (d_move rfl))) ?_ (Fork.cons rfl (gS (v := (eI .i64 (IntKind.i64.wrap ((IntKind.i64.wrap ((IntKind.i64.wrap ((x27.size : Int) + 1)) + x53)) + 1)))) (sv (d_bin rfl rfl (bin_add ..)))) ?_ (Fork.cons rfl (gN (h' := [some ⟨5, (x80.set (Int.toNat (IntKind.i64.wrap ((IntKind.i64.wrap ((x27.size : Int) + 1)) + x53))) x106).map (eI .u8)⟩]) (sv (d_store rfl rfl (stXe (E := (eI .u8)) (y := x106) ti5 rfl rfl h_16 rfl rfl rfl)))) ?_ Fork.nil)))
                  · refine DrawG.fork (n := 3) [4, 15] (by decide +kernel) (by decide) ?_
                    refine (Fork.cons rfl (gS (v := (eI .i64 (IntKind.i64.wrap ((IntKind.i64.wrap ((IntKind.i64.wrap ((x27.size : Int) + 1)) + x53)) + 1)))) (sv (d_bin rfl rfl (bin_add ..)))) ?_ (Fork.cons rfl (gN (h' := [some ⟨5, (x80.set (Int.toNat (IntKind.i64.wrap ((IntKind.i64.wrap ((x27.size : Int) + 1)) + x53))) x106).map (eI .u8)⟩]) (sv (d_store rfl rfl (stXe (E := (eI .u8)) (y := x106) ti5 rfl rfl h_16 rfl rfl rfl)))) ?_ Fork.nil))
                    · refine DrawG.pick (n := 2) (i := 15) (by decide +kernel) rfl (gN (h' := [some ⟨5, (x80.set (Int.toNat (IntKind.i64.wrap ((IntKind.i64.wrap ((x27.size : Int) + 1)) + x53))) x106).map (eI .u8)⟩]) (sv (d_store rfl rfl (stXe (E := (eI .u8)) (y := x106) ti5 rfl rfl h_16 rfl rfl rfl)))) ?_
                      refine DrawG.pick (n := 1) (i := 16) (by decide +kernel) rfl (gS (v := (.ptr 0 (Int.toNat (IntKind.i64.wrap ((IntKind.i64.wrap ((IntKind.i64.wrap ((x27.size : Int) + 1)) + x53)) + 1))))) (sv (d_ia rfl rfl (iaS (by simp only [len_set, len_cpy]) ti22 ti5 rfl h_17)))) ?_
                      refine DrawG.pick (n := 0) (i := 17) (by decide +kernel) rfl (gN (h' := [some ⟨5, ((x80.set (Int.toNat (IntKind.i64.wrap ((IntKind.i64.wrap ((x27.size : Int) + 1)) + x53))) x106).set (Int.toNat (IntKind.i64.wrap ((IntKind.i64.wrap ((IntKind.i64.wrap ((x27.size : Int) + 1)) + x53)) + 1))) x110).map (eI .u8)⟩]) (sv (d_store rfl rfl (stXe (E := (eI .u8)) (y := x110) ti5 rfl rfl h_17 rfl rfl rfl)))) ?_
                      refine DrawG.nil (by decide +kernel) ?_
                      refine Ex.then_mk ?_
                      exact hG5 _ _ _ _ (Ghost.rn [0] rfl rfl (FLe.same rfl (FLe.le rfl (by first | exact V.le_refl _ _ | (simp only [len_set, len_cpy]; exact V.le_refl _ _)) FLe.nil)) (HLe.live rfl (les_map (fun _ => rfl) _) (all_map (fun _ => rfl) _) HLe.nil) rfl) (J5 ((x80.set (Int.toNat (IntKind.i64.wrap ((IntKind.i64.wrap ((x27.size : Int) + 1)) + x53))) x106).set (Int.toNat (IntKind.i64.wrap ((IntKind.i64.wrap ((IntKind.i64.wrap ((x27.size : Int) + 1)) + x53)) + 1))) x110) hr)
                    · refine DrawG.pick (n := 2) (i := 4) (by decide +kernel) rfl (gS (v := (eI .i64 (IntKind.i64.wrap ((IntKind.i64.wrap ((IntKind.i64.wrap ((x27.size : Int) + 1)) + x53)) + 1)))) (sv (d_bin rfl rfl (bin_add ..)))) ?_
                      refine DrawG.pick (n := 1) (i := 16) (by decide +kernel) rfl (gS (v := (.ptr 0 (Int.toNat (IntKind.i64.wrap ((IntKind.i64.wrap ((IntKind.i64.wrap ((x27.size : Int) + 1)) + x53)) + 1))))) (sv (d_ia rfl rfl (iaS (by simp only [len_set, len_cpy]) ti22 ti5 rfl h_17)))) ?_
                      refine DrawG.pick (n := 0) (i := 17) (by decide +kernel) rfl (gN (h' := [some ⟨5, ((x80.set (Int.toNat (IntKind.i64.wrap ((IntKind.i64.wrap ((x27.size : Int) + 1)) + x53))) x106).set (Int.toNat (IntKind.i64.wrap ((IntKind.i64.wrap ((IntKind.i64.wrap ((x27.size : Int) + 1)) + x53)) + 1))) x110).map (eI .u8)⟩]) (sv (d_store rfl rfl (stXe (E := (eI .u8)) (y := x110) ti5 rfl rfl h_17 rfl rfl rfl)))) ?_
                      refine DrawG.nil (by decide +kernel) ?_
                      refine Ex.then_mk ?_
                      exact hG5 _ _ _ _ (Ghost.rn [0] rfl rfl (FLe.same rfl (FLe.le rfl (by first | exact V.le_refl _ _ | (simp only [len_set, len_cpy]; exact V.le_refl _ _)) FLe.nil)) (HLe.live rfl (les_map (fun _ => rfl) _) (all_map (fun _ => rfl) _) HLe.nil) rfl) (J5 ((x80.set (Int.toNat (IntKind.i64.wrap ((IntKind.i64.wrap ((x27.size : Int) + 1)) + x53))) x106).set (Int.toNat (IntKind.i64.wrap ((IntKind.i64.wrap ((IntKind.i64.wrap ((x27.size : Int) + 1)) + x53)) + 1))) x110) hr)
                  · refine DrawG.fork (n := 3) [2, 15] (by decide +kernel) (by decide) ?_
                    refine (Fork.cons rfl (gS (v := (.sl 0 0 x80.length 1 false)) (sv (d_move rfl))) ?_ (Fork.cons rfl (gN (h' := [some ⟨5, (x80.set (Int.toNat (IntKind.i64.wrap ((IntKind.i64.wrap ((x27.size : Int) + 1)) + x53))) x106).map (eI .u8)⟩]) (sv (d_store rfl rfl (stXe (E := (eI .u8)) (y := x106) ti5 rfl rfl h_16 rfl rfl rfl)))) ?_ Fork.nil))
                    · refine DrawG.pick (n := 2) (i := 15) (by decide +kernel) rfl (gN (h' := [some ⟨5, (x80.set (Int.toNat (IntKind.i64.wrap ((IntKind.i64.wrap ((x27.size : Int) + 1)) + x53))) x106).map (eI .u8)⟩]) (sv (d_store rfl rfl (stXe (E := (eI .u8)) (y := x106) ti5 rfl rfl h_16 rfl rfl rfl)))) ?_
                      refine DrawG.pick (n := 1) (i := 16) (by decide +kernel) rfl (gS (v := (.ptr 0 (Int.toNat (IntKind.i64.wrap ((IntKind.i64.wrap ((IntKind.i64.wrap ((x27.size : Int) + 1)) + x53)) + 1))))) (sv (d_ia rfl rfl (iaS (by simp only [len_set, len_cpy]) ti22 ti5 rfl h_17)))) ?_
                      refine DrawG.pick (n := 0) (i := 17) (by decide +kernel) rfl (gN (h' := [some ⟨5, ((x80.set (Int.toNat (IntKind.i64.wrap ((IntKind.i64.wrap ((x27.size : Int) + 1)) + x53))) x106).set (Int.toNat (IntKind.i64.wrap ((IntKind.i64.wrap ((IntKind.i64.wrap ((x27.size : Int) + 1)) + x53)) + 1))) x110).map (eI .u8)⟩]) (sv (d_store rfl rfl (stXe (E := (eI .u8)) (y := x110) ti5 rfl rfl h_17 rfl rfl rfl)))) ?_
                      refine DrawG.nil (by decide +kernel) ?_
                      refine Ex.then_mk ?_
                      exact hG5 _ _ _ _ (Ghost.rn [0] rfl rfl (FLe.same rfl (FLe.le rfl (by first | exact V.le_refl _ _ | (simp only [len_set, len_cpy]; exact V.le_refl _ _)) FLe.nil)) (HLe.live rfl (les_map (fun _ => rfl) _) (all_map (fun _ => rfl) _) HLe.nil) rfl) (J5 ((x80.set (Int.toNat (IntKind.i64.wrap ((IntKind.i64.wrap ((x27.size : Int) + 1)) + x53))) x106).set (Int.toNat (IntKind.i64.wrap ((IntKind.i64.wrap ((IntKind.i64.wrap ((x27.size : Int) + 1)) + x53)) + 1))) x110) hr)
                    · refine DrawG.pick (n := 2) (i := 2) (by decide +kernel) rfl (gS (v := (.sl 0 0 x80.length 1 false)) (sv (d_move rfl))) ?_
                      refine DrawG.pick (n := 1) (i := 16) (by decide +kernel) rfl (gS (v := (.ptr 0 (Int.toNat (IntKind.i64.wrap ((IntKind.i64.wrap ((IntKind.i64.wrap ((x27.size : Int) + 1)) + x53)) + 1))))) (sv (d_ia rfl rfl (iaS (by simp only [len_set, len_cpy]) ti22 ti5 rfl h_17)))) ?_
                      refine DrawG.pick (n := 0) (i := 17) (by decide +kernel) rfl (gN (h' := [some ⟨5, ((x80.set (Int.toNat (IntKind.i64.wrap ((IntKind.i64.wrap ((x27.size : Int) + 1)) + x53))) x106).set (Int.toNat (IntKind.i64.wrap ((IntKind.i64.wrap ((IntKind.i64.wrap ((x27.size : Int) + 1)) + x53)) + 1))) x110).map (eI .u8)⟩]) (sv (d_store rfl rfl (stXe (E := (eI .u8)) (y := x110) ti5 rfl rfl h_17 rfl rfl rfl)))) ?_
                      refine DrawG.nil (by decide +kernel) ?_
                      refine Ex.then_mk ?_
                      exact hG5 _ _ _ _ (Ghost.rn [0] rfl rfl (FLe.same rfl (FLe.le rfl (by first | exact V.le_refl _ _ | (simp only [len_set, len_cpy]; exact V.le_refl _ _)) FLe.nil)) (HLe.live rfl (les_map (fun _ => rfl) _) (all_map (fun _ => rfl) _) HLe.nil) rfl) (J5 ((x80.set (Int.toNat (IntKind.i64.wrap ((IntKind.i64.wrap ((x27.size : Int) + 1)) + x53))) x106).set (Int.toNat (IntKind.i64.wrap ((IntKind.i64.wrap ((IntKind.i64.wrap ((x27.size : Int) + 1)) + x53)) + 1))) x110) hr)
                  · refine DrawG.pick (n := 3) (i := 2) (by decide +kernel) rfl (gS (v := (.sl 0 0 x80.length 1 false)) (sv (d_move rfl))) ?_
                    refine DrawG.pick (n := 2) (i := 4) (by decide +kernel) rfl (gS (v := (eI .i64 (IntKind.i64.wrap ((IntKind.i64.wrap ((IntKind.i64.wrap ((x27.size : Int) + 1)) + x53)) + 1)))) (sv (d_bin rfl rfl (bin_add ..)))) ?_
                    refine DrawG.pick (n := 1) (i := 16) (by decide +kernel) rfl (gS (v := (.ptr 0 (Int.toNat (IntKind.i64.wrap ((IntKind.i64.wrap ((IntKind.i64.wrap ((x27.size : Int) + 1)) + x53)) + 1))))) (sv (d_ia rfl rfl (iaS (by simp only [len_set, len_cpy]) ti22 ti5 rfl h_17)))) ?_
                    refine DrawG.pick (n := 0) (i := 17) (by decide +kernel) rfl (gN (h' := [some ⟨5, ((x80.set (Int.toNat (IntKind.i64.wrap ((IntKind.i64.wrap ((x27.size : Int) + 1)) + x53))) x106).set (Int.toNat (IntKind.i64.wrap ((IntKind.i64.wrap ((IntKind.i64.wrap ((x27.size : Int) + 1)) + x53)) + 1))) x110).map (eI .u8)⟩]) (sv (d_store rfl rfl (stXe (E := (eI .u8)) (y := x110) ti5 rfl rfl h_17 rfl rfl rfl)))) ?_
                    refine DrawG.nil (by decide +kernel) ?_
                    refine Ex.then_mk ?_
                    exact hG5 _ _ _ _ (Ghost.rn [0] rfl rfl (FLe.same rfl (FLe.le rfl (by first | exact V.le_refl _ _ | (simp only [len_set, len_cpy]; exact V.le_refl _ _)) FLe.nil)) (HLe.live rfl (les_map (fun _ => rfl) _) (all_map (fun _ => rfl) _) HLe.nil) rfl) (J5 ((x80.set (Int.toNat (IntKind.i64.wrap ((IntKind.i64.wrap ((x27.size : Int) + 1)) + x53))) x106).set (Int.toNat (IntKind.i64.wrap ((IntKind.i64.wrap ((IntKind.i64.wrap ((x27.size : Int) + 1)) + x53)) + 1))) x110) hr)
                · refine DrawG.pick (n := 4) (i := 2) (by decide +kernel) rfl (gS (v := (.sl 0 0 x80.length 1 false)) (sv (d_move rfl))) ?_
                  refine DrawG.pick (n := 3) (i := 3) (by decide +kernel) rfl (gS (v := (eI .i64 (IntKind.i64.wrap ((IntKind.i64.wrap ((x27.size : Int) + 1)) + x53)))) (sv (d_move rfl))) ?_
                  refine DrawG.pick (n := 2) (i := 4) (by decide +kernel) rfl (gS (v := (eI .i64 (IntKind.i64.wrap ((IntKind.i64.wrap ((IntKind.i64.wrap ((x27.size : Int) + 1)) + x53)) + 1)))) (sv (d_bin rfl rfl (bin_add ..)))) ?_
                  refine DrawG.pick (n := 1) (i := 16) (by decide +kernel) rfl (gS (v := (.ptr 0 (Int.toNat (IntKind.i64.wrap ((IntKind.i64.wrap ((IntKind.i64.wrap ((x27.size : Int) + 1)) + x53)) + 1))))) (sv (d_ia rfl rfl (iaS (by simp only [len_set, len_cpy]) ti22 ti5 rfl h_17)))) ?_
                  refine DrawG.pick (n := 0) (i := 17) (by decide +kernel) rfl (gN (h' := [some ⟨5, ((x80.set (Int.toNat (IntKind.i64.wrap ((IntKind.i64.wrap ((x27.size : Int) + 1)) + x53))) x106).set (Int.toNat (IntKind.i64.wrap ((IntKind.i64.wrap ((IntKind.i64.wrap ((x27.size : Int) + 1)) + x53)) + 1))) x110).map (eI .u8)⟩]) (sv (d_store rfl rfl (stXe (E := (eI .u8)) (y := x110) ti5 rfl rfl h_17 rfl rfl rfl)))) ?_
                  refine DrawG.nil (by decide +kernel) ?_
                  refine Ex.then_mk ?_
                  exact hG5 _ _ _ _ (Ghost.rn [0] rfl rfl (FLe.same rfl (FLe.le rfl (by first | exact V.le_refl _ _ | (simp only [len_set, len_cpy]; exact V.le_refl _ _)) FLe.nil)) (HLe.live rfl (les_map (fun _ => rfl) _) (all_map (fun _ => rfl) _) HLe.nil) rfl) (J5 ((x80.set (Int.toNat (IntKind.i64.wrap ((IntKind.i64.wrap ((x27.size : Int) + 1)) + x53))) x106).set (Int.toNat (IntKind.i64.wrap ((IntKind.i64.wrap ((IntKind.i64.wrap ((x27.size : Int) + 1)) + x53)) + 1))) x110) hr)
              · replace hr := iteF hr h12
                refine AB.skip ?_
                refine Ex.then_mk ?_
                exact hG3 _ _ _ _ (Ghost.rn [] rfl rfl FLe.nil HLe.nil rfl) (J3 hr)
            rcases Bool.eq_false_or_eq_true (decide ((IntKind.i64.wrap ((IntKind.i64.wrap ((IntKind.i64.wrap ((x27.size : Int) + 1)) + x53)) + 1)) < (x80.length : Int))) with h18 | h18
            · replace hr := iteT hr h18
              replace hr := bnd hr; obtain ⟨x89, h_19, hr⟩ := hr
              replace hr := bnd hr; obtain ⟨x94, h_20, hr⟩ := hr
              refine AB.rg E0 (fun _ => by show drawOk (fun _ => false) _ = true; decide +kernel) ?_
              refine tS (v := (eI .i64 (IntKind.i64.wrap ((IntKind.i64.wrap ((x27.size : Int) + 1)) + x53)))) (sv (d_move rfl)) ?_
              refine tS (v := (eI .i64 (IntKind.i64.wrap ((IntKind.i64.wrap ((IntKind.i64.wrap ((x27.size : Int) + 1)) + x53)) + 1)))) (sv (d_bin rfl rfl (bin_add ..))) ?_
              refine tS (v := (.sl 0 0 x80.length 1 false)) (sv (d_move rfl)) ?_
              refine tS (v := (eI .i64 (x80.length : Int))) (sv (d_len rfl (lenS ti22))) ?_
              refine tS (v := (eB (decide ((IntKind.i64.wrap ((IntKind.i64.wrap ((IntKind.i64.wrap ((x27.size : Int) + 1)) + x53)) + 1)) < (x80.length : Int))))) (sv (d_bin rfl rfl (bin_lss ..))) ?_
              refine tS (v := (eB (decide ((IntKind.i64.wrap ((IntKind.i64.wrap ((IntKind.i64.wrap ((x27.size : Int) + 1)) + x53)) + 1)) < (x80.length : Int))))) (sv (d_move rfl)) ?_
              refine tS (v := (.sl 0 0 x80.length 1 false)) (svG rfl rfl h18 (d_move rfl)) ?_
              refine tS (v := (eI .i64 (IntKind.i64.wrap ((IntKind.i64.wrap ((x27.size : Int) + 1)) + x53)))) (svG rfl rfl h18 (d_move rfl)) ?_
              refine tS (v := (.ptr 0 (Int.toNat (IntKind.i64.wrap ((IntKind.i64.wrap ((x27.size : Int) + 1)) + x53))))) (svG rfl rfl h18 (d_ia rfl rfl (iaS rfl ti22 ti5 rfl h_19))) ?_
              refine tS (v := (eI .u8 x89)) (svG rfl rfl h18 (d_load rfl (ldX (E := (eI .u8)) (y := x89) ti5 rfl rfl h_19))) ?_
              refine tS (v := (.sl 0 0 x80.length 1 false)) (svG rfl rfl h18 (d_move rfl)) ?_
              refine tS (v := (eI .i64 (IntKind.i64.wrap ((IntKind.i64.wrap ((x27.size : Int) + 1)) + x53)))) (svG rfl rfl h18 (d_move rfl)) ?_
              refine tS (v := (eI .i64 (IntKind.i64.wrap ((IntKind.i64.wrap ((IntKind.i64.wrap ((x27.size : Int) + 1)) + x53)) + 1)))) (svG rfl rfl h18 (d_bin rfl rfl (bin_add ..))) ?_
              refine tS (v := (.ptr 0 (Int.toNat (IntKind.i64.wrap ((IntKind.i64.wrap ((IntKind.i64.wrap ((x27.size : Int) + 1)) + x53)) + 1))))) (svG rfl rfl h18 (d_ia rfl rfl (iaS rfl ti22 ti5 rfl h_20))) ?_
              refine tS (v := (eI .u8 x94)) (svG rfl rfl h18 (d_load rfl (ldX (E := (eI .u8)) (y := x94) ti5 rfl rfl h_20))) ?_
              refine tS (v := (eB (x89 != x94))) (svG rfl rfl h18 (d_bin rfl rfl (bin_neq ..))) ?_
              refine tS (v := (eB (x89 != x94))) (sv (d_pickT rfl h18 rfl)) ?_
              refine OpsTo.nil ?_
              refine Ex.then_mk ?_
              exact hG4 _ _ _ _ (Ghost.rn [0] rfl rfl (FLe.same rfl (FLe.same rfl (FLe.same rfl (FLe.same rfl FLe.nil)))) (HLe.live rfl (les_map (fun _ => rfl) _) (all_map (fun _ => rfl) _) HLe.nil) rfl) (J4 (x89 != x94) hr)
            · replace hr := iteF hr h18
              refine AB.rg E0 (fun _ => by show drawOk (fun _ => false) _ = true; decide +kernel) ?_
              refine tS (v := (eI .i64 (IntKind.i64.wrap ((IntKind.i64.wrap ((x27.size : Int) + 1)) + x53)))) (sv (d_move rfl)) ?_
              refine tS (v := (eI .i64 (IntKind.i64.wrap ((IntKind.i64.wrap ((IntKind.i64.wrap ((x27.size : Int) + 1)) + x53)) + 1)))) (sv (d_bin rfl rfl (bin_add ..))) ?_
              refine tS (v := (.sl 0 0 x80.length 1 false)) (sv (d_move rfl)) ?_
              refine tS (v := (eI .i64 (x80.length : Int))) (sv (d_len rfl (lenS ti22))) ?_
              refine tS (v := (eB (decide ((IntKind.i64.wrap ((IntKind.i64.wrap ((IntKind.i64.wrap ((x27.size : Int) + 1)) + x53)) + 1)) < (x80.length : Int))))) (sv (d_bin rfl rfl (bin_lss ..))) ?_
              refine tS (v := (eB (decide ((IntKind.i64.wrap ((IntKind.i64.wrap ((IntKind.i64.wrap ((x27.size : Int) + 1)) + x53)) + 1)) < (x80.length : Int))))) (sv (d_move rfl)) ?_
              refine tS (svX rfl rfl h18) ?_
              refine tS (svX rfl rfl h18) ?_
              refine tS (svX rfl rfl h18) ?_
              refine tS (svX rfl rfl h18) ?_
              refine tS (svX rfl rfl h18) ?_
              refine tS (svX rfl rfl h18) ?_
              refine tS (svX rfl rfl h18) ?_
              refine tS (svX rfl rfl h18) ?_
              refine tS (svX rfl rfl h18) ?_
              refine tS (svX rfl rfl h18) ?_
              refine tS (v := (eB false)) (sv (d_pickF rfl h18 rfl)) ?_
              refine OpsTo.nil ?_
              refine Ex.then_mk ?_
              exact hG4 _ _ _ _ (Ghost.rn [0] rfl rfl (FLe.same rfl (FLe.same rfl (FLe.same rfl (FLe.same rfl FLe.nil)))) (HLe.live rfl (les_map (fun _ => rfl) _) (all_map (fun _ => rfl) _) HLe.nil) rfl) (J4 false hr)
          refine AB.seq ?_
          replace hr := bnd hr; obtain ⟨x62, h_21, hr⟩ := hr
          refine AB.rw ?_
          refine wS (v := (.sl 0 0 x56.length 1 false)) (sv (d_move rfl)) ?_
          refine wS (v := (eI .i64 (IntKind.i64.wrap ((IntKind.i64.wrap ((x27.size : Int) + 1)) + x53)))) (sv (d_move rfl)) ?_
          refine wS (v := (.ptr 0 (Int.toNat (IntKind.i64.wrap ((IntKind.i64.wrap ((x27.size : Int) + 1)) + x53))))) (sv (d_ia rfl rfl (iaS rfl ti22 ti5 rfl h_21))) ?_
          refine wS (v := (eI .u8 x62)) (sv (d_load rfl (ldX (E := (eI .u8)) (y := x62) ti5 rfl rfl h_21))) ?_
          refine wS (v := (eI .u8 x59)) (sv (d_move rfl)) ?_
          refine wS (v := (eB (x62 != x59))) (sv (d_bin rfl rfl (bin_neq ..))) ?_
          refine OpsW.nil ?_
          refine Ex.then_mk ?_
          refine AB.cnd rfl (fun h22 => ?_) (fun h22 => ?_)
          · replace hr := iteT hr h22
            refine AB.seq ?_
            refine AB.rw ?_
            refine wS (v := (.sl 0 0 x56.length 1 false)) (sv (d_move rfl)) ?_
            refine wS (v := (eI .i64 (IntKind.i64.wrap ((IntKind.i64.wrap ((x27.size : Int) + 1)) + x53)))) (sv (d_move rfl)) ?_
            refine wS (v := (eI .u8 x59)) (sv (d_move rfl)) ?_
            refine wS (v := (.ptr 0 (Int.toNat (IntKind.i64.wrap ((IntKind.i64.wrap ((x27.size : Int) + 1)) + x53))))) (sv (d_ia rfl rfl (iaS rfl ti22 ti5 rfl h_21))) ?_
            refine wN (h' := [some ⟨5, (x56.set (Int.toNat (IntKind.i64.wrap ((IntKind.i64.wrap ((x27.size : Int) + 1)) + x53))) x59).map (eI .u8)⟩]) (sv (d_store rfl rfl (stXe (E := (eI .u8)) (y := x59) ti5 rfl rfl h_21 rfl rfl rfl))) ?_
            refine OpsW.nil ?_
            refine Ex.then_mk ?_
            refine AB.seq ?_
            replace hr := bnd hr; obtain ⟨x74, h_23, hr⟩ := hr
            refine AB.rw ?_
            refine wS (v := (eS x27)) (sv (d_move rfl)) ?_
            refine wS (v := (.sl 0 0 x56.length 1 false)) (sv (d_move rfl)) ?_
            refine wS (v := (eS (strOf (x56.set (Int.toNat (IntKind.i64.wrap ((IntKind.i64.wrap ((x27.size : Int) + 1)) + x53))) x59)))) (sv (d_conv rfl (convB ti22 ti9 ti5 (srcS (by simp only [len_set, len_cpy]) rfl)))) ?_
            refine wC (v := (.tup [(.sl 1 0 x74.1.length 1 false), (eI .i64 x74.2)])) (h' := [some ⟨5, (x56.set (Int.toNat (IntKind.i64.wrap ((IntKind.i64.wrap ((x27.size : Int) + 1)) + x53))) x59).map (eI .u8)⟩, some ⟨5, x74.1.map (eI .u8)⟩]) rfl (Vm.Fn.lendB (address_Decode_ok N x27 (strOf (x56.set (Int.toNat (IntKind.i64.wrap ((IntKind.i64.wrap ((x27.size : Int) + 1)) + x53))) x59)) x74 h_23) [] (by decide) rfl Lend.nil rfl rfl (by simp only [lent, lendSet, lendSet_nil, rnH, Blk.rn, V.rns, V.rn, sg, List.map_cons, List.map_nil, Option.map_some, Option.map_none, List.drop_succ_cons, List.drop_zero, List.drop_nil, List.set_cons_zero, List.set_cons_succ, List.cons_append, List.nil_append, List.append_nil, rns_eI, rns_eB, rns_eS, rns_eL, List.getElem?_cons_zero, List.getElem?_cons_succ, List.getElem?_nil, List.length_cons, List.length_nil, Nat.reduceAdd, Nat.reduceSub, Nat.add_zero, Nat.zero_add, Nat.sub_self, Nat.sub_zero])) ?_
            refine wS (v := (.tup [(.sl 1 0 x74.1.length 1 false), (eI .i64 x74.2)])) (sv (d_move rfl)) ?_
            refine wS (v := (.sl 1 0 x74.1.length 1 false)) (sv (d_ext rfl rfl)) ?_
            refine wS (v := (eI .i64 x74.2)) (sv (d_ext rfl rfl)) ?_
            refine wS (v := (.sl 1 0 x74.1.length 1 false)) (sv (d_assign rfl)) ?_
            refine wS (v := (eI .i64 x74.2)) (sv (d_assign rfl)) ?_
            refine OpsW.nil ?_
            refine Ex.then_mk ?_
            refine AB.seq ?_
            refine AB.rw ?_
            refine wS (v := (eI .i64 x74.2)) (sv (d_move rfl)) ?_
            refine wS (v := (eB (x74.2 == 0))) (sv (d_bin rfl rfl (bin_eql ..))) ?_
            refine OpsW.nil ?_
            refine Ex.then_mk ?_
            refine AB.cnd rfl (fun h24 => ?_) (fun h24 => ?_)
            · replace hr := iteT hr h24
              refine AB.seq ?_
              refine AB.rw ?_
              refine wS (v := (eB false)) (sv (d_assign rfl)) ?_
              refine OpsW.nil ?_
              refine Ex.then_mk ?_
              refine AB.ret ?_
              refine Ex.then_ret_mk ?_
              obtain rfl := Option.some.inj hr
              exact done_ret (r1 := (eB false)) (res1 Tryd.results7 (rvT rfl)) (Ghost.rn [] rfl rfl (FLe.same rfl FLe.nil) HLe.nil rfl)
            · replace hr := iteF hr h24
              refine AB.skip ?_
              refine Ex.then_mk ?_
              exact hG2 _ _ _ _ (Ghost.rn [] rfl rfl (FLe.same rfl (FLe.same rfl (FLe.same rfl FLe.nil))) HLe.nil rfl) (J2 hr)
          · replace hr := iteF hr h22
            refine AB.skip ?_
            refine Ex.then_mk ?_
            exact hG2 _ _ _ _ (Ghost.rn [] rfl rfl (FLe.same rfl (FLe.same rfl (FLe.same rfl FLe.nil))) HLe.nil rfl) (J2 hr)
      rcases Bool.eq_false_or_eq_true (x31.2 != 0) with h25 | h25
      · replace hr := iteT hr h25
        refine AB.rw ?_
        refine wS (v := (eI .i64 x31.2)) (sv (d_move rfl)) ?_
        refine wS (v := (eB (x31.2 != 0))) (sv (d_bin rfl rfl (bin_neq ..))) ?_
        refine wS (v := (eB (x31.2 != 0))) (sv (d_move rfl)) ?_
        refine wS (svX rfl rfl h25) ?_
        refine wS (svX rfl rfl h25) ?_
        refine wS (svX rfl rfl h25) ?_
        refine wS (svX rfl rfl h25) ?_
        refine wS (svX rfl rfl h25) ?_
        refine wS (svX rfl rfl h25) ?_
        refine wS (v := (eB true)) (sv (d_pickT rfl h25 rfl)) ?_
        refine OpsW.nil ?_
        refine Ex.then_mk ?_
        exact hG1 _ _ _ _ (Ghost.rn [] rfl rfl (FLe.same rfl (FLe.same rfl (FLe.same rfl (FLe.same rfl (FLe.same rfl FLe.nil))))) HLe.nil rfl) (J1 true hr)
      · replace hr := iteF hr h25
        refine AB.rw ?_
        refine wS (v := (eI .i64 x31.2)) (sv (d_move rfl)) ?_
        refine wS (v := (eB (x31.2 != 0))) (sv (d_bin rfl rfl (bin_neq ..))) ?_
        refine wS (v := (eB (x31.2 != 0))) (sv (d_move rfl)) ?_
        refine wS (v := (eS x31.1)) (svG rfl rfl h25 (d_move rfl)) ?_
        refine wS (v := (eI .i64 (x31.1.size : Int))) (svG rfl rfl h25 (d_len rfl (lenT ti9))) ?_
        refine wS (v := (eS x27)) (svG rfl rfl h25 (d_move rfl)) ?_
        refine wS (v := (eI .i64 (x27.size : Int))) (svG rfl rfl h25 (d_len rfl (lenT ti9))) ?_
        refine wS (v := (eI .i64 (IntKind.i64.wrap ((x27.size : Int) + 7)))) (svG rfl rfl h25 (d_bin rfl rfl (bin_add ..))) ?_
        refine wS (v := (eB (decide ((x31.1.size : Int) < (IntKind.i64.wrap ((x27.size : Int) + 7)))))) (svG rfl rfl h25 (d_bin rfl rfl (bin_lss ..))) ?_
        refine wS (v := (eB (decide ((x31.1.size : Int) < (IntKind.i64.wrap ((x27.size : Int) + 7)))))) (sv (d_pickF rfl h25 rfl)) ?_
        refine OpsW.nil ?_
        refine Ex.then_mk ?_
        exact hG1 _ _ _ _ (Ghost.rn [] rfl rfl (FLe.same rfl (FLe.same rfl (FLe.same rfl (FLe.same rfl (FLe.same rfl FLe.nil))))) HLe.nil rfl) (J1 (decide ((x31.1.size : Int) < (IntKind.i64.wrap ((x27.size : Int) + 7)))) hr)
end Go.Proofs.YtidkaiebgjbekaaDoor
