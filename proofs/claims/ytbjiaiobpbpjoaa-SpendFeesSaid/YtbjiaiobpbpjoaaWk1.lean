/- Walks printed by a program of ours (gen.py): each Go function of the list does what its shallow function says. -/
import Derived.Test.YtbjiaiobpbpjoaaSh
import Derived.Test.YtbjiaiobpbpjoaaTyF
set_option linter.unusedVariables false
set_option linter.unusedSimpArgs false
namespace Go.Proofs.Ytbjiaiobpbpjoaa
open Go Go.Vm
set_option maxRecDepth 20000 in
set_option maxHeartbeats 1000000 in
theorem codec_lowest_ok (N : Nat) (vn : Int) (width : Int) (r : (List Int)) (hr : codec_lowest N vn width = some r) :
    Vm.Fn Try.prog 33 [] [(eI .u64 vn), (eI .i64 width)] (.sl 0 0 r.length 1 false) [some ⟨5, r.map (eI .u8)⟩] := by
  refine fn_ab Try.func33 rfl (by kernel_rfl) Try.ntmps33 (Nat.le_of_ble_eq_true rfl) rfl (fr := [(0, (eI .u64 vn)), (1, (eI .i64 width))]) rfl ?_
  unfold codec_lowest at hr
  refine AB.seq ?_
  refine AB.rw ?_
  refine wS (v := (.row (some true) 1 [])) (sv (d_assign rfl)) ?_
  refine OpsW.nil ?_
  refine Ex.then_mk ?_
  refine AB.seq ?_
  replace hr := bnd hr; obtain ⟨x8, h_1, hr⟩ := hr
  refine AB.rw ?_
  refine wS (v := (eI .i64 width)) (sv (d_move rfl)) ?_
  refine wS (v := (.sl 0 0 x8.length 1 false)) (h' := [some ⟨5, x8.map (eI .u8)⟩]) (sv (d_mk rfl rfl (mkS (E := (eI .u8)) (y := 0) ti42 ti5 ⟨Nat.le_of_ble_eq_true rfl, rfl, rfl⟩ rfl rfl rfl h_1 rfl rfl))) ?_
  refine wS (v := (.sl 0 0 x8.length 1 false)) (sv (d_assign rfl)) ?_
  refine OpsW.nil ?_
  refine Ex.then_mk ?_
  refine AB.seq_g fun K1 hK1 hG1 => ?_
  have J1 : ∀ (l0 : List Int), codec_lowest_J1 N l0 = some r → K1 (mkF 23 [(5, (.sl 0 0 l0.length 1 false))]) [some ⟨5, l0.map (eI .u8)⟩] := by
    intro l0 hr
    unfold codec_lowest_J1 at hr
    refine hK1 _ _ ?_
    refine AB.seq ?_
    refine AB.rw ?_
    refine wS (v := (.sl 0 0 l0.length 1 false)) (sv (d_move rfl)) ?_
    refine wS (v := (.sl 0 0 l0.length 1 false)) (sv (d_assign rfl)) ?_
    refine OpsW.nil ?_
    refine Ex.then_mk ?_
    refine AB.ret ?_
    obtain rfl := Option.some.inj hr
    exact done_ret (r1 := (.sl 0 0 l0.length 1 false)) (res1 Try.results33 (rvT rfl)) (Ghost.rn [0] rfl rfl (FLe.same rfl FLe.nil) (HLe.live rfl (les_map (fun _ => rfl) _) (all_map (fun _ => rfl) _) HLe.nil) rfl)
  refine AB.seq ?_
  refine AB.rw ?_
  refine wS (v := (eI .i64 width)) (sv (d_move rfl)) ?_
  refine wS (v := (eI .i64 0)) (sv (d_move rfl)) ?_
  refine OpsW.nil ?_
  refine Ex.then_mk ?_
  replace hr := bnd hr; obtain ⟨res2, hL2, hr⟩ := hr
  refine AB.block ?_
  refine AB.loopN (fun m s h => ∃ (x10 : Int) (l0_1 : List Int), codec_lowest_L2 N vn width m x10 l0_1 = some res2 ∧ Ghost 0 s h (mkF 23 [(0, (eI .u64 vn)), (5, (.sl 0 0 l0_1.length 1 false)), (9, (eI .i64 width)), (10, (eI .i64 x10))]) [some ⟨5, l0_1.map (eI .u8)⟩]) (n := N) ⟨0, x8, hL2, (Ghost.rn [0] rfl rfl (FLe.same rfl (FLe.same rfl (FLe.same rfl (FLe.same rfl FLe.nil)))) (HLe.live rfl (les_map (fun _ => rfl) _) (all_map (fun _ => rfl) _) HLe.nil) rfl)⟩ (by rintro s h ⟨_, _, h0, _⟩; simp [codec_lowest_L2] at h0) ?_
  rintro m2 s h ⟨x10, l0_1, hr2, hg⟩
  refine AB.ghost hg ?_
  clear hg hL2
  rw [codec_lowest_L2] at hr2
  refine AB.seq ?_
  refine AB.rw ?_
  refine wS (v := (eB (decide (x10 < width)))) (sv (d_bin rfl rfl (bin_lss ..))) ?_
  refine OpsW.nil ?_
  refine Ex.then_mk ?_
  refine AB.seq ?_
  refine AB.cnd rfl (fun h2 => ?_) (fun h2 => ?_)
  · replace hr2 := iteT hr2 h2
    refine AB.skip ?_
    refine Ex.then_mk ?_
    refine AB.seq ?_
    refine AB.block ?_
    refine AB.seq ?_
    refine AB.rw ?_
    refine wS (v := (eI .i64 x10)) (sv (d_move rfl)) ?_
    refine wS (v := (eI .i64 x10)) (sv (d_assign rfl)) ?_
    refine OpsW.nil ?_
    refine Ex.then_mk ?_
    replace hr2 := bnd hr2; obtain ⟨x18, h_3, hr2⟩ := hr2
    replace hr2 := bnd hr2; obtain ⟨x20, h_4, hr2⟩ := hr2
    refine AB.rw ?_
    refine wS (v := (.sl 0 0 l0_1.length 1 false)) (sv (d_move rfl)) ?_
    refine wS (v := (eI .i64 x10)) (sv (d_move rfl)) ?_
    refine wS (v := (eI .u64 vn)) (sv (d_move rfl)) ?_
    refine wS (v := (eI .i64 x10)) (sv (d_move rfl)) ?_
    refine wS (v := (eI .i64 (IntKind.i64.wrap (8 * x10)))) (sv (d_bin rfl rfl (bin_mul ..))) ?_
    refine wS (v := (eI .u64 x18)) (sv (d_bin rfl rfl (bin_shr' _ _ _ _ h_3))) ?_
    refine wS (v := (eI .u8 (IntKind.u8.wrap x18))) (sv (d_conv rfl (conv_int _ ⟨_, ti57⟩ ti5 rfl))) ?_
    refine wS (v := (.ptr 0 (Int.toNat x10))) (sv (d_ia rfl rfl (iaS rfl ti42 ti5 rfl h_4))) ?_
    refine wN (h' := [some ⟨5, (l0_1.set (Int.toNat x10) (IntKind.u8.wrap x18)).map (eI .u8)⟩]) (sv (d_store rfl rfl (stXe (E := (eI .u8)) (y := IntKind.u8.wrap x18) ti5 rfl rfl h_4 rfl rfl rfl))) ?_
    refine OpsW.nil ?_
    refine Ex.inBlock_mk ?_
    refine Ex.then_mk ?_
    refine AB.rw ?_
    refine wS (v := (eI .i64 (IntKind.i64.wrap (x10 + 1)))) (sv (d_bin rfl rfl (bin_add ..))) ?_
    refine wS (v := (eI .i64 (IntKind.i64.wrap (x10 + 1)))) (sv (d_move rfl)) ?_
    refine OpsW.nil ?_
    refine Ex.then_mk ?_
    exact ⟨IntKind.i64.wrap (x10 + 1), l0_1.set (Int.toNat x10) (IntKind.u8.wrap x18), hr2, (Ghost.rn [0] rfl rfl (FLe.same rfl (FLe.le rfl (by first | exact V.le_refl _ _ | (simp only [len_set, len_cpy]; exact V.le_refl _ _)) (FLe.same rfl (FLe.same rfl FLe.nil)))) (HLe.live rfl (les_map (fun _ => rfl) _) (all_map (fun _ => rfl) _) HLe.nil) rfl)⟩
  · replace hr2 := iteF hr2 h2
    refine AB.exit ?_
    refine Ex.then_exit_mk ?_
    refine Ex.then_exit_mk ?_
    refine Ex.inBlock_same_mk ?_
    obtain rfl := Option.some.inj hr2
    refine Ex.then_mk ?_
    exact hG1 _ _ _ _ (Ghost.rn [0] rfl rfl (FLe.same rfl FLe.nil) (HLe.live rfl (les_map (fun _ => rfl) _) (all_map (fun _ => rfl) _) HLe.nil) rfl) (J1 l0_1 hr)
set_option maxRecDepth 20000 in
set_option maxHeartbeats 1000000 in
theorem codec_extend_ok (N : Nat) (b : List Int) (vs : List Int) (r : (List Int)) (hr : codec_extend N b vs = some r) :
    Vm.Fn Try.prog 32 [] [(.row none 1 (b.map (eI .u8))), (.row none 1 (vs.map (eI .u8)))] (.sl 0 0 r.length 1 false) [some ⟨5, r.map (eI .u8)⟩] := by
  refine fn_ab Try.func32 rfl (by kernel_rfl) Try.ntmps32 (Nat.le_of_ble_eq_true rfl) rfl (fr := [(0, (.row none 1 (b.map (eI .u8)))), (1, (.row none 1 (vs.map (eI .u8))))]) rfl ?_
  unfold codec_extend at hr
  refine AB.seq ?_
  refine AB.rw ?_
  refine wS (v := (.row (some true) 1 [])) (sv (d_assign rfl)) ?_
  refine OpsW.nil ?_
  refine Ex.then_mk ?_
  refine AB.seq ?_
  replace hr := bnd hr; obtain ⟨x11, h_1, hr⟩ := hr
  refine AB.rw ?_
  refine wS (v := (.row none 1 (b.map (eI .u8)))) (sv (d_move rfl)) ?_
  refine wS (v := (eI .i64 (b.length : Int))) (sv (d_len rfl (lenR ti42))) ?_
  refine wS (v := (.row none 1 (vs.map (eI .u8)))) (sv (d_move rfl)) ?_
  refine wS (v := (eI .i64 (vs.length : Int))) (sv (d_len rfl (lenR ti42))) ?_
  refine wS (v := (eI .i64 (IntKind.i64.wrap ((b.length : Int) + (vs.length : Int))))) (sv (d_bin rfl rfl (bin_add ..))) ?_
  refine wS (v := (.sl 0 0 0 1 false)) (h' := [some ⟨5, x11.map (eI .u8)⟩]) (sv (d_mk rfl rfl (mkC (E := (eI .u8)) (y := 0) ti42 ti5 ⟨Nat.le_of_ble_eq_true rfl, rfl, rfl⟩ rfl rfl rfl h_1 rfl rfl))) ?_
  refine wS (v := (.sl 0 0 0 1 false)) (sv (d_assign rfl)) ?_
  refine OpsW.nil ?_
  refine Ex.then_mk ?_
  refine AB.seq ?_
  replace hr := bnd hr; obtain ⟨x14, h_2, hr⟩ := hr
  refine AB.rw ?_
  refine wS (v := (.sl 0 0 0 1 false)) (sv (d_move rfl)) ?_
  refine wS (v := (.row none 1 (b.map (eI .u8)))) (sv (d_move rfl)) ?_
  refine wS (v := (.sl 1 0 x14.length 1 false)) (h' := [none, some ⟨5, x14.map (eI .u8)⟩]) (sv (d_append rfl rfl (appP (E := (eI .u8)) (Nat.zero_le _) ti42 ti5 ⟨rfl, rfl, Nat.le_of_ble_eq_true rfl⟩ rfl (srcR (fun _ => rfl)) h_2 rfl rfl))) ?_
  refine wS (v := (.sl 1 0 x14.length 1 false)) (sv (d_assign rfl)) ?_
  refine OpsW.nil ?_
  refine Ex.then_mk ?_
  refine AB.seq ?_
  replace hr := bnd hr; obtain ⟨x17, h_3, hr⟩ := hr
  refine AB.rw ?_
  refine wS (v := (.sl 1 0 x14.length 1 false)) (sv (d_move rfl)) ?_
  refine wS (v := (.row none 1 (vs.map (eI .u8)))) (sv (d_move rfl)) ?_
  refine wS (v := (.sl 2 0 x17.length 1 false)) (h' := [none, none, some ⟨5, x17.map (eI .u8)⟩]) (sv (d_append rfl rfl (appS (E := (eI .u8)) rfl ti42 ti5 ⟨rfl, rfl, Nat.le_of_ble_eq_true rfl⟩ rfl (srcR (fun _ => rfl)) h_3 rfl rfl))) ?_
  refine wS (v := (.sl 2 0 x17.length 1 false)) (sv (d_assign rfl)) ?_
  refine OpsW.nil ?_
  refine Ex.then_mk ?_
  refine AB.ret ?_
  obtain rfl := Option.some.inj hr
  exact done_ret (r1 := (.sl 2 0 x17.length 1 false)) (res1 Try.results32 (rvT rfl)) (Ghost.rn [2] rfl rfl (FLe.same rfl FLe.nil) (HLe.live rfl (les_map (fun _ => rfl) _) (all_map (fun _ => rfl) _) HLe.nil) rfl)
set_option maxRecDepth 20000 in
set_option maxHeartbeats 1000000 in
theorem codec_AppendU32_ok (N : Nat) (b : List Int) (vn : Int) (r : (List Int)) (hr : codec_AppendU32 N b vn = some r) :
    Vm.Fn Try.prog 22 [] [(.row none 1 (b.map (eI .u8))), (eI .u32 vn)] (.sl 0 0 r.length 1 false) [some ⟨5, r.map (eI .u8)⟩] := by
  refine fn_ab Try.func22 rfl (by kernel_rfl) Try.ntmps22 (Nat.le_of_ble_eq_true rfl) rfl (fr := [(0, (.row none 1 (b.map (eI .u8)))), (1, (eI .u32 vn))]) rfl ?_
  unfold codec_AppendU32 at hr
  refine AB.seq ?_
  refine AB.rw ?_
  refine wS (v := (.row (some true) 1 [])) (sv (d_assign rfl)) ?_
  refine OpsW.nil ?_
  refine Ex.then_mk ?_
  refine AB.seq ?_
  replace hr := bnd hr; obtain ⟨x8, h_1, hr⟩ := hr
  replace hr := bnd hr; obtain ⟨x9, h_2, hr⟩ := hr
  refine AB.rw ?_
  refine wS (v := (.row none 1 (b.map (eI .u8)))) (sv (d_move rfl)) ?_
  refine wS (v := (eI .u32 vn)) (sv (d_move rfl)) ?_
  refine wS (v := (eI .u64 (IntKind.u64.wrap vn))) (sv (d_conv rfl (conv_int _ ⟨_, ti22⟩ ti57 rfl))) ?_
  refine wC (v := (.sl 0 0 x8.length 1 false)) (h' := [some ⟨5, x8.map (eI .u8)⟩]) rfl (Vm.Fn.lendB (codec_lowest_ok N (IntKind.u64.wrap vn) 4 x8 h_1) [] (by decide) rfl Lend.nil rfl rfl (by simp only [lent, lendSet, lendSet_nil, rnH, Blk.rn, V.rns, V.rn, sg, List.map_cons, List.map_nil, Option.map_some, Option.map_none, List.drop_succ_cons, List.drop_zero, List.drop_nil, List.set_cons_zero, List.set_cons_succ, List.cons_append, List.nil_append, List.append_nil, rns_eI, rns_eB, rns_eS, rns_eL, rns_ar4, rns_ar8, rns_ar20, rns_ar32, rns_ar64, List.getElem?_cons_zero, List.getElem?_cons_succ, List.getElem?_nil, List.length_cons, List.length_nil, Nat.reduceAdd, Nat.reduceSub, Nat.add_zero, Nat.zero_add, Nat.sub_self, Nat.sub_zero])) ?_
  refine wC (v := (.sl 1 0 x9.length 1 false)) (h' := [some ⟨5, x8.map (eI .u8)⟩, some ⟨5, x9.map (eI .u8)⟩]) rfl (Vm.Fn.lendR (codec_extend_ok N b x8 x9 h_2) [] [0] (by decide) rfl (by decide) Lend.nil (Brw.same rfl (Brw.row (exp_slT rfl rfl (fun _ => rfl)) Brw.nil)) rfl (rfB.live (rfs_map (fun _ => rfl) _) rfB.nil) rfl (by simp only [lent, lendSet, lendSet_nil, rnH, Blk.rn, V.rns, V.rn, sg, List.map_cons, List.map_nil, Option.map_some, Option.map_none, List.drop_succ_cons, List.drop_zero, List.drop_nil, List.set_cons_zero, List.set_cons_succ, List.cons_append, List.nil_append, List.append_nil, rns_eI, rns_eB, rns_eS, rns_eL, rns_ar4, rns_ar8, rns_ar20, rns_ar32, rns_ar64, List.getElem?_cons_zero, List.getElem?_cons_succ, List.getElem?_nil, List.length_cons, List.length_nil, Nat.reduceAdd, Nat.reduceSub, Nat.add_zero, Nat.zero_add, Nat.sub_self, Nat.sub_zero])) ?_
  refine wS (v := (.sl 1 0 x9.length 1 false)) (sv (d_assign rfl)) ?_
  refine OpsW.nil ?_
  refine Ex.then_mk ?_
  refine AB.ret ?_
  obtain rfl := Option.some.inj hr
  exact done_ret (r1 := (.sl 1 0 x9.length 1 false)) (res1 Try.results22 (rvT rfl)) (Ghost.rn [1] rfl rfl (FLe.same rfl FLe.nil) (HLe.live rfl (les_map (fun _ => rfl) _) (all_map (fun _ => rfl) _) HLe.nil) rfl)
set_option maxRecDepth 20000 in
set_option maxHeartbeats 1000000 in
theorem codec_AppendU16_ok (N : Nat) (b : List Int) (vn : Int) (r : (List Int)) (hr : codec_AppendU16 N b vn = some r) :
    Vm.Fn Try.prog 34 [] [(.row none 1 (b.map (eI .u8))), (eI .u16 vn)] (.sl 0 0 r.length 1 false) [some ⟨5, r.map (eI .u8)⟩] := by
  refine fn_ab Try.func34 rfl (by kernel_rfl) Try.ntmps34 (Nat.le_of_ble_eq_true rfl) rfl (fr := [(0, (.row none 1 (b.map (eI .u8)))), (1, (eI .u16 vn))]) rfl ?_
  unfold codec_AppendU16 at hr
  refine AB.seq ?_
  refine AB.rw ?_
  refine wS (v := (.row (some true) 1 [])) (sv (d_assign rfl)) ?_
  refine OpsW.nil ?_
  refine Ex.then_mk ?_
  refine AB.seq ?_
  replace hr := bnd hr; obtain ⟨x8, h_1, hr⟩ := hr
  replace hr := bnd hr; obtain ⟨x9, h_2, hr⟩ := hr
  refine AB.rw ?_
  refine wS (v := (.row none 1 (b.map (eI .u8)))) (sv (d_move rfl)) ?_
  refine wS (v := (eI .u16 vn)) (sv (d_move rfl)) ?_
  refine wS (v := (eI .u64 (IntKind.u64.wrap vn))) (sv (d_conv rfl (conv_int _ ⟨_, ti64⟩ ti57 rfl))) ?_
  refine wC (v := (.sl 0 0 x8.length 1 false)) (h' := [some ⟨5, x8.map (eI .u8)⟩]) rfl (Vm.Fn.lendB (codec_lowest_ok N (IntKind.u64.wrap vn) 2 x8 h_1) [] (by decide) rfl Lend.nil rfl rfl (by simp only [lent, lendSet, lendSet_nil, rnH, Blk.rn, V.rns, V.rn, sg, List.map_cons, List.map_nil, Option.map_some, Option.map_none, List.drop_succ_cons, List.drop_zero, List.drop_nil, List.set_cons_zero, List.set_cons_succ, List.cons_append, List.nil_append, List.append_nil, rns_eI, rns_eB, rns_eS, rns_eL, rns_ar4, rns_ar8, rns_ar20, rns_ar32, rns_ar64, List.getElem?_cons_zero, List.getElem?_cons_succ, List.getElem?_nil, List.length_cons, List.length_nil, Nat.reduceAdd, Nat.reduceSub, Nat.add_zero, Nat.zero_add, Nat.sub_self, Nat.sub_zero])) ?_
  refine wC (v := (.sl 1 0 x9.length 1 false)) (h' := [some ⟨5, x8.map (eI .u8)⟩, some ⟨5, x9.map (eI .u8)⟩]) rfl (Vm.Fn.lendR (codec_extend_ok N b x8 x9 h_2) [] [0] (by decide) rfl (by decide) Lend.nil (Brw.same rfl (Brw.row (exp_slT rfl rfl (fun _ => rfl)) Brw.nil)) rfl (rfB.live (rfs_map (fun _ => rfl) _) rfB.nil) rfl (by simp only [lent, lendSet, lendSet_nil, rnH, Blk.rn, V.rns, V.rn, sg, List.map_cons, List.map_nil, Option.map_some, Option.map_none, List.drop_succ_cons, List.drop_zero, List.drop_nil, List.set_cons_zero, List.set_cons_succ, List.cons_append, List.nil_append, List.append_nil, rns_eI, rns_eB, rns_eS, rns_eL, rns_ar4, rns_ar8, rns_ar20, rns_ar32, rns_ar64, List.getElem?_cons_zero, List.getElem?_cons_succ, List.getElem?_nil, List.length_cons, List.length_nil, Nat.reduceAdd, Nat.reduceSub, Nat.add_zero, Nat.zero_add, Nat.sub_self, Nat.sub_zero])) ?_
  refine wS (v := (.sl 1 0 x9.length 1 false)) (sv (d_assign rfl)) ?_
  refine OpsW.nil ?_
  refine Ex.then_mk ?_
  refine AB.ret ?_
  obtain rfl := Option.some.inj hr
  exact done_ret (r1 := (.sl 1 0 x9.length 1 false)) (res1 Try.results34 (rvT rfl)) (Ghost.rn [1] rfl rfl (FLe.same rfl FLe.nil) (HLe.live rfl (les_map (fun _ => rfl) _) (all_map (fun _ => rfl) _) HLe.nil) rfl)
set_option maxRecDepth 20000 in
set_option maxHeartbeats 1000000 in
theorem codec_AppendU64_ok (N : Nat) (b : List Int) (vn : Int) (r : (List Int)) (hr : codec_AppendU64 N b vn = some r) :
    Vm.Fn Try.prog 25 [] [(.row none 1 (b.map (eI .u8))), (eI .u64 vn)] (.sl 0 0 r.length 1 false) [some ⟨5, r.map (eI .u8)⟩] := by
  refine fn_ab Try.func25 rfl (by kernel_rfl) Try.ntmps25 (Nat.le_of_ble_eq_true rfl) rfl (fr := [(0, (.row none 1 (b.map (eI .u8)))), (1, (eI .u64 vn))]) rfl ?_
  unfold codec_AppendU64 at hr
  refine AB.seq ?_
  refine AB.rw ?_
  refine wS (v := (.row (some true) 1 [])) (sv (d_assign rfl)) ?_
  refine OpsW.nil ?_
  refine Ex.then_mk ?_
  refine AB.seq ?_
  replace hr := bnd hr; obtain ⟨x7, h_1, hr⟩ := hr
  replace hr := bnd hr; obtain ⟨x8, h_2, hr⟩ := hr
  refine AB.rw ?_
  refine wS (v := (.row none 1 (b.map (eI .u8)))) (sv (d_move rfl)) ?_
  refine wS (v := (eI .u64 vn)) (sv (d_move rfl)) ?_
  refine wC (v := (.sl 0 0 x7.length 1 false)) (h' := [some ⟨5, x7.map (eI .u8)⟩]) rfl (Vm.Fn.lendB (codec_lowest_ok N vn 8 x7 h_1) [] (by decide) rfl Lend.nil rfl rfl (by simp only [lent, lendSet, lendSet_nil, rnH, Blk.rn, V.rns, V.rn, sg, List.map_cons, List.map_nil, Option.map_some, Option.map_none, List.drop_succ_cons, List.drop_zero, List.drop_nil, List.set_cons_zero, List.set_cons_succ, List.cons_append, List.nil_append, List.append_nil, rns_eI, rns_eB, rns_eS, rns_eL, rns_ar4, rns_ar8, rns_ar20, rns_ar32, rns_ar64, List.getElem?_cons_zero, List.getElem?_cons_succ, List.getElem?_nil, List.length_cons, List.length_nil, Nat.reduceAdd, Nat.reduceSub, Nat.add_zero, Nat.zero_add, Nat.sub_self, Nat.sub_zero])) ?_
  refine wC (v := (.sl 1 0 x8.length 1 false)) (h' := [some ⟨5, x7.map (eI .u8)⟩, some ⟨5, x8.map (eI .u8)⟩]) rfl (Vm.Fn.lendR (codec_extend_ok N b x7 x8 h_2) [] [0] (by decide) rfl (by decide) Lend.nil (Brw.same rfl (Brw.row (exp_slT rfl rfl (fun _ => rfl)) Brw.nil)) rfl (rfB.live (rfs_map (fun _ => rfl) _) rfB.nil) rfl (by simp only [lent, lendSet, lendSet_nil, rnH, Blk.rn, V.rns, V.rn, sg, List.map_cons, List.map_nil, Option.map_some, Option.map_none, List.drop_succ_cons, List.drop_zero, List.drop_nil, List.set_cons_zero, List.set_cons_succ, List.cons_append, List.nil_append, List.append_nil, rns_eI, rns_eB, rns_eS, rns_eL, rns_ar4, rns_ar8, rns_ar20, rns_ar32, rns_ar64, List.getElem?_cons_zero, List.getElem?_cons_succ, List.getElem?_nil, List.length_cons, List.length_nil, Nat.reduceAdd, Nat.reduceSub, Nat.add_zero, Nat.zero_add, Nat.sub_self, Nat.sub_zero])) ?_
  refine wS (v := (.sl 1 0 x8.length 1 false)) (sv (d_assign rfl)) ?_
  refine OpsW.nil ?_
  refine Ex.then_mk ?_
  refine AB.ret ?_
  obtain rfl := Option.some.inj hr
  exact done_ret (r1 := (.sl 1 0 x8.length 1 false)) (res1 Try.results25 (rvT rfl)) (Ghost.rn [1] rfl rfl (FLe.same rfl FLe.nil) (HLe.live rfl (les_map (fun _ => rfl) _) (all_map (fun _ => rfl) _) HLe.nil) rfl)
set_option maxRecDepth 20000 in
set_option maxHeartbeats 1000000 in
theorem codec_AppendSize_ok (N : Nat) (b : List Int) (vn : Int) (r : (List Int)) (hr : codec_AppendSize N b vn = some r) :
    Vm.Fn Try.prog 23 [] [(.row none 1 (b.map (eI .u8))), (eI .u64 vn)] (.sl 0 0 r.length 1 false) [some ⟨5, r.map (eI .u8)⟩] := by
  refine fn_ab Try.func23 rfl (by kernel_rfl) Try.ntmps23 (Nat.le_of_ble_eq_true rfl) rfl (fr := [(0, (.row none 1 (b.map (eI .u8)))), (1, (eI .u64 vn))]) rfl ?_
  unfold codec_AppendSize at hr
  refine AB.seq ?_
  refine AB.rw ?_
  refine wS (v := (.row (some true) 1 [])) (sv (d_assign rfl)) ?_
  refine OpsW.nil ?_
  refine Ex.then_mk ?_
  refine AB.seq ?_
  refine AB.block ?_
  refine AB.seq ?_
  refine AB.rw ?_
  refine wS (v := (eI .u64 vn)) (sv (d_move rfl)) ?_
  refine wS (v := (eB (decide (vn < 253)))) (sv (d_bin rfl rfl (bin_lss ..))) ?_
  refine wS (v := (eB (decide (vn < 253)))) (sv (d_assign rfl)) ?_
  refine OpsW.nil ?_
  refine Ex.then_mk ?_
  refine AB.cnd rfl (fun h1 => ?_) (fun h1 => ?_)
  · replace hr := iteT hr h1
    refine AB.seq ?_
    replace hr := bnd hr; obtain ⟨x12, h_2, hr⟩ := hr
    refine AB.rw ?_
    refine wS (v := (.row none 1 (b.map (eI .u8)))) (sv (d_move rfl)) ?_
    refine wS (v := (eI .u64 vn)) (sv (d_move rfl)) ?_
    refine wS (v := (eI .u8 (IntKind.u8.wrap vn))) (sv (d_conv rfl (conv_int _ ⟨_, ti57⟩ ti5 rfl))) ?_
    refine wS (v := (.sl 0 0 1 1 false)) (h' := [some ⟨5, [IntKind.u8.wrap vn].map (eI .u8)⟩]) (sv (d_buildS rfl (bldL1 (xs := [IntKind.u8.wrap vn].map (eI .u8)) ti42 ti5 (Nat.le_of_ble_eq_true rfl) (Nat.le_of_ble_eq_true rfl) rfl rfl rfl rfl rfl rfl rfl))) ?_
    refine wC (v := (.sl 1 0 x12.length 1 false)) (h' := [some ⟨5, [IntKind.u8.wrap vn].map (eI .u8)⟩, some ⟨5, x12.map (eI .u8)⟩]) rfl (Vm.Fn.lendR (codec_extend_ok N b [IntKind.u8.wrap vn] x12 h_2) [] [0] (by decide) rfl (by decide) Lend.nil (Brw.same rfl (Brw.row (exp_slT rfl rfl (fun _ => rfl)) Brw.nil)) rfl (rfB.live (rfs_map (fun _ => rfl) _) rfB.nil) rfl (by simp only [lent, lendSet, lendSet_nil, rnH, Blk.rn, V.rns, V.rn, sg, List.map_cons, List.map_nil, Option.map_some, Option.map_none, List.drop_succ_cons, List.drop_zero, List.drop_nil, List.set_cons_zero, List.set_cons_succ, List.cons_append, List.nil_append, List.append_nil, rns_eI, rns_eB, rns_eS, rns_eL, rns_ar4, rns_ar8, rns_ar20, rns_ar32, rns_ar64, List.getElem?_cons_zero, List.getElem?_cons_succ, List.getElem?_nil, List.length_cons, List.length_nil, Nat.reduceAdd, Nat.reduceSub, Nat.add_zero, Nat.zero_add, Nat.sub_self, Nat.sub_zero])) ?_
    refine wS (v := (.sl 1 0 x12.length 1 false)) (sv (d_assign rfl)) ?_
    refine OpsW.nil ?_
    refine Ex.then_mk ?_
    refine AB.ret ?_
    refine Ex.inBlock_ret_mk ?_
    refine Ex.then_ret_mk ?_
    obtain rfl := Option.some.inj hr
    exact done_ret (r1 := (.sl 1 0 x12.length 1 false)) (res1 Try.results23 (rvT rfl)) (Ghost.rn [1] rfl rfl (FLe.same rfl FLe.nil) (HLe.live rfl (les_map (fun _ => rfl) _) (all_map (fun _ => rfl) _) HLe.nil) rfl)
  · replace hr := iteF hr h1
    refine AB.seq ?_
    refine AB.rw ?_
    refine wS (v := (eI .u64 vn)) (sv (d_move rfl)) ?_
    refine wS (v := (eB (decide (vn < 65536)))) (sv (d_bin rfl rfl (bin_lss ..))) ?_
    refine wS (v := (eB (decide (vn < 65536)))) (sv (d_assign rfl)) ?_
    refine OpsW.nil ?_
    refine Ex.then_mk ?_
    refine AB.cnd rfl (fun h3 => ?_) (fun h3 => ?_)
    · replace hr := iteT hr h3
      refine AB.seq ?_
      replace hr := bnd hr; obtain ⟨x18, h_4, hr⟩ := hr
      replace hr := bnd hr; obtain ⟨x21, h_5, hr⟩ := hr
      refine AB.rw ?_
      refine wS (v := (.row none 1 (b.map (eI .u8)))) (sv (d_move rfl)) ?_
      refine wS (v := (.sl 0 0 1 1 false)) (h' := [some ⟨5, [253].map (eI .u8)⟩]) (sv (d_buildS rfl (bldL1 (xs := [253].map (eI .u8)) ti42 ti5 (Nat.le_of_ble_eq_true rfl) (Nat.le_of_ble_eq_true rfl) rfl rfl rfl rfl rfl rfl rfl))) ?_
      refine wC (v := (.sl 1 0 x18.length 1 false)) (h' := [some ⟨5, [253].map (eI .u8)⟩, some ⟨5, x18.map (eI .u8)⟩]) rfl (Vm.Fn.lendR (codec_extend_ok N b [253] x18 h_4) [] [0] (by decide) rfl (by decide) Lend.nil (Brw.same rfl (Brw.row (exp_slT rfl rfl (fun _ => rfl)) Brw.nil)) rfl (rfB.live (rfs_map (fun _ => rfl) _) rfB.nil) rfl (by simp only [lent, lendSet, lendSet_nil, rnH, Blk.rn, V.rns, V.rn, sg, List.map_cons, List.map_nil, Option.map_some, Option.map_none, List.drop_succ_cons, List.drop_zero, List.drop_nil, List.set_cons_zero, List.set_cons_succ, List.cons_append, List.nil_append, List.append_nil, rns_eI, rns_eB, rns_eS, rns_eL, rns_ar4, rns_ar8, rns_ar20, rns_ar32, rns_ar64, List.getElem?_cons_zero, List.getElem?_cons_succ, List.getElem?_nil, List.length_cons, List.length_nil, Nat.reduceAdd, Nat.reduceSub, Nat.add_zero, Nat.zero_add, Nat.sub_self, Nat.sub_zero])) ?_
      refine wS (v := (eI .u64 vn)) (sv (d_move rfl)) ?_
      refine wS (v := (eI .u16 (IntKind.u16.wrap vn))) (sv (d_conv rfl (conv_int _ ⟨_, ti57⟩ ti64 rfl))) ?_
      refine wC (v := (.sl 2 0 x21.length 1 false)) (h' := [some ⟨5, [253].map (eI .u8)⟩, some ⟨5, x18.map (eI .u8)⟩, some ⟨5, x21.map (eI .u8)⟩]) rfl (Vm.Fn.lendR (codec_AppendU16_ok N x18 (IntKind.u16.wrap vn) x21 h_5) [] [1] (by decide) rfl (by decide) Lend.nil (Brw.row (exp_slT rfl rfl (fun _ => rfl)) (Brw.same rfl Brw.nil)) rfl (rfB.live (rfs_map (fun _ => rfl) _) rfB.nil) rfl (by simp only [lent, lendSet, lendSet_nil, rnH, Blk.rn, V.rns, V.rn, sg, List.map_cons, List.map_nil, Option.map_some, Option.map_none, List.drop_succ_cons, List.drop_zero, List.drop_nil, List.set_cons_zero, List.set_cons_succ, List.cons_append, List.nil_append, List.append_nil, rns_eI, rns_eB, rns_eS, rns_eL, rns_ar4, rns_ar8, rns_ar20, rns_ar32, rns_ar64, List.getElem?_cons_zero, List.getElem?_cons_succ, List.getElem?_nil, List.length_cons, List.length_nil, Nat.reduceAdd, Nat.reduceSub, Nat.add_zero, Nat.zero_add, Nat.sub_self, Nat.sub_zero])) ?_
      refine wS (v := (.sl 2 0 x21.length 1 false)) (sv (d_assign rfl)) ?_
      refine OpsW.nil ?_
      refine Ex.then_mk ?_
      refine AB.ret ?_
      refine Ex.inBlock_ret_mk ?_
      refine Ex.then_ret_mk ?_
      obtain rfl := Option.some.inj hr
      exact done_ret (r1 := (.sl 2 0 x21.length 1 false)) (res1 Try.results23 (rvT rfl)) (Ghost.rn [2] rfl rfl (FLe.same rfl FLe.nil) (HLe.live rfl (les_map (fun _ => rfl) _) (all_map (fun _ => rfl) _) HLe.nil) rfl)
    · replace hr := iteF hr h3
      refine AB.seq ?_
      refine AB.rw ?_
      refine wS (v := (eI .u64 vn)) (sv (d_move rfl)) ?_
      refine wS (v := (eB (decide (vn < 4294967296)))) (sv (d_bin rfl rfl (bin_lss ..))) ?_
      refine wS (v := (eB (decide (vn < 4294967296)))) (sv (d_assign rfl)) ?_
      refine OpsW.nil ?_
      refine Ex.then_mk ?_
      refine AB.cnd rfl (fun h6 => ?_) (fun h6 => ?_)
      · replace hr := iteT hr h6
        refine AB.seq ?_
        replace hr := bnd hr; obtain ⟨x27, h_7, hr⟩ := hr
        replace hr := bnd hr; obtain ⟨x30, h_8, hr⟩ := hr
        refine AB.rw ?_
        refine wS (v := (.row none 1 (b.map (eI .u8)))) (sv (d_move rfl)) ?_
        refine wS (v := (.sl 0 0 1 1 false)) (h' := [some ⟨5, [254].map (eI .u8)⟩]) (sv (d_buildS rfl (bldL1 (xs := [254].map (eI .u8)) ti42 ti5 (Nat.le_of_ble_eq_true rfl) (Nat.le_of_ble_eq_true rfl) rfl rfl rfl rfl rfl rfl rfl))) ?_
        refine wC (v := (.sl 1 0 x27.length 1 false)) (h' := [some ⟨5, [254].map (eI .u8)⟩, some ⟨5, x27.map (eI .u8)⟩]) rfl (Vm.Fn.lendR (codec_extend_ok N b [254] x27 h_7) [] [0] (by decide) rfl (by decide) Lend.nil (Brw.same rfl (Brw.row (exp_slT rfl rfl (fun _ => rfl)) Brw.nil)) rfl (rfB.live (rfs_map (fun _ => rfl) _) rfB.nil) rfl (by simp only [lent, lendSet, lendSet_nil, rnH, Blk.rn, V.rns, V.rn, sg, List.map_cons, List.map_nil, Option.map_some, Option.map_none, List.drop_succ_cons, List.drop_zero, List.drop_nil, List.set_cons_zero, List.set_cons_succ, List.cons_append, List.nil_append, List.append_nil, rns_eI, rns_eB, rns_eS, rns_eL, rns_ar4, rns_ar8, rns_ar20, rns_ar32, rns_ar64, List.getElem?_cons_zero, List.getElem?_cons_succ, List.getElem?_nil, List.length_cons, List.length_nil, Nat.reduceAdd, Nat.reduceSub, Nat.add_zero, Nat.zero_add, Nat.sub_self, Nat.sub_zero])) ?_
        refine wS (v := (eI .u64 vn)) (sv (d_move rfl)) ?_
        refine wS (v := (eI .u32 (IntKind.u32.wrap vn))) (sv (d_conv rfl (conv_int _ ⟨_, ti57⟩ ti22 rfl))) ?_
        refine wC (v := (.sl 2 0 x30.length 1 false)) (h' := [some ⟨5, [254].map (eI .u8)⟩, some ⟨5, x27.map (eI .u8)⟩, some ⟨5, x30.map (eI .u8)⟩]) rfl (Vm.Fn.lendR (codec_AppendU32_ok N x27 (IntKind.u32.wrap vn) x30 h_8) [] [1] (by decide) rfl (by decide) Lend.nil (Brw.row (exp_slT rfl rfl (fun _ => rfl)) (Brw.same rfl Brw.nil)) rfl (rfB.live (rfs_map (fun _ => rfl) _) rfB.nil) rfl (by simp only [lent, lendSet, lendSet_nil, rnH, Blk.rn, V.rns, V.rn, sg, List.map_cons, List.map_nil, Option.map_some, Option.map_none, List.drop_succ_cons, List.drop_zero, List.drop_nil, List.set_cons_zero, List.set_cons_succ, List.cons_append, List.nil_append, List.append_nil, rns_eI, rns_eB, rns_eS, rns_eL, rns_ar4, rns_ar8, rns_ar20, rns_ar32, rns_ar64, List.getElem?_cons_zero, List.getElem?_cons_succ, List.getElem?_nil, List.length_cons, List.length_nil, Nat.reduceAdd, Nat.reduceSub, Nat.add_zero, Nat.zero_add, Nat.sub_self, Nat.sub_zero])) ?_
        refine wS (v := (.sl 2 0 x30.length 1 false)) (sv (d_assign rfl)) ?_
        refine OpsW.nil ?_
        refine Ex.then_mk ?_
        refine AB.ret ?_
        refine Ex.inBlock_ret_mk ?_
        refine Ex.then_ret_mk ?_
        obtain rfl := Option.some.inj hr
        exact done_ret (r1 := (.sl 2 0 x30.length 1 false)) (res1 Try.results23 (rvT rfl)) (Ghost.rn [2] rfl rfl (FLe.same rfl FLe.nil) (HLe.live rfl (les_map (fun _ => rfl) _) (all_map (fun _ => rfl) _) HLe.nil) rfl)
      · replace hr := iteF hr h6
        refine AB.skip ?_
        refine Ex.inBlock_mk ?_
        refine Ex.then_mk ?_
        refine AB.seq ?_
        replace hr := bnd hr; obtain ⟨x33, h_9, hr⟩ := hr
        replace hr := bnd hr; obtain ⟨x35, h_10, hr⟩ := hr
        refine AB.rw ?_
        refine wS (v := (.row none 1 (b.map (eI .u8)))) (sv (d_move rfl)) ?_
        refine wS (v := (.sl 0 0 1 1 false)) (h' := [some ⟨5, [255].map (eI .u8)⟩]) (sv (d_buildS rfl (bldL1 (xs := [255].map (eI .u8)) ti42 ti5 (Nat.le_of_ble_eq_true rfl) (Nat.le_of_ble_eq_true rfl) rfl rfl rfl rfl rfl rfl rfl))) ?_
        refine wC (v := (.sl 1 0 x33.length 1 false)) (h' := [some ⟨5, [255].map (eI .u8)⟩, some ⟨5, x33.map (eI .u8)⟩]) rfl (Vm.Fn.lendR (codec_extend_ok N b [255] x33 h_9) [] [0] (by decide) rfl (by decide) Lend.nil (Brw.same rfl (Brw.row (exp_slT rfl rfl (fun _ => rfl)) Brw.nil)) rfl (rfB.live (rfs_map (fun _ => rfl) _) rfB.nil) rfl (by simp only [lent, lendSet, lendSet_nil, rnH, Blk.rn, V.rns, V.rn, sg, List.map_cons, List.map_nil, Option.map_some, Option.map_none, List.drop_succ_cons, List.drop_zero, List.drop_nil, List.set_cons_zero, List.set_cons_succ, List.cons_append, List.nil_append, List.append_nil, rns_eI, rns_eB, rns_eS, rns_eL, rns_ar4, rns_ar8, rns_ar20, rns_ar32, rns_ar64, List.getElem?_cons_zero, List.getElem?_cons_succ, List.getElem?_nil, List.length_cons, List.length_nil, Nat.reduceAdd, Nat.reduceSub, Nat.add_zero, Nat.zero_add, Nat.sub_self, Nat.sub_zero])) ?_
        refine wS (v := (eI .u64 vn)) (sv (d_move rfl)) ?_
        refine wC (v := (.sl 2 0 x35.length 1 false)) (h' := [some ⟨5, [255].map (eI .u8)⟩, some ⟨5, x33.map (eI .u8)⟩, some ⟨5, x35.map (eI .u8)⟩]) rfl (Vm.Fn.lendR (codec_AppendU64_ok N x33 vn x35 h_10) [] [1] (by decide) rfl (by decide) Lend.nil (Brw.row (exp_slT rfl rfl (fun _ => rfl)) (Brw.same rfl Brw.nil)) rfl (rfB.live (rfs_map (fun _ => rfl) _) rfB.nil) rfl (by simp only [lent, lendSet, lendSet_nil, rnH, Blk.rn, V.rns, V.rn, sg, List.map_cons, List.map_nil, Option.map_some, Option.map_none, List.drop_succ_cons, List.drop_zero, List.drop_nil, List.set_cons_zero, List.set_cons_succ, List.cons_append, List.nil_append, List.append_nil, rns_eI, rns_eB, rns_eS, rns_eL, rns_ar4, rns_ar8, rns_ar20, rns_ar32, rns_ar64, List.getElem?_cons_zero, List.getElem?_cons_succ, List.getElem?_nil, List.length_cons, List.length_nil, Nat.reduceAdd, Nat.reduceSub, Nat.add_zero, Nat.zero_add, Nat.sub_self, Nat.sub_zero])) ?_
        refine wS (v := (.sl 2 0 x35.length 1 false)) (sv (d_assign rfl)) ?_
        refine OpsW.nil ?_
        refine Ex.then_mk ?_
        refine AB.ret ?_
        obtain rfl := Option.some.inj hr
        exact done_ret (r1 := (.sl 2 0 x35.length 1 false)) (res1 Try.results23 (rvT rfl)) (Ghost.rn [2] rfl rfl (FLe.same rfl FLe.nil) (HLe.live rfl (les_map (fun _ => rfl) _) (all_map (fun _ => rfl) _) HLe.nil) rfl)
set_option maxRecDepth 20000 in
set_option maxHeartbeats 1000000 in
theorem codec_AppendHash_ok (N : Nat) (b : List Int) (vh : List Int) (r : (List Int)) (hr : codec_AppendHash N b vh = some r) :
    Vm.Fn Try.prog 35 [] [(.row none 1 (b.map (eI .u8))), (.agg (vh.map (eI .u8)))] (.sl 0 0 r.length 1 false) [some ⟨5, r.map (eI .u8)⟩] := by
  refine fn_ab Try.func35 rfl (by kernel_rfl) Try.ntmps35 (Nat.le_of_ble_eq_true rfl) rfl (fr := [(0, (.row none 1 (b.map (eI .u8)))), (1, (.agg (vh.map (eI .u8))))]) rfl ?_
  unfold codec_AppendHash at hr
  refine AB.seq ?_
  refine AB.rw ?_
  refine wS (v := (.ptr 0 0)) (h' := [some ⟨36, vh.map (eI .u8)⟩]) (sv (d_box rfl (flatA (fun _ => rfl)) rfl rfl)) ?_
  refine wS (v := (.row (some true) 1 [])) (sv (d_assign rfl)) ?_
  refine OpsW.nil ?_
  refine Ex.then_mk ?_
  refine AB.seq ?_
  replace hr := bnd hr; obtain ⟨q, h_1, hr⟩ := hr
  replace hr := bnd hr; obtain ⟨x7, h_2, hr⟩ := hr
  refine AB.rw ?_
  refine wS (v := (.row none 1 (b.map (eI .u8)))) (sv (d_move rfl)) ?_
  refine wS (v := (.sl 0 0 32 1 false)) (sv (d_slice rfl rfl rfl (slA (E := (eI .u8)) (l := vh) ti36 ti5 rfl rfl rfl (arr_len h_1) ⟨Nat.le_of_ble_eq_true rfl, Nat.le_of_ble_eq_true rfl⟩))) ?_
  refine wC (v := (.sl 1 0 x7.length 1 false)) (h' := [some ⟨36, vh.map (eI .u8)⟩, some ⟨5, x7.map (eI .u8)⟩]) rfl (Vm.Fn.lendR (codec_extend_ok N b vh x7 h_2) [] [0] (by decide) rfl (by decide) Lend.nil (Brw.same rfl (Brw.row (exp_slT (arr_len h_1) rfl (fun _ => rfl)) Brw.nil)) rfl (rfB.live (rfs_map (fun _ => rfl) _) rfB.nil) rfl (by simp only [lent, lendSet, lendSet_nil, rnH, Blk.rn, V.rns, V.rn, sg, List.map_cons, List.map_nil, Option.map_some, Option.map_none, List.drop_succ_cons, List.drop_zero, List.drop_nil, List.set_cons_zero, List.set_cons_succ, List.cons_append, List.nil_append, List.append_nil, rns_eI, rns_eB, rns_eS, rns_eL, rns_ar4, rns_ar8, rns_ar20, rns_ar32, rns_ar64, List.getElem?_cons_zero, List.getElem?_cons_succ, List.getElem?_nil, List.length_cons, List.length_nil, Nat.reduceAdd, Nat.reduceSub, Nat.add_zero, Nat.zero_add, Nat.sub_self, Nat.sub_zero])) ?_
  refine wS (v := (.sl 1 0 x7.length 1 false)) (sv (d_assign rfl)) ?_
  refine OpsW.nil ?_
  refine Ex.then_mk ?_
  refine AB.ret ?_
  obtain rfl := Option.some.inj hr
  exact done_ret (r1 := (.sl 1 0 x7.length 1 false)) (res1 Try.results35 (rvT rfl)) (Ghost.rn [1] rfl rfl (FLe.same rfl FLe.nil) (HLe.live rfl (les_map (fun _ => rfl) _) (all_map (fun _ => rfl) _) HLe.nil) rfl)
set_option maxRecDepth 20000 in
set_option maxHeartbeats 1000000 in
theorem tx_Point_ok (N : Nat) (o_Tx : List Int) (o_Index : Int) (r : (List Int)) (hr : tx_Point N o_Tx o_Index = some r) :
    Vm.Fn Try.prog 24 [] [(.agg (ar32 (eI .u8) o_Tx [(eI .u32 o_Index)]))] (.sl 0 0 r.length 1 false) [some ⟨5, r.map (eI .u8)⟩] := by
  refine fn_ab Try.func24 rfl (by kernel_rfl) Try.ntmps24 (Nat.le_of_ble_eq_true rfl) rfl (fr := [(0, (.agg (ar32 (eI .u8) o_Tx [(eI .u32 o_Index)])))]) rfl ?_
  unfold tx_Point at hr
  refine AB.seq ?_
  refine AB.rw ?_
  refine wS (v := (.ptr 0 0)) (h' := [some ⟨38, (ar32 (eI .u8) o_Tx [(eI .u32 o_Index)])⟩]) (sv (d_box rfl rfl rfl rfl)) ?_
  refine wS (v := (.row (some true) 1 [])) (sv (d_assign rfl)) ?_
  refine OpsW.nil ?_
  refine Ex.then_mk ?_
  refine AB.seq ?_
  replace hr := bnd hr; obtain ⟨q, h_1, hr⟩ := hr
  replace hr := bnd hr; obtain ⟨x5, h_2, hr⟩ := hr
  replace hr := bnd hr; obtain ⟨x8, h_4, hr⟩ := hr
  refine AB.rd (memF []) (memF [22, 35]) mixed ?_
  refine DrawG.pick (n := 6) (i := 0) (by decide +kernel) rfl (gS (v := (.ptr 0 0)) (sv (d_fa rfl (fap38_0 ..)))) ?_
  refine DrawG.pick (n := 5) (i := 1) (by decide +kernel) rfl (gS (v := (.agg (o_Tx.map (eI .u8)))) (sv (d_load rfl (ldP rfl (to32 (arr_len h_1) (partN (ds := (ar32 (eI .u8) o_Tx [])) ti36 rfl (Nat.le_of_ble_eq_true rfl) rfl)))))) ?_
  refine DrawG.pick (n := 4) (i := 2) (by decide +kernel) rfl (gC (v := (.sl 1 0 x5.length 1 false)) (h' := [some ⟨38, (ar32 (eI .u8) o_Tx [(eI .u32 o_Index)])⟩, some ⟨5, x5.map (eI .u8)⟩]) (Vm.Fn.argsLe (Vm.Fn.lendB (codec_AppendHash_ok N [] o_Tx x5 h_2) [] (by decide) rfl Lend.nil (by simp only [V.rn, V.rns, rns_eI, rns_eB] <;> rfl) rfl (by simp only [lent, lendSet, lendSet_nil, rnH, Blk.rn, V.rns, V.rn, sg, List.map_cons, List.map_nil, Option.map_some, Option.map_none, List.drop_succ_cons, List.drop_zero, List.drop_nil, List.set_cons_zero, List.set_cons_succ, List.cons_append, List.nil_append, List.append_nil, rns_eI, rns_eB, rns_eS, rns_eL, rns_ar4, rns_ar8, rns_ar20, rns_ar32, rns_ar64, List.getElem?_cons_zero, List.getElem?_cons_succ, List.getElem?_nil, List.length_cons, List.length_nil, Nat.reduceAdd, Nat.reduceSub, Nat.add_zero, Nat.zero_add, Nat.sub_self, Nat.sub_zero])) (V.les_cons V.le_nil (V.les_cons (V.le_refl _ _) V.les_nil))) (fun h => absurd h (by decide)) (fun _ => ⟨_, rfl⟩) (sv (d_call rfl orc1_hit))) ?_
  refine DrawG.pick (n := 3) (i := 3) (by decide +kernel) rfl (gS (v := (.ptr 0 32)) (sv (d_fa rfl (fap38_1 ..)))) ?_
  refine DrawG.pick (n := 2) (i := 4) (by decide +kernel) rfl (gS (v := (eI .u32 o_Index)) (sv (d_load rfl (ldP rfl (part1 ti22 rfl rfl))))) ?_
  refine DrawG.pick (n := 1) (i := 5) (by decide +kernel) rfl (gC (v := (.sl 2 0 x8.length 1 false)) (h' := [some ⟨38, (ar32 (eI .u8) o_Tx [(eI .u32 o_Index)])⟩, some ⟨5, x5.map (eI .u8)⟩, some ⟨5, x8.map (eI .u8)⟩]) (Vm.Fn.lendR (codec_AppendU32_ok N x5 o_Index x8 h_4) [] [1] (by decide) rfl (by decide) Lend.nil (Brw.row (exp_slT rfl rfl (fun _ => rfl)) (Brw.same rfl Brw.nil)) rfl (rfB.live (rfs_map (fun _ => rfl) _) rfB.nil) rfl (by simp only [lent, lendSet, lendSet_nil, rnH, Blk.rn, V.rns, V.rn, sg, List.map_cons, List.map_nil, Option.map_some, Option.map_none, List.drop_succ_cons, List.drop_zero, List.drop_nil, List.set_cons_zero, List.set_cons_succ, List.cons_append, List.nil_append, List.append_nil, rns_eI, rns_eB, rns_eS, rns_eL, rns_ar4, rns_ar8, rns_ar20, rns_ar32, rns_ar64, List.getElem?_cons_zero, List.getElem?_cons_succ, List.getElem?_nil, List.length_cons, List.length_nil, Nat.reduceAdd, Nat.reduceSub, Nat.add_zero, Nat.zero_add, Nat.sub_self, Nat.sub_zero])) (fun h => absurd h (by decide)) (fun _ => ⟨_, rfl⟩) (sv (d_call rfl orc1_hit))) ?_
  refine DrawG.pick (n := 0) (i := 6) (by decide +kernel) rfl (gS (v := (.sl 2 0 x8.length 1 false)) (sv (d_assign rfl))) ?_
  refine DrawG.nil (by decide +kernel) ?_
  refine Ex.then_mk ?_
  refine AB.ret ?_
  obtain rfl := Option.some.inj hr
  exact done_ret (r1 := (.sl 2 0 x8.length 1 false)) (res1 Try.results24 (rvT rfl)) (Ghost.rn [2] rfl rfl (FLe.same rfl FLe.nil) (HLe.live rfl (les_map (fun _ => rfl) _) (all_map (fun _ => rfl) _) HLe.nil) rfl)
set_option maxRecDepth 20000 in
set_option maxHeartbeats 1000000 in
theorem codec_AppendBytes_ok (N : Nat) (b : List Int) (vs : List Int) (r : (List Int)) (hr : codec_AppendBytes N b vs = some r) :
    Vm.Fn Try.prog 26 [] [(.row none 1 (b.map (eI .u8))), (.row none 1 (vs.map (eI .u8)))] (.sl 0 0 r.length 1 false) [some ⟨5, r.map (eI .u8)⟩] := by
  refine fn_ab Try.func26 rfl (by kernel_rfl) Try.ntmps26 (Nat.le_of_ble_eq_true rfl) rfl (fr := [(0, (.row none 1 (b.map (eI .u8)))), (1, (.row none 1 (vs.map (eI .u8))))]) rfl ?_
  unfold codec_AppendBytes at hr
  refine AB.seq ?_
  refine AB.rw ?_
  refine wS (v := (.row (some true) 1 [])) (sv (d_assign rfl)) ?_
  refine OpsW.nil ?_
  refine Ex.then_mk ?_
  refine AB.seq ?_
  replace hr := bnd hr; obtain ⟨x9, h_1, hr⟩ := hr
  replace hr := bnd hr; obtain ⟨x11, h_2, hr⟩ := hr
  refine AB.rw ?_
  refine wS (v := (.row none 1 (b.map (eI .u8)))) (sv (d_move rfl)) ?_
  refine wS (v := (.row none 1 (vs.map (eI .u8)))) (sv (d_move rfl)) ?_
  refine wS (v := (eI .i64 (vs.length : Int))) (sv (d_len rfl (lenR ti42))) ?_
  refine wS (v := (eI .u64 (IntKind.u64.wrap (vs.length : Int)))) (sv (d_conv rfl (conv_int _ ⟨_, ti3⟩ ti57 rfl))) ?_
  refine wC (v := (.sl 0 0 x9.length 1 false)) (h' := [some ⟨5, x9.map (eI .u8)⟩]) rfl (Vm.Fn.lendB (codec_AppendSize_ok N b (IntKind.u64.wrap (vs.length : Int)) x9 h_1) [] (by decide) rfl Lend.nil rfl rfl (by simp only [lent, lendSet, lendSet_nil, rnH, Blk.rn, V.rns, V.rn, sg, List.map_cons, List.map_nil, Option.map_some, Option.map_none, List.drop_succ_cons, List.drop_zero, List.drop_nil, List.set_cons_zero, List.set_cons_succ, List.cons_append, List.nil_append, List.append_nil, rns_eI, rns_eB, rns_eS, rns_eL, rns_ar4, rns_ar8, rns_ar20, rns_ar32, rns_ar64, List.getElem?_cons_zero, List.getElem?_cons_succ, List.getElem?_nil, List.length_cons, List.length_nil, Nat.reduceAdd, Nat.reduceSub, Nat.add_zero, Nat.zero_add, Nat.sub_self, Nat.sub_zero])) ?_
  refine wS (v := (.row none 1 (vs.map (eI .u8)))) (sv (d_move rfl)) ?_
  refine wC (v := (.sl 1 0 x11.length 1 false)) (h' := [some ⟨5, x9.map (eI .u8)⟩, some ⟨5, x11.map (eI .u8)⟩]) rfl (Vm.Fn.lendR (codec_extend_ok N x9 vs x11 h_2) [] [0] (by decide) rfl (by decide) Lend.nil (Brw.row (exp_slT rfl rfl (fun _ => rfl)) (Brw.same rfl Brw.nil)) rfl (rfB.live (rfs_map (fun _ => rfl) _) rfB.nil) rfl (by simp only [lent, lendSet, lendSet_nil, rnH, Blk.rn, V.rns, V.rn, sg, List.map_cons, List.map_nil, Option.map_some, Option.map_none, List.drop_succ_cons, List.drop_zero, List.drop_nil, List.set_cons_zero, List.set_cons_succ, List.cons_append, List.nil_append, List.append_nil, rns_eI, rns_eB, rns_eS, rns_eL, rns_ar4, rns_ar8, rns_ar20, rns_ar32, rns_ar64, List.getElem?_cons_zero, List.getElem?_cons_succ, List.getElem?_nil, List.length_cons, List.length_nil, Nat.reduceAdd, Nat.reduceSub, Nat.add_zero, Nat.zero_add, Nat.sub_self, Nat.sub_zero])) ?_
  refine wS (v := (.sl 1 0 x11.length 1 false)) (sv (d_assign rfl)) ?_
  refine OpsW.nil ?_
  refine Ex.then_mk ?_
  refine AB.ret ?_
  obtain rfl := Option.some.inj hr
  exact done_ret (r1 := (.sl 1 0 x11.length 1 false)) (res1 Try.results26 (rvT rfl)) (Ghost.rn [1] rfl rfl (FLe.same rfl FLe.nil) (HLe.live rfl (les_map (fun _ => rfl) _) (all_map (fun _ => rfl) _) HLe.nil) rfl)
set_option maxRecDepth 20000 in
set_option maxHeartbeats 1000000 in
theorem tx_encode_ok (N : Nat) (t_Version : Int) (t_Inputs : List S_api_Input) (t_Outputs : List S_api_Output) (t_Lock : Int) (witness : Bool) (r : (List Int)) (hr : tx_encode N t_Version t_Inputs t_Outputs t_Lock witness = some r) :
    Vm.Fn Try.prog 19 [] [(.agg [(eI .u32 t_Version), (.row none 35 (t_Inputs.map E_api_Input)), (.row none 2 (t_Outputs.map E_api_Output)), (eI .u32 t_Lock)]), (eB witness)] (.sl 0 0 r.length 1 false) [some ⟨5, r.map (eI .u8)⟩] := by
  refine fn_ab Try.func19 rfl (by kernel_rfl) Try.ntmps19 (Nat.le_of_ble_eq_true rfl) rfl (fr := [(0, (.agg [(eI .u32 t_Version), (.row none 35 (t_Inputs.map E_api_Input)), (.row none 2 (t_Outputs.map E_api_Output)), (eI .u32 t_Lock)])), (1, (eB witness))]) rfl ?_
  unfold tx_encode at hr
  refine AB.seq ?_
  refine AB.rw ?_
  refine wS (v := (.ptr 0 0)) (h' := [some ⟨26, [(eI .u32 t_Version), (.row none 35 (t_Inputs.map E_api_Input)), (.row none 2 (t_Outputs.map E_api_Output)), (eI .u32 t_Lock)]⟩]) (sv (d_box rfl rfl rfl rfl)) ?_
  refine wS (v := (.row (some true) 1 [])) (sv (d_assign rfl)) ?_
  refine OpsW.nil ?_
  refine Ex.then_mk ?_
  refine AB.seq ?_
  replace hr := bnd hr; obtain ⟨x16, h_1, hr⟩ := hr
  refine AB.rw ?_
  refine wS (v := (.ptr 0 0)) (sv (d_fa rfl (fap26_0 ..))) ?_
  refine wS (v := (eI .u32 t_Version)) (sv (d_load rfl (ldP rfl (part1 ti22 rfl rfl)))) ?_
  refine wC (v := (.sl 1 0 x16.length 1 false)) (h' := [some ⟨26, [(eI .u32 t_Version), (.row none 35 (t_Inputs.map E_api_Input)), (.row none 2 (t_Outputs.map E_api_Output)), (eI .u32 t_Lock)]⟩, some ⟨5, x16.map (eI .u8)⟩]) rfl (Vm.Fn.argsLe (Vm.Fn.lendB (codec_AppendU32_ok N [] t_Version x16 h_1) [] (by decide) rfl Lend.nil rfl rfl (by simp only [lent, lendSet, lendSet_nil, rnH, Blk.rn, V.rns, V.rn, sg, List.map_cons, List.map_nil, Option.map_some, Option.map_none, List.drop_succ_cons, List.drop_zero, List.drop_nil, List.set_cons_zero, List.set_cons_succ, List.cons_append, List.nil_append, List.append_nil, rns_eI, rns_eB, rns_eS, rns_eL, rns_C_api_OutPoint, rns_K_api_OutPoint, rns_C_api_Input, rns_K_api_Input, rns_C_api_Output, rns_K_api_Output, rns_ar4, rns_ar8, rns_ar20, rns_ar32, rns_ar64, List.getElem?_cons_zero, List.getElem?_cons_succ, List.getElem?_nil, List.length_cons, List.length_nil, Nat.reduceAdd, Nat.reduceSub, Nat.add_zero, Nat.zero_add, Nat.sub_self, Nat.sub_zero])) (V.les_cons V.le_nil (V.les_cons (V.le_refl _ _) V.les_nil))) ?_
  refine wS (v := (.sl 1 0 x16.length 1 false)) (sv (d_assign rfl)) ?_
  refine OpsW.nil ?_
  refine Ex.then_mk ?_
  refine AB.seq ?_
  replace hr := bnd hr; obtain ⟨x22, h_2, hr⟩ := hr
  replace hr := bnd hr; obtain ⟨x23, h_3, hr⟩ := hr
  refine AB.rw ?_
  refine wS (v := (.sl 1 0 x16.length 1 false)) (sv (d_move rfl)) ?_
  refine wS (v := (.ptr 0 1)) (sv (d_fa rfl (fap26_1 ..))) ?_
  refine wS (v := (.row none 35 (t_Inputs.map E_api_Input))) (sv (d_load rfl (ldP rfl (part1 ti23 rfl rfl)))) ?_
  refine wS (v := (eI .i64 (t_Inputs.length : Int))) (sv (d_len rfl (lenR ti23))) ?_
  refine wS (v := (eI .u64 (IntKind.u64.wrap (t_Inputs.length : Int)))) (sv (d_conv rfl (conv_int _ ⟨_, ti3⟩ ti57 rfl))) ?_
  refine wC (v := (.sl 2 0 x22.length 1 false)) (h' := [some ⟨26, [(eI .u32 t_Version), (.row none 35 (t_Inputs.map E_api_Input)), (.row none 2 (t_Outputs.map E_api_Output)), (eI .u32 t_Lock)]⟩, some ⟨5, x16.map (eI .u8)⟩, some ⟨5, x22.map (eI .u8)⟩]) rfl (Vm.Fn.argsLe (Vm.Fn.lendB (codec_AppendSize_ok N [] (IntKind.u64.wrap (t_Inputs.length : Int)) x22 h_2) [] (by decide) rfl Lend.nil rfl rfl (by simp only [lent, lendSet, lendSet_nil, rnH, Blk.rn, V.rns, V.rn, sg, List.map_cons, List.map_nil, Option.map_some, Option.map_none, List.drop_succ_cons, List.drop_zero, List.drop_nil, List.set_cons_zero, List.set_cons_succ, List.cons_append, List.nil_append, List.append_nil, rns_eI, rns_eB, rns_eS, rns_eL, rns_C_api_OutPoint, rns_K_api_OutPoint, rns_C_api_Input, rns_K_api_Input, rns_C_api_Output, rns_K_api_Output, rns_ar4, rns_ar8, rns_ar20, rns_ar32, rns_ar64, List.getElem?_cons_zero, List.getElem?_cons_succ, List.getElem?_nil, List.length_cons, List.length_nil, Nat.reduceAdd, Nat.reduceSub, Nat.add_zero, Nat.zero_add, Nat.sub_self, Nat.sub_zero])) (V.les_cons V.le_nil (V.les_cons (V.le_refl _ _) V.les_nil))) ?_
  refine wS (v := (.sl 3 0 x23.length 1 false)) (h' := [some ⟨26, [(eI .u32 t_Version), (.row none 35 (t_Inputs.map E_api_Input)), (.row none 2 (t_Outputs.map E_api_Output)), (eI .u32 t_Lock)]⟩, none, some ⟨5, x22.map (eI .u8)⟩, some ⟨5, x23.map (eI .u8)⟩]) (sv (d_append rfl rfl (appS (E := (eI .u8)) rfl ti42 ti5 ⟨rfl, rfl, Nat.le_of_ble_eq_true rfl⟩ rfl (srcS rfl rfl) h_3 rfl rfl))) ?_
  refine wS (v := (.sl 3 0 x23.length 1 false)) (sv (d_assign rfl)) ?_
  refine OpsW.nil ?_
  refine Ex.then_mk ?_
  refine AB.seq_g fun K1 hK1 hG1 => ?_
  have J1 : ∀ (l1 : List Int), tx_encode_J1 N t_Version t_Inputs t_Outputs t_Lock witness l1 = some r → K1 (mkF 104 [(1, (eB witness)), (2, (.ptr 0 0)), (5, (.sl 1 0 l1.length 1 false))]) [some ⟨26, [(eI .u32 t_Version), (.row none 35 (t_Inputs.map E_api_Input)), (.row none 2 (t_Outputs.map E_api_Output)), (eI .u32 t_Lock)]⟩, some ⟨5, l1.map (eI .u8)⟩] := by
    intro l1 hr
    unfold tx_encode_J1 at hr
    refine hK1 _ _ ?_
    refine AB.seq ?_
    replace hr := bnd hr; obtain ⟨x47, h_4, hr⟩ := hr
    replace hr := bnd hr; obtain ⟨x48, h_5, hr⟩ := hr
    refine AB.rw ?_
    refine wS (v := (.sl 1 0 l1.length 1 false)) (sv (d_move rfl)) ?_
    refine wS (v := (.ptr 0 2)) (sv (d_fa rfl (fap26_2 ..))) ?_
    refine wS (v := (.row none 2 (t_Outputs.map E_api_Output))) (sv (d_load rfl (ldP rfl (part1 ti24 rfl rfl)))) ?_
    refine wS (v := (eI .i64 (t_Outputs.length : Int))) (sv (d_len rfl (lenR ti24))) ?_
    refine wS (v := (eI .u64 (IntKind.u64.wrap (t_Outputs.length : Int)))) (sv (d_conv rfl (conv_int _ ⟨_, ti3⟩ ti57 rfl))) ?_
    refine wC (v := (.sl 2 0 x47.length 1 false)) (h' := [some ⟨26, [(eI .u32 t_Version), (.row none 35 (t_Inputs.map E_api_Input)), (.row none 2 (t_Outputs.map E_api_Output)), (eI .u32 t_Lock)]⟩, some ⟨5, l1.map (eI .u8)⟩, some ⟨5, x47.map (eI .u8)⟩]) rfl (Vm.Fn.argsLe (Vm.Fn.lendB (codec_AppendSize_ok N [] (IntKind.u64.wrap (t_Outputs.length : Int)) x47 h_4) [] (by decide) rfl Lend.nil rfl rfl (by simp only [lent, lendSet, lendSet_nil, rnH, Blk.rn, V.rns, V.rn, sg, List.map_cons, List.map_nil, Option.map_some, Option.map_none, List.drop_succ_cons, List.drop_zero, List.drop_nil, List.set_cons_zero, List.set_cons_succ, List.cons_append, List.nil_append, List.append_nil, rns_eI, rns_eB, rns_eS, rns_eL, rns_C_api_OutPoint, rns_K_api_OutPoint, rns_C_api_Input, rns_K_api_Input, rns_C_api_Output, rns_K_api_Output, rns_ar4, rns_ar8, rns_ar20, rns_ar32, rns_ar64, List.getElem?_cons_zero, List.getElem?_cons_succ, List.getElem?_nil, List.length_cons, List.length_nil, Nat.reduceAdd, Nat.reduceSub, Nat.add_zero, Nat.zero_add, Nat.sub_self, Nat.sub_zero])) (V.les_cons V.le_nil (V.les_cons (V.le_refl _ _) V.les_nil))) ?_
    refine wS (v := (.sl 3 0 x48.length 1 false)) (h' := [some ⟨26, [(eI .u32 t_Version), (.row none 35 (t_Inputs.map E_api_Input)), (.row none 2 (t_Outputs.map E_api_Output)), (eI .u32 t_Lock)]⟩, none, some ⟨5, x47.map (eI .u8)⟩, some ⟨5, x48.map (eI .u8)⟩]) (sv (d_append rfl rfl (appS (E := (eI .u8)) rfl ti42 ti5 ⟨rfl, rfl, Nat.le_of_ble_eq_true rfl⟩ rfl (srcS rfl rfl) h_5 rfl rfl))) ?_
    refine wS (v := (.sl 3 0 x48.length 1 false)) (sv (d_assign rfl)) ?_
    refine OpsW.nil ?_
    refine Ex.then_mk ?_
    refine AB.seq_g fun K2 hK2 hG2 => ?_
    have J2 : ∀ (l1_1 : List Int), tx_encode_J2 N t_Version t_Inputs t_Outputs t_Lock witness l1_1 = some r → K2 (mkF 104 [(1, (eB witness)), (2, (.ptr 0 0)), (5, (.sl 1 0 l1_1.length 1 false))]) [some ⟨26, [(eI .u32 t_Version), (.row none 35 (t_Inputs.map E_api_Input)), (.row none 2 (t_Outputs.map E_api_Output)), (eI .u32 t_Lock)]⟩, some ⟨5, l1_1.map (eI .u8)⟩] := by
      intro l1_1 hr
      unfold tx_encode_J2 at hr
      refine hK2 _ _ ?_
      refine AB.seq ?_
      replace hr := bnd hr; obtain ⟨x71, h_6, hr⟩ := hr
      replace hr := bnd hr; obtain ⟨x72, h_7, hr⟩ := hr
      refine AB.rw ?_
      refine wS (v := (.sl 1 0 l1_1.length 1 false)) (sv (d_move rfl)) ?_
      refine wS (v := (.ptr 0 3)) (sv (d_fa rfl (fap26_3 ..))) ?_
      refine wS (v := (eI .u32 t_Lock)) (sv (d_load rfl (ldP rfl (part1 ti22 rfl rfl)))) ?_
      refine wC (v := (.sl 2 0 x71.length 1 false)) (h' := [some ⟨26, [(eI .u32 t_Version), (.row none 35 (t_Inputs.map E_api_Input)), (.row none 2 (t_Outputs.map E_api_Output)), (eI .u32 t_Lock)]⟩, some ⟨5, l1_1.map (eI .u8)⟩, some ⟨5, x71.map (eI .u8)⟩]) rfl (Vm.Fn.argsLe (Vm.Fn.lendB (codec_AppendU32_ok N [] t_Lock x71 h_6) [] (by decide) rfl Lend.nil rfl rfl (by simp only [lent, lendSet, lendSet_nil, rnH, Blk.rn, V.rns, V.rn, sg, List.map_cons, List.map_nil, Option.map_some, Option.map_none, List.drop_succ_cons, List.drop_zero, List.drop_nil, List.set_cons_zero, List.set_cons_succ, List.cons_append, List.nil_append, List.append_nil, rns_eI, rns_eB, rns_eS, rns_eL, rns_C_api_OutPoint, rns_K_api_OutPoint, rns_C_api_Input, rns_K_api_Input, rns_C_api_Output, rns_K_api_Output, rns_ar4, rns_ar8, rns_ar20, rns_ar32, rns_ar64, List.getElem?_cons_zero, List.getElem?_cons_succ, List.getElem?_nil, List.length_cons, List.length_nil, Nat.reduceAdd, Nat.reduceSub, Nat.add_zero, Nat.zero_add, Nat.sub_self, Nat.sub_zero])) (V.les_cons V.le_nil (V.les_cons (V.le_refl _ _) V.les_nil))) ?_
      refine wS (v := (.sl 3 0 x72.length 1 false)) (h' := [some ⟨26, [(eI .u32 t_Version), (.row none 35 (t_Inputs.map E_api_Input)), (.row none 2 (t_Outputs.map E_api_Output)), (eI .u32 t_Lock)]⟩, none, some ⟨5, x71.map (eI .u8)⟩, some ⟨5, x72.map (eI .u8)⟩]) (sv (d_append rfl rfl (appS (E := (eI .u8)) rfl ti42 ti5 ⟨rfl, rfl, Nat.le_of_ble_eq_true rfl⟩ rfl (srcS rfl rfl) h_7 rfl rfl))) ?_
      refine wS (v := (.sl 3 0 x72.length 1 false)) (sv (d_assign rfl)) ?_
      refine OpsW.nil ?_
      refine Ex.then_mk ?_
      refine AB.seq ?_
      refine AB.seq ?_
      refine AB.rw ?_
      refine wS (v := (eB witness)) (sv (d_move rfl)) ?_
      refine wS (v := (eB (!witness))) (sv (d_un rfl (un_not _ _))) ?_
      refine OpsW.nil ?_
      refine Ex.then_mk ?_
      refine AB.cnd rfl (fun h8 => ?_) (fun h8 => ?_)
      · replace hr := iteT hr h8
        refine AB.seq ?_
        refine AB.rw ?_
        refine wS (v := (.sl 3 0 x72.length 1 false)) (sv (d_move rfl)) ?_
        refine wS (v := (.sl 3 0 x72.length 1 false)) (sv (d_assign rfl)) ?_
        refine OpsW.nil ?_
        refine Ex.then_mk ?_
        refine AB.ret ?_
        refine Ex.then_ret_mk ?_
        obtain rfl := Option.some.inj hr
        exact done_ret (r1 := (.sl 3 0 x72.length 1 false)) (res1 Try.results19 (rvT rfl)) (Ghost.rn [3] rfl rfl (FLe.same rfl FLe.nil) (HLe.live rfl (les_map (fun _ => rfl) _) (all_map (fun _ => rfl) _) HLe.nil) rfl)
      · replace hr := iteF hr h8
        refine AB.skip ?_
        refine Ex.then_mk ?_
        refine AB.seq_g fun K3 hK3 hG3 => ?_
        have J3 : ∀ (l0 : List Int), tx_encode_J3 N l0 = some r → K3 (mkF 104 [(5, (.sl 0 0 l0.length 1 false))]) [some ⟨5, l0.map (eI .u8)⟩] := by
          intro l0 hr
          unfold tx_encode_J3 at hr
          refine hK3 _ _ ?_
          refine AB.seq ?_
          refine AB.rw ?_
          refine wS (v := (.sl 0 0 l0.length 1 false)) (sv (d_move rfl)) ?_
          refine wS (v := (.sl 0 0 l0.length 1 false)) (sv (d_assign rfl)) ?_
          refine OpsW.nil ?_
          refine Ex.then_mk ?_
          refine AB.ret ?_
          obtain rfl := Option.some.inj hr
          exact done_ret (r1 := (.sl 0 0 l0.length 1 false)) (res1 Try.results19 (rvT rfl)) (Ghost.rn [0] rfl rfl (FLe.same rfl FLe.nil) (HLe.live rfl (les_map (fun _ => rfl) _) (all_map (fun _ => rfl) _) HLe.nil) rfl)
        refine AB.seq ?_
        refine AB.rw ?_
        refine wS (v := (.ptr 0 1)) (sv (d_fa rfl (fap26_1 ..))) ?_
        refine wS (v := (.row none 35 (t_Inputs.map E_api_Input))) (sv (d_load rfl (ldP rfl (part1 ti23 rfl rfl)))) ?_
        refine wS (v := (eI .i64 (t_Inputs.length : Int))) (sv (d_len rfl (lenR ti23))) ?_
        refine wS (v := (eI .i64 0)) (sv (d_move rfl)) ?_
        refine OpsW.nil ?_
        refine Ex.then_mk ?_
        replace hr := bnd hr; obtain ⟨res4, hL4, hr⟩ := hr
        refine AB.block ?_
        refine AB.loopN (fun m s h => ∃ (x79 : Int) (l0_1 : List Int), tx_encode_L4 N t_Inputs m x79 l0_1 = some res4 ∧ Ghost 0 s h (mkF 104 [(5, (.sl 0 0 l0_1.length 1 false)), (77, (.row none 35 (t_Inputs.map E_api_Input))), (78, (eI .i64 (t_Inputs.length : Int))), (79, (eI .i64 x79))]) [some ⟨5, l0_1.map (eI .u8)⟩]) (n := N) ⟨0, x72, hL4, (Ghost.rn [3] rfl rfl (FLe.same rfl (FLe.same rfl (FLe.same rfl (FLe.same rfl FLe.nil)))) (HLe.live rfl (les_map (fun _ => rfl) _) (all_map (fun _ => rfl) _) HLe.nil) rfl)⟩ (by rintro s h ⟨_, _, h0, _⟩; simp [tx_encode_L4] at h0) ?_
        rintro m4 s h ⟨x79, l0_1, hr4, hg⟩
        refine AB.ghost hg ?_
        clear hg hL4
        rw [tx_encode_L4] at hr4
        refine AB.seq ?_
        refine AB.rw ?_
        refine wS (v := (eB (decide (x79 < (t_Inputs.length : Int))))) (sv (d_bin rfl rfl (bin_lss ..))) ?_
        refine OpsW.nil ?_
        refine Ex.then_mk ?_
        refine AB.seq ?_
        refine AB.cnd rfl (fun h9 => ?_) (fun h9 => ?_)
        · replace hr4 := iteT hr4 h9
          refine AB.skip ?_
          refine Ex.then_mk ?_
          refine AB.seq_g fun K5 hK5 hG5 => ?_
          have J5 : ∀ (l0_2 : List Int), tx_encode_J5 N t_Inputs x79 (tx_encode_L4 N t_Inputs m4) l0_2 = some res4 → K5 (mkF 104 [(5, (.sl 0 0 l0_2.length 1 false)), (77, (.row none 35 (t_Inputs.map E_api_Input))), (78, (eI .i64 (t_Inputs.length : Int))), (79, (eI .i64 x79))]) [some ⟨5, l0_2.map (eI .u8)⟩] := by
            intro l0_2 hr4
            unfold tx_encode_J5 at hr4
            refine hK5 _ _ ?_
            refine AB.rw ?_
            refine wS (v := (eI .i64 (IntKind.i64.wrap (x79 + 1)))) (sv (d_bin rfl rfl (bin_add ..))) ?_
            refine wS (v := (eI .i64 (IntKind.i64.wrap (x79 + 1)))) (sv (d_move rfl)) ?_
            refine OpsW.nil ?_
            refine Ex.then_mk ?_
            exact ⟨IntKind.i64.wrap (x79 + 1), l0_2, hr4, (Ghost.rn [0] rfl rfl (FLe.same rfl (FLe.same rfl (FLe.same rfl (FLe.same rfl FLe.nil)))) (HLe.live rfl (les_map (fun _ => rfl) _) (all_map (fun _ => rfl) _) HLe.nil) rfl)⟩
          refine AB.block ?_
          refine AB.seq ?_
          replace hr4 := bnd hr4; obtain ⟨x81, h_10, hr4⟩ := hr4
          refine AB.rw ?_
          refine wS (sv (d_ia rfl rfl (iaR ti23 ti41 h_10))) ?_
          refine wS (v := (E_api_Input x81)) (sv (d_load rfl (ldR h_10 (partN (ds := (ar32 (eI .u8) x81.Prev.Tx [(eI .u32 x81.Prev.Index), (eI .u32 x81.Sequence), (.row none 1 (x81.Witness.map (eL 1 (eI .u8))))])) ti41 rfl (Nat.le_of_ble_eq_true rfl) rfl)))) ?_
          refine wS (v := (.ptr 1 0)) (h' := [some ⟨5, l0_1.map (eI .u8)⟩, some ⟨41, (ar32 (eI .u8) (List.replicate 32 0) [(eI .u32 0), (eI .u32 0), (.row (some true) 1 [])])⟩]) (sv (d_alloc ti41 rfl rfl rfl)) ?_
          refine wN (h' := [some ⟨5, l0_1.map (eI .u8)⟩, some ⟨41, C_api_Input x81⟩]) (sv (d_store rfl rfl (stP ti41 rfl rfl rfl (Nat.le_of_ble_eq_true rfl) rfl))) ?_
          refine OpsW.nil ?_
          refine Ex.then_mk ?_
          refine AB.seq ?_
          replace hr4 := bnd hr4; obtain ⟨x88, h_11, hr4⟩ := hr4
          replace hr4 := bnd hr4; obtain ⟨x89, h_12, hr4⟩ := hr4
          refine AB.rw ?_
          refine wS (v := (.sl 0 0 l0_1.length 1 false)) (sv (d_move rfl)) ?_
          refine wS (v := (.ptr 1 34)) (sv (d_fa rfl (fap41_2 ..))) ?_
          refine wS (v := (.row none 1 (x81.Witness.map (eL 1 (eI .u8))))) (sv (d_load rfl (ldP rfl (part1 ti39 rfl rfl)))) ?_
          refine wS (v := (eI .i64 (x81.Witness.length : Int))) (sv (d_len rfl (lenR ti39))) ?_
          refine wS (v := (eI .u64 (IntKind.u64.wrap (x81.Witness.length : Int)))) (sv (d_conv rfl (conv_int _ ⟨_, ti3⟩ ti57 rfl))) ?_
          refine wC (v := (.sl 2 0 x88.length 1 false)) (h' := [some ⟨5, l0_1.map (eI .u8)⟩, some ⟨41, C_api_Input x81⟩, some ⟨5, x88.map (eI .u8)⟩]) rfl (Vm.Fn.argsLe (Vm.Fn.lendB (codec_AppendSize_ok N [] (IntKind.u64.wrap (x81.Witness.length : Int)) x88 h_11) [] (by decide) rfl Lend.nil rfl rfl (by simp only [lent, lendSet, lendSet_nil, rnH, Blk.rn, V.rns, V.rn, sg, List.map_cons, List.map_nil, Option.map_some, Option.map_none, List.drop_succ_cons, List.drop_zero, List.drop_nil, List.set_cons_zero, List.set_cons_succ, List.cons_append, List.nil_append, List.append_nil, rns_eI, rns_eB, rns_eS, rns_eL, rns_C_api_OutPoint, rns_K_api_OutPoint, rns_C_api_Input, rns_K_api_Input, rns_C_api_Output, rns_K_api_Output, rns_ar4, rns_ar8, rns_ar20, rns_ar32, rns_ar64, List.getElem?_cons_zero, List.getElem?_cons_succ, List.getElem?_nil, List.length_cons, List.length_nil, Nat.reduceAdd, Nat.reduceSub, Nat.add_zero, Nat.zero_add, Nat.sub_self, Nat.sub_zero])) (V.les_cons V.le_nil (V.les_cons (V.le_refl _ _) V.les_nil))) ?_
          refine wS (v := (.sl 3 0 x89.length 1 false)) (h' := [none, some ⟨41, C_api_Input x81⟩, some ⟨5, x88.map (eI .u8)⟩, some ⟨5, x89.map (eI .u8)⟩]) (sv (d_append rfl rfl (appS (E := (eI .u8)) rfl ti42 ti5 ⟨rfl, rfl, Nat.le_of_ble_eq_true rfl⟩ rfl (srcS rfl rfl) h_12 rfl rfl))) ?_
          refine wS (v := (.sl 3 0 x89.length 1 false)) (sv (d_assign rfl)) ?_
          refine OpsW.nil ?_
          refine Ex.then_mk ?_
          refine AB.seq ?_
          refine AB.rw ?_
          refine wS (v := (.ptr 1 34)) (sv (d_fa rfl (fap41_2 ..))) ?_
          refine wS (v := (.row none 1 (x81.Witness.map (eL 1 (eI .u8))))) (sv (d_load rfl (ldP rfl (part1 ti39 rfl rfl)))) ?_
          refine wS (v := (eI .i64 (x81.Witness.length : Int))) (sv (d_len rfl (lenR ti39))) ?_
          refine wS (v := (eI .i64 0)) (sv (d_move rfl)) ?_
          refine OpsW.nil ?_
          refine Ex.then_mk ?_
          replace hr4 := bnd hr4; obtain ⟨res6, hL6, hr4⟩ := hr4
          refine AB.block ?_
          refine AB.loopN (fun m s h => ∃ (x93 : Int) (l0_3 : List Int), tx_encode_L6 N t_Inputs x79 x81 m x93 l0_3 = some res6 ∧ Ghost 0 s h (mkF 104 [(5, (.sl 0 0 l0_3.length 1 false)), (77, (.row none 35 (t_Inputs.map E_api_Input))), (78, (eI .i64 (t_Inputs.length : Int))), (79, (eI .i64 x79)), (91, (.row none 1 (x81.Witness.map (eL 1 (eI .u8))))), (92, (eI .i64 (x81.Witness.length : Int))), (93, (eI .i64 x93))]) [some ⟨5, l0_3.map (eI .u8)⟩]) (n := N) ⟨0, x89, hL6, (Ghost.rn [3] rfl rfl (FLe.same rfl (FLe.same rfl (FLe.same rfl (FLe.same rfl (FLe.same rfl (FLe.same rfl (FLe.same rfl FLe.nil))))))) (HLe.live rfl (les_map (fun _ => rfl) _) (all_map (fun _ => rfl) _) HLe.nil) rfl)⟩ (by rintro s h ⟨_, _, h0, _⟩; simp [tx_encode_L6] at h0) ?_
          rintro m6 s h ⟨x93, l0_3, hr6, hg⟩
          refine AB.ghost hg ?_
          clear hg hL6
          rw [tx_encode_L6] at hr6
          refine AB.seq ?_
          refine AB.rw ?_
          refine wS (v := (eB (decide (x93 < (x81.Witness.length : Int))))) (sv (d_bin rfl rfl (bin_lss ..))) ?_
          refine OpsW.nil ?_
          refine Ex.then_mk ?_
          refine AB.seq ?_
          refine AB.cnd rfl (fun h13 => ?_) (fun h13 => ?_)
          · replace hr6 := iteT hr6 h13
            refine AB.skip ?_
            refine Ex.then_mk ?_
            refine AB.seq ?_
            refine AB.block ?_
            refine AB.seq ?_
            replace hr6 := bnd hr6; obtain ⟨x95, h_14, hr6⟩ := hr6
            refine AB.rw ?_
            refine wS (sv (d_ia rfl rfl (iaR ti39 ti42 h_14))) ?_
            refine wS (v := (.row none 1 (x95.map (eI .u8)))) (sv (d_load rfl (ldR h_14 (part1 ti42 rfl rfl)))) ?_
            refine wS (v := (.row none 1 (x95.map (eI .u8)))) (sv (d_assign rfl)) ?_
            refine OpsW.nil ?_
            refine Ex.then_mk ?_
            replace hr6 := bnd hr6; obtain ⟨x99, h_15, hr6⟩ := hr6
            replace hr6 := bnd hr6; obtain ⟨x100, h_16, hr6⟩ := hr6
            refine AB.rw ?_
            refine wS (v := (.sl 0 0 l0_3.length 1 false)) (sv (d_move rfl)) ?_
            refine wS (v := (.row none 1 (x95.map (eI .u8)))) (sv (d_move rfl)) ?_
            refine wC (v := (.sl 1 0 x99.length 1 false)) (h' := [some ⟨5, l0_3.map (eI .u8)⟩, some ⟨5, x99.map (eI .u8)⟩]) rfl (Vm.Fn.argsLe (Vm.Fn.lendB (codec_AppendBytes_ok N [] x95 x99 h_15) [] (by decide) rfl Lend.nil rfl rfl (by simp only [lent, lendSet, lendSet_nil, rnH, Blk.rn, V.rns, V.rn, sg, List.map_cons, List.map_nil, Option.map_some, Option.map_none, List.drop_succ_cons, List.drop_zero, List.drop_nil, List.set_cons_zero, List.set_cons_succ, List.cons_append, List.nil_append, List.append_nil, rns_eI, rns_eB, rns_eS, rns_eL, rns_C_api_OutPoint, rns_K_api_OutPoint, rns_C_api_Input, rns_K_api_Input, rns_C_api_Output, rns_K_api_Output, rns_ar4, rns_ar8, rns_ar20, rns_ar32, rns_ar64, List.getElem?_cons_zero, List.getElem?_cons_succ, List.getElem?_nil, List.length_cons, List.length_nil, Nat.reduceAdd, Nat.reduceSub, Nat.add_zero, Nat.zero_add, Nat.sub_self, Nat.sub_zero])) (V.les_cons V.le_nil (V.les_cons (V.le_refl _ _) V.les_nil))) ?_
            refine wS (v := (.sl 2 0 x100.length 1 false)) (h' := [none, some ⟨5, x99.map (eI .u8)⟩, some ⟨5, x100.map (eI .u8)⟩]) (sv (d_append rfl rfl (appS (E := (eI .u8)) rfl ti42 ti5 ⟨rfl, rfl, Nat.le_of_ble_eq_true rfl⟩ rfl (srcS rfl rfl) h_16 rfl rfl))) ?_
            refine wS (v := (.sl 2 0 x100.length 1 false)) (sv (d_assign rfl)) ?_
            refine OpsW.nil ?_
            refine Ex.inBlock_mk ?_
            refine Ex.then_mk ?_
            refine AB.rw ?_
            refine wS (v := (eI .i64 (IntKind.i64.wrap (x93 + 1)))) (sv (d_bin rfl rfl (bin_add ..))) ?_
            refine wS (v := (eI .i64 (IntKind.i64.wrap (x93 + 1)))) (sv (d_move rfl)) ?_
            refine OpsW.nil ?_
            refine Ex.then_mk ?_
            exact ⟨IntKind.i64.wrap (x93 + 1), x100, hr6, (Ghost.rn [2] rfl rfl (FLe.same rfl (FLe.same rfl (FLe.same rfl (FLe.same rfl (FLe.same rfl (FLe.same rfl (FLe.same rfl FLe.nil))))))) (HLe.live rfl (les_map (fun _ => rfl) _) (all_map (fun _ => rfl) _) HLe.nil) rfl)⟩
          · replace hr6 := iteF hr6 h13
            refine AB.exit ?_
            refine Ex.then_exit_mk ?_
            refine Ex.then_exit_mk ?_
            refine Ex.inBlock_same_mk ?_
            obtain rfl := Option.some.inj hr6
            refine Ex.inBlock_mk ?_
            refine Ex.then_mk ?_
            exact hG5 _ _ _ _ (Ghost.rn [0] rfl rfl (FLe.same rfl (FLe.same rfl (FLe.same rfl (FLe.same rfl FLe.nil)))) (HLe.live rfl (les_map (fun _ => rfl) _) (all_map (fun _ => rfl) _) HLe.nil) rfl) (J5 l0_3 hr4)
        · replace hr4 := iteF hr4 h9
          refine AB.exit ?_
          refine Ex.then_exit_mk ?_
          refine Ex.then_exit_mk ?_
          refine Ex.inBlock_same_mk ?_
          obtain rfl := Option.some.inj hr4
          refine Ex.then_mk ?_
          exact hG3 _ _ _ _ (Ghost.rn [0] rfl rfl (FLe.same rfl FLe.nil) (HLe.live rfl (les_map (fun _ => rfl) _) (all_map (fun _ => rfl) _) HLe.nil) rfl) (J3 l0_1 hr)
    refine AB.seq ?_
    refine AB.rw ?_
    refine wS (v := (.ptr 0 2)) (sv (d_fa rfl (fap26_2 ..))) ?_
    refine wS (v := (.row none 2 (t_Outputs.map E_api_Output))) (sv (d_load rfl (ldP rfl (part1 ti24 rfl rfl)))) ?_
    refine wS (v := (eI .i64 (t_Outputs.length : Int))) (sv (d_len rfl (lenR ti24))) ?_
    refine wS (v := (eI .i64 0)) (sv (d_move rfl)) ?_
    refine OpsW.nil ?_
    refine Ex.then_mk ?_
    replace hr := bnd hr; obtain ⟨res7, hL7, hr⟩ := hr
    refine AB.block ?_
    refine AB.loopN (fun m s h => ∃ (x52 : Int) (l1_2 : List Int), tx_encode_L7 N t_Version t_Inputs t_Outputs t_Lock witness m x52 l1_2 = some res7 ∧ Ghost 0 s h (mkF 104 [(1, (eB witness)), (2, (.ptr 0 0)), (5, (.sl 1 0 l1_2.length 1 false)), (50, (.row none 2 (t_Outputs.map E_api_Output))), (51, (eI .i64 (t_Outputs.length : Int))), (52, (eI .i64 x52))]) [some ⟨26, [(eI .u32 t_Version), (.row none 35 (t_Inputs.map E_api_Input)), (.row none 2 (t_Outputs.map E_api_Output)), (eI .u32 t_Lock)]⟩, some ⟨5, l1_2.map (eI .u8)⟩]) (n := N) ⟨0, x48, hL7, (Ghost.rn [0, 3] rfl rfl (FLe.same rfl (FLe.same rfl (FLe.same rfl (FLe.same rfl (FLe.same rfl (FLe.same rfl FLe.nil)))))) (HLe.live rfl (V.les_refl _ _) rfl (HLe.live rfl (les_map (fun _ => rfl) _) (all_map (fun _ => rfl) _) HLe.nil)) rfl)⟩ (by rintro s h ⟨_, _, h0, _⟩; simp [tx_encode_L7] at h0) ?_
    rintro m7 s h ⟨x52, l1_2, hr7, hg⟩
    refine AB.ghost hg ?_
    clear hg hL7
    rw [tx_encode_L7] at hr7
    refine AB.seq ?_
    refine AB.rw ?_
    refine wS (v := (eB (decide (x52 < (t_Outputs.length : Int))))) (sv (d_bin rfl rfl (bin_lss ..))) ?_
    refine OpsW.nil ?_
    refine Ex.then_mk ?_
    refine AB.seq ?_
    refine AB.cnd rfl (fun h17 => ?_) (fun h17 => ?_)
    · replace hr7 := iteT hr7 h17
      refine AB.skip ?_
      refine Ex.then_mk ?_
      refine AB.seq ?_
      refine AB.block ?_
      refine AB.seq ?_
      replace hr7 := bnd hr7; obtain ⟨x54, h_18, hr7⟩ := hr7
      refine AB.rw ?_
      refine wS (sv (d_ia rfl rfl (iaR ti24 ti44 h_18))) ?_
      refine wS (v := (.agg [(eI .i64 x54.Value), (.row none 1 (x54.Script.map (eI .u8)))])) (sv (d_load rfl (ldR h_18 (partN (ds := [(eI .i64 x54.Value), (.row none 1 (x54.Script.map (eI .u8)))]) ti44 rfl (Nat.le_of_ble_eq_true rfl) rfl)))) ?_
      refine wS (v := (.ptr 2 0)) (h' := [some ⟨26, [(eI .u32 t_Version), (.row none 35 (t_Inputs.map E_api_Input)), (.row none 2 (t_Outputs.map E_api_Output)), (eI .u32 t_Lock)]⟩, some ⟨5, l1_2.map (eI .u8)⟩, some ⟨44, [(eI .i64 0), (.row (some true) 1 [])]⟩]) (sv (d_alloc ti44 rfl rfl rfl)) ?_
      refine wN (h' := [some ⟨26, [(eI .u32 t_Version), (.row none 35 (t_Inputs.map E_api_Input)), (.row none 2 (t_Outputs.map E_api_Output)), (eI .u32 t_Lock)]⟩, some ⟨5, l1_2.map (eI .u8)⟩, some ⟨44, [(eI .i64 x54.Value), (.row none 1 (x54.Script.map (eI .u8)))]⟩]) (sv (d_store rfl rfl (stP ti44 rfl rfl rfl (Nat.le_of_ble_eq_true rfl) rfl))) ?_
      refine OpsW.nil ?_
      refine Ex.then_mk ?_
      refine AB.seq ?_
      replace hr7 := bnd hr7; obtain ⟨x60, h_19, hr7⟩ := hr7
      replace hr7 := bnd hr7; obtain ⟨x61, h_20, hr7⟩ := hr7
      refine AB.rw ?_
      refine wS (v := (.sl 1 0 l1_2.length 1 false)) (sv (d_move rfl)) ?_
      refine wS (v := (.ptr 2 0)) (sv (d_fa rfl (fap44_0 ..))) ?_
      refine wS (v := (eI .i64 x54.Value)) (sv (d_load rfl (ldP rfl (part1 ti2 rfl rfl)))) ?_
      refine wS (v := (eI .u64 (IntKind.u64.wrap x54.Value))) (sv (d_conv rfl (conv_int _ ⟨_, ti2⟩ ti57 rfl))) ?_
      refine wC (v := (.sl 3 0 x60.length 1 false)) (h' := [some ⟨26, [(eI .u32 t_Version), (.row none 35 (t_Inputs.map E_api_Input)), (.row none 2 (t_Outputs.map E_api_Output)), (eI .u32 t_Lock)]⟩, some ⟨5, l1_2.map (eI .u8)⟩, some ⟨44, [(eI .i64 x54.Value), (.row none 1 (x54.Script.map (eI .u8)))]⟩, some ⟨5, x60.map (eI .u8)⟩]) rfl (Vm.Fn.argsLe (Vm.Fn.lendB (codec_AppendU64_ok N [] (IntKind.u64.wrap x54.Value) x60 h_19) [] (by decide) rfl Lend.nil rfl rfl (by simp only [lent, lendSet, lendSet_nil, rnH, Blk.rn, V.rns, V.rn, sg, List.map_cons, List.map_nil, Option.map_some, Option.map_none, List.drop_succ_cons, List.drop_zero, List.drop_nil, List.set_cons_zero, List.set_cons_succ, List.cons_append, List.nil_append, List.append_nil, rns_eI, rns_eB, rns_eS, rns_eL, rns_C_api_OutPoint, rns_K_api_OutPoint, rns_C_api_Input, rns_K_api_Input, rns_C_api_Output, rns_K_api_Output, rns_ar4, rns_ar8, rns_ar20, rns_ar32, rns_ar64, List.getElem?_cons_zero, List.getElem?_cons_succ, List.getElem?_nil, List.length_cons, List.length_nil, Nat.reduceAdd, Nat.reduceSub, Nat.add_zero, Nat.zero_add, Nat.sub_self, Nat.sub_zero])) (V.les_cons V.le_nil (V.les_cons (V.le_refl _ _) V.les_nil))) ?_
      refine wS (v := (.sl 4 0 x61.length 1 false)) (h' := [some ⟨26, [(eI .u32 t_Version), (.row none 35 (t_Inputs.map E_api_Input)), (.row none 2 (t_Outputs.map E_api_Output)), (eI .u32 t_Lock)]⟩, none, some ⟨44, [(eI .i64 x54.Value), (.row none 1 (x54.Script.map (eI .u8)))]⟩, some ⟨5, x60.map (eI .u8)⟩, some ⟨5, x61.map (eI .u8)⟩]) (sv (d_append rfl rfl (appS (E := (eI .u8)) rfl ti42 ti5 ⟨rfl, rfl, Nat.le_of_ble_eq_true rfl⟩ rfl (srcS rfl rfl) h_20 rfl rfl))) ?_
      refine wS (v := (.sl 4 0 x61.length 1 false)) (sv (d_assign rfl)) ?_
      refine OpsW.nil ?_
      refine Ex.then_mk ?_
      replace hr7 := bnd hr7; obtain ⟨x65, h_21, hr7⟩ := hr7
      replace hr7 := bnd hr7; obtain ⟨x66, h_22, hr7⟩ := hr7
      refine AB.rw ?_
      refine wS (v := (.sl 4 0 x61.length 1 false)) (sv (d_move rfl)) ?_
      refine wS (v := (.ptr 2 1)) (sv (d_fa rfl (fap44_1 ..))) ?_
      refine wS (v := (.row none 1 (x54.Script.map (eI .u8)))) (sv (d_load rfl (ldP rfl (part1 ti42 rfl rfl)))) ?_
      refine wC (v := (.sl 5 0 x65.length 1 false)) (h' := [some ⟨26, [(eI .u32 t_Version), (.row none 35 (t_Inputs.map E_api_Input)), (.row none 2 (t_Outputs.map E_api_Output)), (eI .u32 t_Lock)]⟩, none, some ⟨44, [(eI .i64 x54.Value), (.row none 1 (x54.Script.map (eI .u8)))]⟩, some ⟨5, x60.map (eI .u8)⟩, some ⟨5, x61.map (eI .u8)⟩, some ⟨5, x65.map (eI .u8)⟩]) rfl (Vm.Fn.argsLe (Vm.Fn.lendB (codec_AppendBytes_ok N [] x54.Script x65 h_21) [] (by decide) rfl Lend.nil rfl rfl (by simp only [lent, lendSet, lendSet_nil, rnH, Blk.rn, V.rns, V.rn, sg, List.map_cons, List.map_nil, Option.map_some, Option.map_none, List.drop_succ_cons, List.drop_zero, List.drop_nil, List.set_cons_zero, List.set_cons_succ, List.cons_append, List.nil_append, List.append_nil, rns_eI, rns_eB, rns_eS, rns_eL, rns_C_api_OutPoint, rns_K_api_OutPoint, rns_C_api_Input, rns_K_api_Input, rns_C_api_Output, rns_K_api_Output, rns_ar4, rns_ar8, rns_ar20, rns_ar32, rns_ar64, List.getElem?_cons_zero, List.getElem?_cons_succ, List.getElem?_nil, List.length_cons, List.length_nil, Nat.reduceAdd, Nat.reduceSub, Nat.add_zero, Nat.zero_add, Nat.sub_self, Nat.sub_zero])) (V.les_cons V.le_nil (V.les_cons (V.le_refl _ _) V.les_nil))) ?_
      refine wS (v := (.sl 6 0 x66.length 1 false)) (h' := [some ⟨26, [(eI .u32 t_Version), (.row none 35 (t_Inputs.map E_api_Input)), (.row none 2 (t_Outputs.map E_api_Output)), (eI .u32 t_Lock)]⟩, none, some ⟨44, [(eI .i64 x54.Value), (.row none 1 (x54.Script.map (eI .u8)))]⟩, some ⟨5, x60.map (eI .u8)⟩, none, some ⟨5, x65.map (eI .u8)⟩, some ⟨5, x66.map (eI .u8)⟩]) (sv (d_append rfl rfl (appS (E := (eI .u8)) rfl ti42 ti5 ⟨rfl, rfl, Nat.le_of_ble_eq_true rfl⟩ rfl (srcS rfl rfl) h_22 rfl rfl))) ?_
      refine wS (v := (.sl 6 0 x66.length 1 false)) (sv (d_assign rfl)) ?_
      refine OpsW.nil ?_
      refine Ex.inBlock_mk ?_
      refine Ex.then_mk ?_
      refine AB.rw ?_
      refine wS (v := (eI .i64 (IntKind.i64.wrap (x52 + 1)))) (sv (d_bin rfl rfl (bin_add ..))) ?_
      refine wS (v := (eI .i64 (IntKind.i64.wrap (x52 + 1)))) (sv (d_move rfl)) ?_
      refine OpsW.nil ?_
      refine Ex.then_mk ?_
      exact ⟨IntKind.i64.wrap (x52 + 1), x66, hr7, (Ghost.rn [0, 6] rfl rfl (FLe.same rfl (FLe.same rfl (FLe.same rfl (FLe.same rfl (FLe.same rfl (FLe.same rfl FLe.nil)))))) (HLe.live rfl (V.les_refl _ _) rfl (HLe.live rfl (les_map (fun _ => rfl) _) (all_map (fun _ => rfl) _) HLe.nil)) rfl)⟩
    · replace hr7 := iteF hr7 h17
      refine AB.exit ?_
      refine Ex.then_exit_mk ?_
      refine Ex.then_exit_mk ?_
      refine Ex.inBlock_same_mk ?_
      obtain rfl := Option.some.inj hr7
      refine Ex.then_mk ?_
      exact hG2 _ _ _ _ (Ghost.rn [0, 1] rfl rfl (FLe.same rfl (FLe.same rfl (FLe.same rfl FLe.nil))) (HLe.live rfl (V.les_refl _ _) rfl (HLe.live rfl (les_map (fun _ => rfl) _) (all_map (fun _ => rfl) _) HLe.nil)) rfl) (J2 l1_2 hr)
  refine AB.seq ?_
  refine AB.rw ?_
  refine wS (v := (.ptr 0 1)) (sv (d_fa rfl (fap26_1 ..))) ?_
  refine wS (v := (.row none 35 (t_Inputs.map E_api_Input))) (sv (d_load rfl (ldP rfl (part1 ti23 rfl rfl)))) ?_
  refine wS (v := (eI .i64 (t_Inputs.length : Int))) (sv (d_len rfl (lenR ti23))) ?_
  refine wS (v := (eI .i64 0)) (sv (d_move rfl)) ?_
  refine OpsW.nil ?_
  refine Ex.then_mk ?_
  replace hr := bnd hr; obtain ⟨res8, hL8, hr⟩ := hr
  refine AB.block ?_
  refine AB.loopN (fun m s h => ∃ (x27 : Int) (l1_3 : List Int), tx_encode_L8 N t_Version t_Inputs t_Outputs t_Lock witness m x27 l1_3 = some res8 ∧ Ghost 0 s h (mkF 104 [(1, (eB witness)), (2, (.ptr 0 0)), (5, (.sl 1 0 l1_3.length 1 false)), (25, (.row none 35 (t_Inputs.map E_api_Input))), (26, (eI .i64 (t_Inputs.length : Int))), (27, (eI .i64 x27))]) [some ⟨26, [(eI .u32 t_Version), (.row none 35 (t_Inputs.map E_api_Input)), (.row none 2 (t_Outputs.map E_api_Output)), (eI .u32 t_Lock)]⟩, some ⟨5, l1_3.map (eI .u8)⟩]) (n := N) ⟨0, x23, hL8, (Ghost.rn [0, 3] rfl rfl (FLe.same rfl (FLe.same rfl (FLe.same rfl (FLe.same rfl (FLe.same rfl (FLe.same rfl FLe.nil)))))) (HLe.live rfl (V.les_refl _ _) rfl (HLe.live rfl (les_map (fun _ => rfl) _) (all_map (fun _ => rfl) _) HLe.nil)) rfl)⟩ (by rintro s h ⟨_, _, h0, _⟩; simp [tx_encode_L8] at h0) ?_
  rintro m8 s h ⟨x27, l1_3, hr8, hg⟩
  refine AB.ghost hg ?_
  clear hg hL8
  rw [tx_encode_L8] at hr8
  refine AB.seq ?_
  refine AB.rw ?_
  refine wS (v := (eB (decide (x27 < (t_Inputs.length : Int))))) (sv (d_bin rfl rfl (bin_lss ..))) ?_
  refine OpsW.nil ?_
  refine Ex.then_mk ?_
  refine AB.seq ?_
  refine AB.cnd rfl (fun h23 => ?_) (fun h23 => ?_)
  · replace hr8 := iteT hr8 h23
    refine AB.skip ?_
    refine Ex.then_mk ?_
    refine AB.seq ?_
    refine AB.block ?_
    refine AB.seq ?_
    replace hr8 := bnd hr8; obtain ⟨x29, h_24, hr8⟩ := hr8
    refine AB.rw ?_
    refine wS (sv (d_ia rfl rfl (iaR ti23 ti41 h_24))) ?_
    refine wS (v := (E_api_Input x29)) (sv (d_load rfl (ldR h_24 (partN (ds := (ar32 (eI .u8) x29.Prev.Tx [(eI .u32 x29.Prev.Index), (eI .u32 x29.Sequence), (.row none 1 (x29.Witness.map (eL 1 (eI .u8))))])) ti41 rfl (Nat.le_of_ble_eq_true rfl) rfl)))) ?_
    refine wS (v := (.ptr 2 0)) (h' := [some ⟨26, [(eI .u32 t_Version), (.row none 35 (t_Inputs.map E_api_Input)), (.row none 2 (t_Outputs.map E_api_Output)), (eI .u32 t_Lock)]⟩, some ⟨5, l1_3.map (eI .u8)⟩, some ⟨41, (ar32 (eI .u8) (List.replicate 32 0) [(eI .u32 0), (eI .u32 0), (.row (some true) 1 [])])⟩]) (sv (d_alloc ti41 rfl rfl rfl)) ?_
    refine wN (h' := [some ⟨26, [(eI .u32 t_Version), (.row none 35 (t_Inputs.map E_api_Input)), (.row none 2 (t_Outputs.map E_api_Output)), (eI .u32 t_Lock)]⟩, some ⟨5, l1_3.map (eI .u8)⟩, some ⟨41, C_api_Input x29⟩]) (sv (d_store rfl rfl (stP ti41 rfl rfl rfl (Nat.le_of_ble_eq_true rfl) rfl))) ?_
    refine OpsW.nil ?_
    refine Ex.then_mk ?_
    refine AB.seq ?_
    replace hr8 := bnd hr8; obtain ⟨x34, h_25, hr8⟩ := hr8
    replace hr8 := bnd hr8; obtain ⟨x35, h_26, hr8⟩ := hr8
    refine AB.rw ?_
    refine wS (v := (.sl 1 0 l1_3.length 1 false)) (sv (d_move rfl)) ?_
    refine wS (v := (.ptr 2 0)) (sv (d_fa rfl (fap41_0 ..))) ?_
    refine wS (v := (E_api_OutPoint x29.Prev)) (sv (d_load rfl (ldP rfl (partN (ds := (ar32 (eI .u8) x29.Prev.Tx [(eI .u32 x29.Prev.Index)])) ti38 rfl (Nat.le_of_ble_eq_true rfl) rfl)))) ?_
    refine wC (v := (.sl 3 0 x34.length 1 false)) (h' := [some ⟨26, [(eI .u32 t_Version), (.row none 35 (t_Inputs.map E_api_Input)), (.row none 2 (t_Outputs.map E_api_Output)), (eI .u32 t_Lock)]⟩, some ⟨5, l1_3.map (eI .u8)⟩, some ⟨41, C_api_Input x29⟩, some ⟨5, x34.map (eI .u8)⟩]) rfl (Vm.Fn.lendB (tx_Point_ok N x29.Prev.Tx x29.Prev.Index x34 h_25) [] (by decide) rfl Lend.nil rfl rfl (by simp only [lent, lendSet, lendSet_nil, rnH, Blk.rn, V.rns, V.rn, sg, List.map_cons, List.map_nil, Option.map_some, Option.map_none, List.drop_succ_cons, List.drop_zero, List.drop_nil, List.set_cons_zero, List.set_cons_succ, List.cons_append, List.nil_append, List.append_nil, rns_eI, rns_eB, rns_eS, rns_eL, rns_C_api_OutPoint, rns_K_api_OutPoint, rns_C_api_Input, rns_K_api_Input, rns_C_api_Output, rns_K_api_Output, rns_ar4, rns_ar8, rns_ar20, rns_ar32, rns_ar64, List.getElem?_cons_zero, List.getElem?_cons_succ, List.getElem?_nil, List.length_cons, List.length_nil, Nat.reduceAdd, Nat.reduceSub, Nat.add_zero, Nat.zero_add, Nat.sub_self, Nat.sub_zero])) ?_
    refine wS (v := (.sl 4 0 x35.length 1 false)) (h' := [some ⟨26, [(eI .u32 t_Version), (.row none 35 (t_Inputs.map E_api_Input)), (.row none 2 (t_Outputs.map E_api_Output)), (eI .u32 t_Lock)]⟩, none, some ⟨41, C_api_Input x29⟩, some ⟨5, x34.map (eI .u8)⟩, some ⟨5, x35.map (eI .u8)⟩]) (sv (d_append rfl rfl (appS (E := (eI .u8)) rfl ti42 ti5 ⟨rfl, rfl, Nat.le_of_ble_eq_true rfl⟩ rfl (srcS rfl rfl) h_26 rfl rfl))) ?_
    refine wS (v := (.sl 4 0 x35.length 1 false)) (sv (d_assign rfl)) ?_
    refine OpsW.nil ?_
    refine Ex.then_mk ?_
    replace hr8 := bnd hr8; obtain ⟨x39, h_27, hr8⟩ := hr8
    replace hr8 := bnd hr8; obtain ⟨x40, h_28, hr8⟩ := hr8
    refine AB.rw ?_
    refine wS (v := (.sl 4 0 x35.length 1 false)) (sv (d_move rfl)) ?_
    refine wS (v := (.ptr 2 33)) (sv (d_fa rfl (fap41_1 ..))) ?_
    refine wS (v := (eI .u32 x29.Sequence)) (sv (d_load rfl (ldP rfl (part1 ti22 rfl rfl)))) ?_
    refine wC (v := (.sl 5 0 x39.length 1 false)) (h' := [some ⟨26, [(eI .u32 t_Version), (.row none 35 (t_Inputs.map E_api_Input)), (.row none 2 (t_Outputs.map E_api_Output)), (eI .u32 t_Lock)]⟩, none, some ⟨41, C_api_Input x29⟩, some ⟨5, x34.map (eI .u8)⟩, some ⟨5, x35.map (eI .u8)⟩, some ⟨5, x39.map (eI .u8)⟩]) rfl (Vm.Fn.argsLe (Vm.Fn.lendB (codec_AppendU32_ok N [] x29.Sequence x39 h_27) [] (by decide) rfl Lend.nil rfl rfl (by simp only [lent, lendSet, lendSet_nil, rnH, Blk.rn, V.rns, V.rn, sg, List.map_cons, List.map_nil, Option.map_some, Option.map_none, List.drop_succ_cons, List.drop_zero, List.drop_nil, List.set_cons_zero, List.set_cons_succ, List.cons_append, List.nil_append, List.append_nil, rns_eI, rns_eB, rns_eS, rns_eL, rns_C_api_OutPoint, rns_K_api_OutPoint, rns_C_api_Input, rns_K_api_Input, rns_C_api_Output, rns_K_api_Output, rns_ar4, rns_ar8, rns_ar20, rns_ar32, rns_ar64, List.getElem?_cons_zero, List.getElem?_cons_succ, List.getElem?_nil, List.length_cons, List.length_nil, Nat.reduceAdd, Nat.reduceSub, Nat.add_zero, Nat.zero_add, Nat.sub_self, Nat.sub_zero])) (V.les_cons V.le_nil (V.les_cons (V.le_refl _ _) V.les_nil))) ?_
    refine wS (v := (.sl 6 0 x40.length 1 false)) (h' := [some ⟨26, [(eI .u32 t_Version), (.row none 35 (t_Inputs.map E_api_Input)), (.row none 2 (t_Outputs.map E_api_Output)), (eI .u32 t_Lock)]⟩, none, some ⟨41, C_api_Input x29⟩, some ⟨5, x34.map (eI .u8)⟩, none, some ⟨5, x39.map (eI .u8)⟩, some ⟨5, x40.map (eI .u8)⟩]) (sv (d_append rfl rfl (appS (E := (eI .u8)) rfl ti42 ti5 ⟨rfl, rfl, Nat.le_of_ble_eq_true rfl⟩ rfl (srcS rfl rfl) h_28 rfl rfl))) ?_
    refine wS (v := (.sl 6 0 x40.length 1 false)) (sv (d_assign rfl)) ?_
    refine OpsW.nil ?_
    refine Ex.inBlock_mk ?_
    refine Ex.then_mk ?_
    refine AB.rw ?_
    refine wS (v := (eI .i64 (IntKind.i64.wrap (x27 + 1)))) (sv (d_bin rfl rfl (bin_add ..))) ?_
    refine wS (v := (eI .i64 (IntKind.i64.wrap (x27 + 1)))) (sv (d_move rfl)) ?_
    refine OpsW.nil ?_
    refine Ex.then_mk ?_
    exact ⟨IntKind.i64.wrap (x27 + 1), x40, hr8, (Ghost.rn [0, 6] rfl rfl (FLe.same rfl (FLe.same rfl (FLe.same rfl (FLe.same rfl (FLe.same rfl (FLe.same rfl FLe.nil)))))) (HLe.live rfl (V.les_refl _ _) rfl (HLe.live rfl (les_map (fun _ => rfl) _) (all_map (fun _ => rfl) _) HLe.nil)) rfl)⟩
  · replace hr8 := iteF hr8 h23
    refine AB.exit ?_
    refine Ex.then_exit_mk ?_
    refine Ex.then_exit_mk ?_
    refine Ex.inBlock_same_mk ?_
    obtain rfl := Option.some.inj hr8
    refine Ex.then_mk ?_
    exact hG1 _ _ _ _ (Ghost.rn [0, 1] rfl rfl (FLe.same rfl (FLe.same rfl (FLe.same rfl FLe.nil))) (HLe.live rfl (V.les_refl _ _) rfl (HLe.live rfl (les_map (fun _ => rfl) _) (all_map (fun _ => rfl) _) HLe.nil)) rfl) (J1 l1_3 hr)
set_option maxRecDepth 20000 in
set_option maxHeartbeats 1000000 in
theorem tx_fits_ok (N : Nat) (t_Version : Int) (t_Inputs : List S_api_Input) (t_Outputs : List S_api_Output) (t_Lock : Int) (r : Bool) (hr : tx_fits N t_Version t_Inputs t_Outputs t_Lock = some r) :
    Vm.Fn Try.prog 13 [] [(.agg [(eI .u32 t_Version), (.row none 35 (t_Inputs.map E_api_Input)), (.row none 2 (t_Outputs.map E_api_Output)), (eI .u32 t_Lock)])] (eB r) [] := by
  refine fn_ab Try.func13 rfl (by kernel_rfl) Try.ntmps13 (Nat.le_of_ble_eq_true rfl) rfl (fr := [(0, (.agg [(eI .u32 t_Version), (.row none 35 (t_Inputs.map E_api_Input)), (.row none 2 (t_Outputs.map E_api_Output)), (eI .u32 t_Lock)]))]) rfl ?_
  unfold tx_fits at hr
  refine AB.seq ?_
  refine AB.rw ?_
  refine wS (v := (.ptr 0 0)) (h' := [some ⟨26, [(eI .u32 t_Version), (.row none 35 (t_Inputs.map E_api_Input)), (.row none 2 (t_Outputs.map E_api_Output)), (eI .u32 t_Lock)]⟩]) (sv (d_box rfl rfl rfl rfl)) ?_
  refine wS (v := (eB false)) (sv (d_assign rfl)) ?_
  refine OpsW.nil ?_
  refine Ex.then_mk ?_
  refine AB.seq ?_
  refine AB.seq_g fun K1 hK1 hG1 => ?_
  have J1 : ∀ (x18 : Bool), tx_fits_J1 N t_Version t_Inputs t_Outputs t_Lock x18 = some r → K1 (mkF 63 [(1, (.ptr 0 0)), (18, (eB x18))]) [some ⟨26, [(eI .u32 t_Version), (.row none 35 (t_Inputs.map E_api_Input)), (.row none 2 (t_Outputs.map E_api_Output)), (eI .u32 t_Lock)]⟩] := by
    intro x18 hr
    unfold tx_fits_J1 at hr
    refine hK1 _ _ ?_
    refine AB.cnd rfl (fun h1 => ?_) (fun h1 => ?_)
    · replace hr := iteT hr h1
      refine AB.seq ?_
      refine AB.rw ?_
      refine wS (v := (eB false)) (sv (d_assign rfl)) ?_
      refine OpsW.nil ?_
      refine Ex.then_mk ?_
      refine AB.ret ?_
      refine Ex.then_ret_mk ?_
      obtain rfl := Option.some.inj hr
      exact done_ret (r1 := (eB false)) (res1 Try.results13 (rvT rfl)) (Ghost.rn [] rfl rfl (FLe.same rfl FLe.nil) HLe.nil rfl)
    · replace hr := iteF hr h1
      refine AB.skip ?_
      refine Ex.then_mk ?_
      refine AB.seq_g fun K2 hK2 hG2 => ?_
      have J2 : tx_fits_J2 N t_Version t_Inputs t_Outputs t_Lock = some r → K2 (mkF 63 [(1, (.ptr 0 0))]) [some ⟨26, [(eI .u32 t_Version), (.row none 35 (t_Inputs.map E_api_Input)), (.row none 2 (t_Outputs.map E_api_Output)), (eI .u32 t_Lock)]⟩] := by
        intro hr
        unfold tx_fits_J2 at hr
        refine hK2 _ _ ?_
        refine AB.seq_g fun K3 hK3 hG3 => ?_
        have J3 : tx_fits_J3 N t_Version t_Inputs t_Outputs t_Lock = some r → K3 (mkF 63 [(1, (.ptr 0 0))]) [some ⟨26, [(eI .u32 t_Version), (.row none 35 (t_Inputs.map E_api_Input)), (.row none 2 (t_Outputs.map E_api_Output)), (eI .u32 t_Lock)]⟩] := by
          intro hr
          unfold tx_fits_J3 at hr
          refine hK3 _ _ ?_
          refine AB.seq ?_
          replace hr := bnd hr; obtain ⟨x60, h_2, hr⟩ := hr
          refine AB.rw ?_
          refine wS (v := (.agg [(eI .u32 t_Version), (.row none 35 (t_Inputs.map E_api_Input)), (.row none 2 (t_Outputs.map E_api_Output)), (eI .u32 t_Lock)])) (sv (d_load rfl (ldP rfl (partN (ds := [(eI .u32 t_Version), (.row none 35 (t_Inputs.map E_api_Input)), (.row none 2 (t_Outputs.map E_api_Output)), (eI .u32 t_Lock)]) ti26 rfl (Nat.le_of_ble_eq_true rfl) rfl)))) ?_
          refine wC (v := (.sl 1 0 x60.length 1 false)) (h' := [some ⟨26, [(eI .u32 t_Version), (.row none 35 (t_Inputs.map E_api_Input)), (.row none 2 (t_Outputs.map E_api_Output)), (eI .u32 t_Lock)]⟩, some ⟨5, x60.map (eI .u8)⟩]) rfl (Vm.Fn.lendB (tx_encode_ok N t_Version t_Inputs t_Outputs t_Lock true x60 h_2) [] (by decide) rfl Lend.nil rfl rfl (by simp only [lent, lendSet, lendSet_nil, rnH, Blk.rn, V.rns, V.rn, sg, List.map_cons, List.map_nil, Option.map_some, Option.map_none, List.drop_succ_cons, List.drop_zero, List.drop_nil, List.set_cons_zero, List.set_cons_succ, List.cons_append, List.nil_append, List.append_nil, rns_eI, rns_eB, rns_eS, rns_eL, rns_C_api_OutPoint, rns_K_api_OutPoint, rns_C_api_Input, rns_K_api_Input, rns_C_api_Output, rns_K_api_Output, rns_ar4, rns_ar8, rns_ar20, rns_ar32, rns_ar64, List.getElem?_cons_zero, List.getElem?_cons_succ, List.getElem?_nil, List.length_cons, List.length_nil, Nat.reduceAdd, Nat.reduceSub, Nat.add_zero, Nat.zero_add, Nat.sub_self, Nat.sub_zero])) ?_
          refine wS (v := (eI .i64 (x60.length : Int))) (sv (d_len rfl (lenS ti42))) ?_
          refine wS (v := (eB (decide ((x60.length : Int) ≤ 20000)))) (sv (d_bin rfl rfl (bin_leq ..))) ?_
          refine wS (v := (eB (decide ((x60.length : Int) ≤ 20000)))) (sv (d_assign rfl)) ?_
          refine OpsW.nil ?_
          refine Ex.then_mk ?_
          refine AB.ret ?_
          obtain rfl := Option.some.inj hr
          exact done_ret (r1 := (eB (decide ((x60.length : Int) ≤ 20000)))) (res1 Try.results13 (rvT rfl)) (Ghost.rn [] rfl rfl (FLe.same rfl FLe.nil) HLe.nil rfl)
        refine AB.seq ?_
        refine AB.rw ?_
        refine wS (v := (.ptr 0 1)) (sv (d_fa rfl (fap26_1 ..))) ?_
        refine wS (v := (.row none 35 (t_Inputs.map E_api_Input))) (sv (d_load rfl (ldP rfl (part1 ti23 rfl rfl)))) ?_
        refine wS (v := (eI .i64 (t_Inputs.length : Int))) (sv (d_len rfl (lenR ti23))) ?_
        refine wS (v := (eI .i64 0)) (sv (d_move rfl)) ?_
        refine OpsW.nil ?_
        refine Ex.then_mk ?_
        replace hr := bnd hr; obtain ⟨res4, hL4, hr⟩ := hr
        refine AB.block ?_
        refine AB.loopN (fun m s h => ∃ (x39 : Int), tx_fits_L4 N t_Version t_Inputs t_Outputs t_Lock m x39 = some res4 ∧ Ghost 0 s h (mkF 63 [(1, (.ptr 0 0)), (37, (.row none 35 (t_Inputs.map E_api_Input))), (38, (eI .i64 (t_Inputs.length : Int))), (39, (eI .i64 x39))]) [some ⟨26, [(eI .u32 t_Version), (.row none 35 (t_Inputs.map E_api_Input)), (.row none 2 (t_Outputs.map E_api_Output)), (eI .u32 t_Lock)]⟩]) (n := N) ⟨0, hL4, (Ghost.rn [0] rfl rfl (FLe.same rfl (FLe.same rfl (FLe.same rfl (FLe.same rfl FLe.nil)))) (HLe.live rfl (V.les_refl _ _) rfl HLe.nil) rfl)⟩ (by rintro s h ⟨_, h0, _⟩; simp [tx_fits_L4] at h0) ?_
        rintro m4 s h ⟨x39, hr4, hg⟩
        refine AB.ghost hg ?_
        clear hg hL4
        rw [tx_fits_L4] at hr4
        refine AB.seq ?_
        refine AB.rw ?_
        refine wS (v := (eB (decide (x39 < (t_Inputs.length : Int))))) (sv (d_bin rfl rfl (bin_lss ..))) ?_
        refine OpsW.nil ?_
        refine Ex.then_mk ?_
        refine AB.seq ?_
        refine AB.cnd rfl (fun h3 => ?_) (fun h3 => ?_)
        · replace hr4 := iteT hr4 h3
          refine AB.skip ?_
          refine Ex.then_mk ?_
          refine AB.seq_g fun K5 hK5 hG5 => ?_
          have J5 : tx_fits_J5 N t_Version t_Inputs t_Outputs t_Lock x39 (tx_fits_L4 N t_Version t_Inputs t_Outputs t_Lock m4) = some res4 → K5 (mkF 63 [(1, (.ptr 0 0)), (37, (.row none 35 (t_Inputs.map E_api_Input))), (38, (eI .i64 (t_Inputs.length : Int))), (39, (eI .i64 x39))]) [some ⟨26, [(eI .u32 t_Version), (.row none 35 (t_Inputs.map E_api_Input)), (.row none 2 (t_Outputs.map E_api_Output)), (eI .u32 t_Lock)]⟩] := by
            intro hr4
            unfold tx_fits_J5 at hr4
            refine hK5 _ _ ?_
            refine AB.rw ?_
            refine wS (v := (eI .i64 (IntKind.i64.wrap (x39 + 1)))) (sv (d_bin rfl rfl (bin_add ..))) ?_
            refine wS (v := (eI .i64 (IntKind.i64.wrap (x39 + 1)))) (sv (d_move rfl)) ?_
            refine OpsW.nil ?_
            refine Ex.then_mk ?_
            exact ⟨IntKind.i64.wrap (x39 + 1), hr4, (Ghost.rn [0] rfl rfl (FLe.same rfl (FLe.same rfl (FLe.same rfl (FLe.same rfl FLe.nil)))) (HLe.live rfl (V.les_refl _ _) rfl HLe.nil) rfl)⟩
          refine AB.block ?_
          refine AB.seq ?_
          replace hr4 := bnd hr4; obtain ⟨x41, h_4, hr4⟩ := hr4
          refine AB.rw ?_
          refine wS (sv (d_ia rfl rfl (iaR ti23 ti41 h_4))) ?_
          refine wS (v := (E_api_Input x41)) (sv (d_load rfl (ldR h_4 (partN (ds := (ar32 (eI .u8) x41.Prev.Tx [(eI .u32 x41.Prev.Index), (eI .u32 x41.Sequence), (.row none 1 (x41.Witness.map (eL 1 (eI .u8))))])) ti41 rfl (Nat.le_of_ble_eq_true rfl) rfl)))) ?_
          refine wS (v := (.ptr 1 0)) (h' := [some ⟨26, [(eI .u32 t_Version), (.row none 35 (t_Inputs.map E_api_Input)), (.row none 2 (t_Outputs.map E_api_Output)), (eI .u32 t_Lock)]⟩, some ⟨41, (ar32 (eI .u8) (List.replicate 32 0) [(eI .u32 0), (eI .u32 0), (.row (some true) 1 [])])⟩]) (sv (d_alloc ti41 rfl rfl rfl)) ?_
          refine wN (h' := [some ⟨26, [(eI .u32 t_Version), (.row none 35 (t_Inputs.map E_api_Input)), (.row none 2 (t_Outputs.map E_api_Output)), (eI .u32 t_Lock)]⟩, some ⟨41, C_api_Input x41⟩]) (sv (d_store rfl rfl (stP ti41 rfl rfl rfl (Nat.le_of_ble_eq_true rfl) rfl))) ?_
          refine OpsW.nil ?_
          refine Ex.then_mk ?_
          refine AB.seq ?_
          refine AB.seq ?_
          refine AB.rw ?_
          refine wS (v := (.ptr 1 34)) (sv (d_fa rfl (fap41_2 ..))) ?_
          refine wS (v := (.row none 1 (x41.Witness.map (eL 1 (eI .u8))))) (sv (d_load rfl (ldP rfl (part1 ti39 rfl rfl)))) ?_
          refine wS (v := (eI .i64 (x41.Witness.length : Int))) (sv (d_len rfl (lenR ti39))) ?_
          refine wS (v := (eB (decide (32 < (x41.Witness.length : Int))))) (sv (d_bin rfl rfl (bin_gtr ..))) ?_
          refine OpsW.nil ?_
          refine Ex.then_mk ?_
          refine AB.cnd rfl (fun h5 => ?_) (fun h5 => ?_)
          · replace hr4 := iteT hr4 h5
            refine AB.seq ?_
            refine AB.rw ?_
            refine wS (v := (eB false)) (sv (d_assign rfl)) ?_
            refine OpsW.nil ?_
            refine Ex.then_mk ?_
            refine AB.ret ?_
            refine Ex.then_ret_mk ?_
            refine Ex.inBlock_ret_mk ?_
            refine Ex.then_ret_mk ?_
            refine Ex.then_ret_mk ?_
            refine Ex.inBlock_ret_mk ?_
            refine Ex.then_ret_mk ?_
            obtain rfl := Option.some.inj hr4
            obtain rfl := Option.some.inj hr
            exact done_ret (r1 := (eB false)) (res1 Try.results13 (rvT rfl)) (Ghost.rn [] rfl rfl (FLe.same rfl FLe.nil) HLe.nil rfl)
          · replace hr4 := iteF hr4 h5
            refine AB.skip ?_
            refine Ex.then_mk ?_
            refine AB.seq ?_
            refine AB.rw ?_
            refine wS (v := (.ptr 1 34)) (sv (d_fa rfl (fap41_2 ..))) ?_
            refine wS (v := (.row none 1 (x41.Witness.map (eL 1 (eI .u8))))) (sv (d_load rfl (ldP rfl (part1 ti39 rfl rfl)))) ?_
            refine wS (v := (eI .i64 (x41.Witness.length : Int))) (sv (d_len rfl (lenR ti39))) ?_
            refine wS (v := (eI .i64 0)) (sv (d_move rfl)) ?_
            refine OpsW.nil ?_
            refine Ex.then_mk ?_
            replace hr4 := bnd hr4; obtain ⟨res6, hL6, hr4⟩ := hr4
            refine AB.block ?_
            refine AB.loopN (fun m s h => ∃ (x50 : Int), tx_fits_L6 N t_Version t_Inputs t_Outputs t_Lock x39 x41 m x50 = some res6 ∧ Ghost 0 s h (mkF 63 [(1, (.ptr 0 0)), (37, (.row none 35 (t_Inputs.map E_api_Input))), (38, (eI .i64 (t_Inputs.length : Int))), (39, (eI .i64 x39)), (48, (.row none 1 (x41.Witness.map (eL 1 (eI .u8))))), (49, (eI .i64 (x41.Witness.length : Int))), (50, (eI .i64 x50))]) [some ⟨26, [(eI .u32 t_Version), (.row none 35 (t_Inputs.map E_api_Input)), (.row none 2 (t_Outputs.map E_api_Output)), (eI .u32 t_Lock)]⟩]) (n := N) ⟨0, hL6, (Ghost.rn [0] rfl rfl (FLe.same rfl (FLe.same rfl (FLe.same rfl (FLe.same rfl (FLe.same rfl (FLe.same rfl (FLe.same rfl FLe.nil))))))) (HLe.live rfl (V.les_refl _ _) rfl HLe.nil) rfl)⟩ (by rintro s h ⟨_, h0, _⟩; simp [tx_fits_L6] at h0) ?_
            rintro m6 s h ⟨x50, hr6, hg⟩
            refine AB.ghost hg ?_
            clear hg hL6
            rw [tx_fits_L6] at hr6
            refine AB.seq ?_
            refine AB.rw ?_
            refine wS (v := (eB (decide (x50 < (x41.Witness.length : Int))))) (sv (d_bin rfl rfl (bin_lss ..))) ?_
            refine OpsW.nil ?_
            refine Ex.then_mk ?_
            refine AB.seq ?_
            refine AB.cnd rfl (fun h6 => ?_) (fun h6 => ?_)
            · replace hr6 := iteT hr6 h6
              refine AB.skip ?_
              refine Ex.then_mk ?_
              refine AB.seq ?_
              refine AB.block ?_
              refine AB.seq ?_
              replace hr6 := bnd hr6; obtain ⟨x52, h_7, hr6⟩ := hr6
              refine AB.rw ?_
              refine wS (sv (d_ia rfl rfl (iaR ti39 ti42 h_7))) ?_
              refine wS (v := (.row none 1 (x52.map (eI .u8)))) (sv (d_load rfl (ldR h_7 (part1 ti42 rfl rfl)))) ?_
              refine wS (v := (.row none 1 (x52.map (eI .u8)))) (sv (d_assign rfl)) ?_
              refine OpsW.nil ?_
              refine Ex.then_mk ?_
              refine AB.seq ?_
              refine AB.rw ?_
              refine wS (v := (.row none 1 (x52.map (eI .u8)))) (sv (d_move rfl)) ?_
              refine wS (v := (eI .i64 (x52.length : Int))) (sv (d_len rfl (lenR ti42))) ?_
              refine wS (v := (eB (decide (520 < (x52.length : Int))))) (sv (d_bin rfl rfl (bin_gtr ..))) ?_
              refine OpsW.nil ?_
              refine Ex.then_mk ?_
              refine AB.cnd rfl (fun h8 => ?_) (fun h8 => ?_)
              · replace hr6 := iteT hr6 h8
                refine AB.seq ?_
                refine AB.rw ?_
                refine wS (v := (eB false)) (sv (d_assign rfl)) ?_
                refine OpsW.nil ?_
                refine Ex.then_mk ?_
                refine AB.ret ?_
                refine Ex.inBlock_ret_mk ?_
                refine Ex.then_ret_mk ?_
                refine Ex.then_ret_mk ?_
                refine Ex.inBlock_ret_mk ?_
                refine Ex.inBlock_ret_mk ?_
                refine Ex.then_ret_mk ?_
                refine Ex.then_ret_mk ?_
                refine Ex.inBlock_ret_mk ?_
                refine Ex.then_ret_mk ?_
                obtain rfl := Option.some.inj hr6
                obtain rfl := Option.some.inj hr4
                obtain rfl := Option.some.inj hr
                exact done_ret (r1 := (eB false)) (res1 Try.results13 (rvT rfl)) (Ghost.rn [] rfl rfl (FLe.same rfl FLe.nil) HLe.nil rfl)
              · replace hr6 := iteF hr6 h8
                refine AB.skip ?_
                refine Ex.inBlock_mk ?_
                refine Ex.then_mk ?_
                refine AB.rw ?_
                refine wS (v := (eI .i64 (IntKind.i64.wrap (x50 + 1)))) (sv (d_bin rfl rfl (bin_add ..))) ?_
                refine wS (v := (eI .i64 (IntKind.i64.wrap (x50 + 1)))) (sv (d_move rfl)) ?_
                refine OpsW.nil ?_
                refine Ex.then_mk ?_
                exact ⟨IntKind.i64.wrap (x50 + 1), hr6, (Ghost.rn [0] rfl rfl (FLe.same rfl (FLe.same rfl (FLe.same rfl (FLe.same rfl (FLe.same rfl (FLe.same rfl (FLe.same rfl FLe.nil))))))) (HLe.live rfl (V.les_refl _ _) rfl HLe.nil) rfl)⟩
            · replace hr6 := iteF hr6 h6
              refine AB.exit ?_
              refine Ex.then_exit_mk ?_
              refine Ex.then_exit_mk ?_
              refine Ex.inBlock_same_mk ?_
              obtain rfl := Option.some.inj hr6
              refine Ex.inBlock_mk ?_
              refine Ex.then_mk ?_
              exact hG5 _ _ _ _ (Ghost.rn [0] rfl rfl (FLe.same rfl (FLe.same rfl (FLe.same rfl (FLe.same rfl FLe.nil)))) (HLe.live rfl (V.les_refl _ _) rfl HLe.nil) rfl) (J5 hr4)
        · replace hr4 := iteF hr4 h3
          refine AB.exit ?_
          refine Ex.then_exit_mk ?_
          refine Ex.then_exit_mk ?_
          refine Ex.inBlock_same_mk ?_
          obtain rfl := Option.some.inj hr4
          refine Ex.then_mk ?_
          exact hG3 _ _ _ _ (Ghost.rn [0] rfl rfl (FLe.same rfl FLe.nil) (HLe.live rfl (V.les_refl _ _) rfl HLe.nil) rfl) (J3 hr)
      refine AB.seq ?_
      refine AB.rw ?_
      refine wS (v := (.ptr 0 2)) (sv (d_fa rfl (fap26_2 ..))) ?_
      refine wS (v := (.row none 2 (t_Outputs.map E_api_Output))) (sv (d_load rfl (ldP rfl (part1 ti24 rfl rfl)))) ?_
      refine wS (v := (eI .i64 (t_Outputs.length : Int))) (sv (d_len rfl (lenR ti24))) ?_
      refine wS (v := (eI .i64 0)) (sv (d_move rfl)) ?_
      refine OpsW.nil ?_
      refine Ex.then_mk ?_
      replace hr := bnd hr; obtain ⟨res7, hL7, hr⟩ := hr
      refine AB.block ?_
      refine AB.loopN (fun m s h => ∃ (x22 : Int), tx_fits_L7 N t_Version t_Inputs t_Outputs t_Lock m x22 = some res7 ∧ Ghost 0 s h (mkF 63 [(1, (.ptr 0 0)), (20, (.row none 2 (t_Outputs.map E_api_Output))), (21, (eI .i64 (t_Outputs.length : Int))), (22, (eI .i64 x22))]) [some ⟨26, [(eI .u32 t_Version), (.row none 35 (t_Inputs.map E_api_Input)), (.row none 2 (t_Outputs.map E_api_Output)), (eI .u32 t_Lock)]⟩]) (n := N) ⟨0, hL7, (Ghost.rn [0] rfl rfl (FLe.same rfl (FLe.same rfl (FLe.same rfl (FLe.same rfl FLe.nil)))) (HLe.live rfl (V.les_refl _ _) rfl HLe.nil) rfl)⟩ (by rintro s h ⟨_, h0, _⟩; simp [tx_fits_L7] at h0) ?_
      rintro m7 s h ⟨x22, hr7, hg⟩
      refine AB.ghost hg ?_
      clear hg hL7
      rw [tx_fits_L7] at hr7
      refine AB.seq ?_
      refine AB.rw ?_
      refine wS (v := (eB (decide (x22 < (t_Outputs.length : Int))))) (sv (d_bin rfl rfl (bin_lss ..))) ?_
      refine OpsW.nil ?_
      refine Ex.then_mk ?_
      refine AB.seq ?_
      refine AB.cnd rfl (fun h9 => ?_) (fun h9 => ?_)
      · replace hr7 := iteT hr7 h9
        refine AB.skip ?_
        refine Ex.then_mk ?_
        refine AB.seq ?_
        refine AB.block ?_
        refine AB.seq ?_
        replace hr7 := bnd hr7; obtain ⟨x24, h_10, hr7⟩ := hr7
        refine AB.rw ?_
        refine wS (sv (d_ia rfl rfl (iaR ti24 ti44 h_10))) ?_
        refine wS (v := (.agg [(eI .i64 x24.Value), (.row none 1 (x24.Script.map (eI .u8)))])) (sv (d_load rfl (ldR h_10 (partN (ds := [(eI .i64 x24.Value), (.row none 1 (x24.Script.map (eI .u8)))]) ti44 rfl (Nat.le_of_ble_eq_true rfl) rfl)))) ?_
        refine wS (v := (.ptr 1 0)) (h' := [some ⟨26, [(eI .u32 t_Version), (.row none 35 (t_Inputs.map E_api_Input)), (.row none 2 (t_Outputs.map E_api_Output)), (eI .u32 t_Lock)]⟩, some ⟨44, [(eI .i64 0), (.row (some true) 1 [])]⟩]) (sv (d_alloc ti44 rfl rfl rfl)) ?_
        refine wN (h' := [some ⟨26, [(eI .u32 t_Version), (.row none 35 (t_Inputs.map E_api_Input)), (.row none 2 (t_Outputs.map E_api_Output)), (eI .u32 t_Lock)]⟩, some ⟨44, [(eI .i64 x24.Value), (.row none 1 (x24.Script.map (eI .u8)))]⟩]) (sv (d_store rfl rfl (stP ti44 rfl rfl rfl (Nat.le_of_ble_eq_true rfl) rfl))) ?_
        refine OpsW.nil ?_
        refine Ex.then_mk ?_
        refine AB.seq_g fun K8 hK8 hG8 => ?_
        have J8 : ∀ (x34 : Bool), tx_fits_J8 N t_Version t_Inputs t_Outputs t_Lock x22 (tx_fits_L7 N t_Version t_Inputs t_Outputs t_Lock m7) x34 = some res7 → K8 (mkF 63 [(1, (.ptr 0 0)), (20, (.row none 2 (t_Outputs.map E_api_Output))), (21, (eI .i64 (t_Outputs.length : Int))), (22, (eI .i64 x22)), (34, (eB x34))]) [some ⟨26, [(eI .u32 t_Version), (.row none 35 (t_Inputs.map E_api_Input)), (.row none 2 (t_Outputs.map E_api_Output)), (eI .u32 t_Lock)]⟩] := by
          intro x34 hr7
          unfold tx_fits_J8 at hr7
          refine hK8 _ _ ?_
          refine AB.cnd rfl (fun h11 => ?_) (fun h11 => ?_)
          · replace hr7 := iteT hr7 h11
            refine AB.seq ?_
            refine AB.rw ?_
            refine wS (v := (eB false)) (sv (d_assign rfl)) ?_
            refine OpsW.nil ?_
            refine Ex.then_mk ?_
            refine AB.ret ?_
            refine Ex.inBlock_ret_mk ?_
            refine Ex.then_ret_mk ?_
            refine Ex.then_ret_mk ?_
            refine Ex.inBlock_ret_mk ?_
            refine Ex.then_ret_mk ?_
            obtain rfl := Option.some.inj hr7
            obtain rfl := Option.some.inj hr
            exact done_ret (r1 := (eB false)) (res1 Try.results13 (rvT rfl)) (Ghost.rn [] rfl rfl (FLe.same rfl FLe.nil) HLe.nil rfl)
          · replace hr7 := iteF hr7 h11
            refine AB.skip ?_
            refine Ex.inBlock_mk ?_
            refine Ex.then_mk ?_
            refine AB.rw ?_
            refine wS (v := (eI .i64 (IntKind.i64.wrap (x22 + 1)))) (sv (d_bin rfl rfl (bin_add ..))) ?_
            refine wS (v := (eI .i64 (IntKind.i64.wrap (x22 + 1)))) (sv (d_move rfl)) ?_
            refine OpsW.nil ?_
            refine Ex.then_mk ?_
            exact ⟨IntKind.i64.wrap (x22 + 1), hr7, (Ghost.rn [0] rfl rfl (FLe.same rfl (FLe.same rfl (FLe.same rfl (FLe.same rfl FLe.nil)))) (HLe.live rfl (V.les_refl _ _) rfl HLe.nil) rfl)⟩
        rcases Bool.eq_false_or_eq_true (decide (x24.Value < 0)) with h12 | h12
        · replace hr7 := iteT hr7 h12
          refine AB.rw ?_
          refine wS (v := (.ptr 1 0)) (sv (d_fa rfl (fap44_0 ..))) ?_
          refine wS (v := (eI .i64 x24.Value)) (sv (d_load rfl (ldP rfl (part1 ti2 rfl rfl)))) ?_
          refine wS (v := (eB (decide (x24.Value < 0)))) (sv (d_bin rfl rfl (bin_lss ..))) ?_
          refine wS (v := (eB (decide (x24.Value < 0)))) (sv (d_move rfl)) ?_
          refine wS (svX rfl rfl h12) ?_
          refine wS (svX rfl rfl h12) ?_
          refine wS (svX rfl rfl h12) ?_
          refine wS (svX rfl rfl h12) ?_
          refine wS (v := (eB true)) (sv (d_pickT rfl h12 rfl)) ?_
          refine OpsW.nil ?_
          refine Ex.then_mk ?_
          exact hG8 _ _ _ _ (Ghost.rn [0] rfl rfl (FLe.same rfl (FLe.same rfl (FLe.same rfl (FLe.same rfl (FLe.same rfl FLe.nil))))) (HLe.live rfl (V.les_refl _ _) rfl HLe.nil) rfl) (J8 true hr7)
        · replace hr7 := iteF hr7 h12
          refine AB.rw ?_
          refine wS (v := (.ptr 1 0)) (sv (d_fa rfl (fap44_0 ..))) ?_
          refine wS (v := (eI .i64 x24.Value)) (sv (d_load rfl (ldP rfl (part1 ti2 rfl rfl)))) ?_
          refine wS (v := (eB (decide (x24.Value < 0)))) (sv (d_bin rfl rfl (bin_lss ..))) ?_
          refine wS (v := (eB (decide (x24.Value < 0)))) (sv (d_move rfl)) ?_
          refine wS (v := (.ptr 1 1)) (svG rfl rfl h12 (d_fa rfl (fap44_1 ..))) ?_
          refine wS (v := (.row none 1 (x24.Script.map (eI .u8)))) (svG rfl rfl h12 (d_load rfl (ldP rfl (part1 ti42 rfl rfl)))) ?_
          refine wS (v := (eI .i64 (x24.Script.length : Int))) (svG rfl rfl h12 (d_len rfl (lenR ti42))) ?_
          refine wS (v := (eB (decide (520 < (x24.Script.length : Int))))) (svG rfl rfl h12 (d_bin rfl rfl (bin_gtr ..))) ?_
          refine wS (v := (eB (decide (520 < (x24.Script.length : Int))))) (sv (d_pickF rfl h12 rfl)) ?_
          refine OpsW.nil ?_
          refine Ex.then_mk ?_
          exact hG8 _ _ _ _ (Ghost.rn [0] rfl rfl (FLe.same rfl (FLe.same rfl (FLe.same rfl (FLe.same rfl (FLe.same rfl FLe.nil))))) (HLe.live rfl (V.les_refl _ _) rfl HLe.nil) rfl) (J8 (decide (520 < (x24.Script.length : Int))) hr7)
      · replace hr7 := iteF hr7 h9
        refine AB.exit ?_
        refine Ex.then_exit_mk ?_
        refine Ex.then_exit_mk ?_
        refine Ex.inBlock_same_mk ?_
        obtain rfl := Option.some.inj hr7
        refine Ex.then_mk ?_
        exact hG2 _ _ _ _ (Ghost.rn [0] rfl rfl (FLe.same rfl FLe.nil) (HLe.live rfl (V.les_refl _ _) rfl HLe.nil) rfl) (J2 hr)
  rcases Bool.eq_false_or_eq_true (decide (64 < (t_Inputs.length : Int))) with h13 | h13
  · replace hr := iteT hr h13
    refine AB.rw ?_
    refine wS (v := (.ptr 0 1)) (sv (d_fa rfl (fap26_1 ..))) ?_
    refine wS (v := (.row none 35 (t_Inputs.map E_api_Input))) (sv (d_load rfl (ldP rfl (part1 ti23 rfl rfl)))) ?_
    refine wS (v := (eI .i64 (t_Inputs.length : Int))) (sv (d_len rfl (lenR ti23))) ?_
    refine wS (v := (eB (decide (64 < (t_Inputs.length : Int))))) (sv (d_bin rfl rfl (bin_gtr ..))) ?_
    refine wS (v := (eB (decide (64 < (t_Inputs.length : Int))))) (sv (d_move rfl)) ?_
    refine wS (svX rfl rfl h13) ?_
    refine wS (svX rfl rfl h13) ?_
    refine wS (svX rfl rfl h13) ?_
    refine wS (svX rfl rfl h13) ?_
    refine wS (v := (eB true)) (sv (d_pickT rfl h13 rfl)) ?_
    refine OpsW.nil ?_
    refine Ex.then_mk ?_
    exact hG1 _ _ _ _ (Ghost.rn [0] rfl rfl (FLe.same rfl (FLe.same rfl FLe.nil)) (HLe.live rfl (V.les_refl _ _) rfl HLe.nil) rfl) (J1 true hr)
  · replace hr := iteF hr h13
    refine AB.rw ?_
    refine wS (v := (.ptr 0 1)) (sv (d_fa rfl (fap26_1 ..))) ?_
    refine wS (v := (.row none 35 (t_Inputs.map E_api_Input))) (sv (d_load rfl (ldP rfl (part1 ti23 rfl rfl)))) ?_
    refine wS (v := (eI .i64 (t_Inputs.length : Int))) (sv (d_len rfl (lenR ti23))) ?_
    refine wS (v := (eB (decide (64 < (t_Inputs.length : Int))))) (sv (d_bin rfl rfl (bin_gtr ..))) ?_
    refine wS (v := (eB (decide (64 < (t_Inputs.length : Int))))) (sv (d_move rfl)) ?_
    refine wS (v := (.ptr 0 2)) (svG rfl rfl h13 (d_fa rfl (fap26_2 ..))) ?_
    refine wS (v := (.row none 2 (t_Outputs.map E_api_Output))) (svG rfl rfl h13 (d_load rfl (ldP rfl (part1 ti24 rfl rfl)))) ?_
    refine wS (v := (eI .i64 (t_Outputs.length : Int))) (svG rfl rfl h13 (d_len rfl (lenR ti24))) ?_
    refine wS (v := (eB (decide (64 < (t_Outputs.length : Int))))) (svG rfl rfl h13 (d_bin rfl rfl (bin_gtr ..))) ?_
    refine wS (v := (eB (decide (64 < (t_Outputs.length : Int))))) (sv (d_pickF rfl h13 rfl)) ?_
    refine OpsW.nil ?_
    refine Ex.then_mk ?_
    exact hG1 _ _ _ _ (Ghost.rn [0] rfl rfl (FLe.same rfl (FLe.same rfl FLe.nil)) (HLe.live rfl (V.les_refl _ _) rfl HLe.nil) rfl) (J1 (decide (64 < (t_Outputs.length : Int))) hr)
set_option maxRecDepth 20000 in
set_option maxHeartbeats 1000000 in
theorem tx_money_ok (N : Nat) (l : List S_api_Output) (r : Bool) (hr : tx_money N l = some r) :
    Vm.Fn Try.prog 14 [] [(.row none 2 (l.map E_api_Output))] (eB r) [] := by
  refine fn_ab Try.func14 rfl (by kernel_rfl) Try.ntmps14 (Nat.le_of_ble_eq_true rfl) rfl (fr := [(0, (.row none 2 (l.map E_api_Output)))]) rfl ?_
  unfold tx_money at hr
  refine AB.seq ?_
  refine AB.rw ?_
  refine wS (v := (eB false)) (sv (d_assign rfl)) ?_
  refine OpsW.nil ?_
  refine Ex.then_mk ?_
  refine AB.seq ?_
  refine AB.rw ?_
  refine wS (v := (eI .i64 0)) (sv (d_assign rfl)) ?_
  refine OpsW.nil ?_
  refine Ex.then_mk ?_
  refine AB.seq_g fun K1 hK1 hG1 => ?_
  have J1 : tx_money_J1 N = some r → K1 (mkF 22 []) [] := by
    intro hr
    unfold tx_money_J1 at hr
    refine hK1 _ _ ?_
    refine AB.seq ?_
    refine AB.rw ?_
    refine wS (v := (eB true)) (sv (d_assign rfl)) ?_
    refine OpsW.nil ?_
    refine Ex.then_mk ?_
    refine AB.ret ?_
    obtain rfl := Option.some.inj hr
    exact done_ret (r1 := (eB true)) (res1 Try.results14 (rvT rfl)) (Ghost.rn [] rfl rfl (FLe.same rfl FLe.nil) HLe.nil rfl)
  refine AB.seq ?_
  refine AB.rw ?_
  refine wS (v := (.row none 2 (l.map E_api_Output))) (sv (d_move rfl)) ?_
  refine wS (v := (eI .i64 (l.length : Int))) (sv (d_len rfl (lenR ti24))) ?_
  refine wS (v := (eI .i64 0)) (sv (d_move rfl)) ?_
  refine OpsW.nil ?_
  refine Ex.then_mk ?_
  replace hr := bnd hr; obtain ⟨res2, hL2, hr⟩ := hr
  refine AB.block ?_
  refine AB.loopN (fun m s h => ∃ (sum : Int) (x8 : Int), tx_money_L2 N l m sum x8 = some res2 ∧ Ghost 0 s h (mkF 22 [(3, (eI .i64 sum)), (6, (.row none 2 (l.map E_api_Output))), (7, (eI .i64 (l.length : Int))), (8, (eI .i64 x8))]) []) (n := N) ⟨0, 0, hL2, (Ghost.rn [] rfl rfl (FLe.same rfl (FLe.same rfl (FLe.same rfl (FLe.same rfl FLe.nil)))) HLe.nil rfl)⟩ (by rintro s h ⟨_, _, h0, _⟩; simp [tx_money_L2] at h0) ?_
  rintro m2 s h ⟨sum, x8, hr2, hg⟩
  refine AB.ghost hg ?_
  clear hg hL2
  rw [tx_money_L2] at hr2
  refine AB.seq ?_
  refine AB.rw ?_
  refine wS (v := (eB (decide (x8 < (l.length : Int))))) (sv (d_bin rfl rfl (bin_lss ..))) ?_
  refine OpsW.nil ?_
  refine Ex.then_mk ?_
  refine AB.seq ?_
  refine AB.cnd rfl (fun h1 => ?_) (fun h1 => ?_)
  · replace hr2 := iteT hr2 h1
    refine AB.skip ?_
    refine Ex.then_mk ?_
    refine AB.seq ?_
    refine AB.block ?_
    refine AB.seq ?_
    replace hr2 := bnd hr2; obtain ⟨x10, h_2, hr2⟩ := hr2
    refine AB.rw ?_
    refine wS (sv (d_ia rfl rfl (iaR ti24 ti44 h_2))) ?_
    refine wS (v := (.agg [(eI .i64 x10.Value), (.row none 1 (x10.Script.map (eI .u8)))])) (sv (d_load rfl (ldR h_2 (partN (ds := [(eI .i64 x10.Value), (.row none 1 (x10.Script.map (eI .u8)))]) ti44 rfl (Nat.le_of_ble_eq_true rfl) rfl)))) ?_
    refine wS (v := (.ptr 0 0)) (h' := [some ⟨44, [(eI .i64 0), (.row (some true) 1 [])]⟩]) (sv (d_alloc ti44 rfl rfl rfl)) ?_
    refine wN (h' := [some ⟨44, [(eI .i64 x10.Value), (.row none 1 (x10.Script.map (eI .u8)))]⟩]) (sv (d_store rfl rfl (stP ti44 rfl rfl rfl (Nat.le_of_ble_eq_true rfl) rfl))) ?_
    refine OpsW.nil ?_
    refine Ex.then_mk ?_
    refine AB.seq ?_
    refine AB.seq ?_
    refine AB.rw ?_
    refine wS (v := (.ptr 0 0)) (sv (d_fa rfl (fap44_0 ..))) ?_
    refine wS (v := (eI .i64 x10.Value)) (sv (d_load rfl (ldP rfl (part1 ti2 rfl rfl)))) ?_
    refine wS (v := (eI .i64 sum)) (sv (d_move rfl)) ?_
    refine wS (v := (eI .i64 (IntKind.i64.wrap (2100000000000000 - sum)))) (sv (d_bin rfl rfl (bin_sub ..))) ?_
    refine wS (v := (eB (decide ((IntKind.i64.wrap (2100000000000000 - sum)) < x10.Value)))) (sv (d_bin rfl rfl (bin_gtr ..))) ?_
    refine OpsW.nil ?_
    refine Ex.then_mk ?_
    refine AB.cnd rfl (fun h3 => ?_) (fun h3 => ?_)
    · replace hr2 := iteT hr2 h3
      refine AB.seq ?_
      refine AB.rw ?_
      refine wS (v := (eB false)) (sv (d_assign rfl)) ?_
      refine OpsW.nil ?_
      refine Ex.then_mk ?_
      refine AB.ret ?_
      refine Ex.then_ret_mk ?_
      refine Ex.inBlock_ret_mk ?_
      refine Ex.then_ret_mk ?_
      refine Ex.then_ret_mk ?_
      refine Ex.inBlock_ret_mk ?_
      refine Ex.then_ret_mk ?_
      obtain rfl := Option.some.inj hr2
      obtain rfl := Option.some.inj hr
      exact done_ret (r1 := (eB false)) (res1 Try.results14 (rvT rfl)) (Ghost.rn [] rfl rfl (FLe.same rfl FLe.nil) HLe.nil rfl)
    · replace hr2 := iteF hr2 h3
      refine AB.skip ?_
      refine Ex.then_mk ?_
      refine AB.rw ?_
      refine wS (v := (eI .i64 sum)) (sv (d_move rfl)) ?_
      refine wS (v := (.ptr 0 0)) (sv (d_fa rfl (fap44_0 ..))) ?_
      refine wS (v := (eI .i64 x10.Value)) (sv (d_load rfl (ldP rfl (part1 ti2 rfl rfl)))) ?_
      refine wS (v := (eI .i64 (IntKind.i64.wrap (sum + x10.Value)))) (sv (d_bin rfl rfl (bin_add ..))) ?_
      refine wS (v := (eI .i64 (IntKind.i64.wrap (sum + x10.Value)))) (sv (d_assign rfl)) ?_
      refine OpsW.nil ?_
      refine Ex.inBlock_mk ?_
      refine Ex.then_mk ?_
      refine AB.rw ?_
      refine wS (v := (eI .i64 (IntKind.i64.wrap (x8 + 1)))) (sv (d_bin rfl rfl (bin_add ..))) ?_
      refine wS (v := (eI .i64 (IntKind.i64.wrap (x8 + 1)))) (sv (d_move rfl)) ?_
      refine OpsW.nil ?_
      refine Ex.then_mk ?_
      exact ⟨IntKind.i64.wrap (sum + x10.Value), IntKind.i64.wrap (x8 + 1), hr2, (Ghost.rn [] rfl rfl (FLe.same rfl (FLe.same rfl (FLe.same rfl (FLe.same rfl FLe.nil)))) HLe.nil rfl)⟩
  · replace hr2 := iteF hr2 h1
    refine AB.exit ?_
    refine Ex.then_exit_mk ?_
    refine Ex.then_exit_mk ?_
    refine Ex.inBlock_same_mk ?_
    obtain rfl := Option.some.inj hr2
    refine Ex.then_mk ?_
    exact hG1 _ _ _ _ (Ghost.rn [] rfl rfl FLe.nil HLe.nil rfl) (J1 hr)
set_option maxRecDepth 20000 in
set_option maxHeartbeats 1000000 in
theorem tx_null_ok (N : Nat) (o_Tx : List Int) (o_Index : Int) (r : Bool) (hr : tx_null N o_Tx o_Index = some r) :
    Vm.Fn Try.prog 20 [] [(.agg (ar32 (eI .u8) o_Tx [(eI .u32 o_Index)]))] (eB r) [] := by
  refine fn_ab Try.func20 rfl (by kernel_rfl) Try.ntmps20 (Nat.le_of_ble_eq_true rfl) rfl (fr := [(0, (.agg (ar32 (eI .u8) o_Tx [(eI .u32 o_Index)])))]) rfl ?_
  unfold tx_null at hr
  refine AB.seq ?_
  refine AB.rw ?_
  refine wS (v := (.ptr 0 0)) (h' := [some ⟨38, (ar32 (eI .u8) o_Tx [(eI .u32 o_Index)])⟩]) (sv (d_box rfl rfl rfl rfl)) ?_
  refine wS (v := (eB false)) (sv (d_assign rfl)) ?_
  refine OpsW.nil ?_
  refine Ex.then_mk ?_
  refine AB.seq ?_
  refine AB.rw ?_
  refine wS (v := (.agg (ar32 (eI .u8) o_Tx [(eI .u32 o_Index)]))) (sv (d_load rfl (ldP rfl (partN (ds := (ar32 (eI .u8) o_Tx [(eI .u32 o_Index)])) ti38 rfl (Nat.le_of_ble_eq_true rfl) rfl)))) ?_
  refine wS (v := (.agg (ar32 (eI .u8) (List.replicate 32 0) [(eI .u32 4294967295)]))) (sv (d_build rfl (bldS ti38 pl38 rfl))) ?_
  refine wS (v := (eB (aeq32 o_Tx (List.replicate 32 0) ((o_Index == 4294967295) && true)))) (sv (d_bin rfl rfl (bin_eqlP (d := 9) ti38 rfl ft38 (Nat.le_of_ble_eq_true rfl) eg38 rfl rfl rfl rfl rfl))) ?_
  refine wS (v := (eB (aeq32 o_Tx (List.replicate 32 0) ((o_Index == 4294967295) && true)))) (sv (d_assign rfl)) ?_
  refine OpsW.nil ?_
  refine Ex.then_mk ?_
  refine AB.ret ?_
  obtain rfl := Option.some.inj hr
  exact done_ret (r1 := (eB (aeq32 o_Tx (List.replicate 32 0) ((o_Index == 4294967295) && true)))) (res1 Try.results20 (rvT rfl)) (Ghost.rn [] rfl rfl (FLe.same rfl FLe.nil) HLe.nil rfl)
set_option maxRecDepth 20000 in
set_option maxHeartbeats 1000000 in
theorem tx_Coinbase_ok (N : Nat) (t_Version : Int) (t_Inputs : List S_api_Input) (t_Outputs : List S_api_Output) (t_Lock : Int) (r : Bool) (hr : tx_Coinbase N t_Version t_Inputs t_Outputs t_Lock = some r) :
    Vm.Fn Try.prog 15 [] [(.agg [(eI .u32 t_Version), (.row none 35 (t_Inputs.map E_api_Input)), (.row none 2 (t_Outputs.map E_api_Output)), (eI .u32 t_Lock)])] (eB r) [] := by
  refine fn_ab Try.func15 rfl (by kernel_rfl) Try.ntmps15 (Nat.le_of_ble_eq_true rfl) rfl (fr := [(0, (.agg [(eI .u32 t_Version), (.row none 35 (t_Inputs.map E_api_Input)), (.row none 2 (t_Outputs.map E_api_Output)), (eI .u32 t_Lock)]))]) rfl ?_
  unfold tx_Coinbase at hr
  refine AB.seq ?_
  refine AB.rw ?_
  refine wS (v := (.ptr 0 0)) (h' := [some ⟨26, [(eI .u32 t_Version), (.row none 35 (t_Inputs.map E_api_Input)), (.row none 2 (t_Outputs.map E_api_Output)), (eI .u32 t_Lock)]⟩]) (sv (d_box rfl rfl rfl rfl)) ?_
  refine wS (v := (eB false)) (sv (d_assign rfl)) ?_
  refine OpsW.nil ?_
  refine Ex.then_mk ?_
  refine AB.seq_g fun K1 hK1 hG1 => ?_
  have J1 : ∀ (x2 : Bool), tx_Coinbase_J1 N x2 = some r → K1 (mkF 15 [(2, (eB x2))]) [] := by
    intro x2 hr
    unfold tx_Coinbase_J1 at hr
    refine hK1 _ _ ?_
    refine AB.ret ?_
    obtain rfl := Option.some.inj hr
    exact done_ret (r1 := (eB x2)) (res1 Try.results15 (rvT rfl)) (Ghost.rn [] rfl rfl (FLe.same rfl FLe.nil) HLe.nil rfl)
  rcases Bool.eq_false_or_eq_true ((t_Inputs.length : Int) == 1) with h1 | h1
  · replace hr := iteT hr h1
    replace hr := bnd hr; obtain ⟨x10, h_2, hr⟩ := hr
    replace hr := bnd hr; obtain ⟨x13, h_3, hr⟩ := hr
    refine AB.rw ?_
    refine wS (v := (.ptr 0 1)) (sv (d_fa rfl (fap26_1 ..))) ?_
    refine wS (v := (.row none 35 (t_Inputs.map E_api_Input))) (sv (d_load rfl (ldP rfl (part1 ti23 rfl rfl)))) ?_
    refine wS (v := (eI .i64 (t_Inputs.length : Int))) (sv (d_len rfl (lenR ti23))) ?_
    refine wS (v := (eB ((t_Inputs.length : Int) == 1))) (sv (d_bin rfl rfl (bin_eql ..))) ?_
    refine wS (v := (eB ((t_Inputs.length : Int) == 1))) (sv (d_move rfl)) ?_
    refine wS (v := (.ptr 0 1)) (svG rfl rfl h1 (d_fa rfl (fap26_1 ..))) ?_
    refine wS (v := (.row none 35 (t_Inputs.map E_api_Input))) (svG rfl rfl h1 (d_load rfl (ldP rfl (part1 ti23 rfl rfl)))) ?_
    refine wS (svG rfl rfl h1 (d_ia rfl rfl (iaR ti23 ti41 h_2))) ?_
    refine wS (svG rfl rfl h1 (d_fa rfl (fae41_0 ..))) ?_
    refine wS (v := (E_api_OutPoint x10.Prev)) (svG rfl rfl h1 (d_load rfl (ldR h_2 (partN (ds := (ar32 (eI .u8) x10.Prev.Tx [(eI .u32 x10.Prev.Index)])) ti38 rfl (Nat.le_of_ble_eq_true rfl) rfl)))) ?_
    refine wCG (v := (eB x13)) (h' := [some ⟨26, [(eI .u32 t_Version), (.row none 35 (t_Inputs.map E_api_Input)), (.row none 2 (t_Outputs.map E_api_Output)), (eI .u32 t_Lock)]⟩]) rfl rfl h1 rfl (Vm.Fn.pure (tx_null_ok N x10.Prev.Tx x10.Prev.Index x13 h_3) rfl rfl) ?_
    refine wS (v := (eB x13)) (sv (d_pickT rfl h1 rfl)) ?_
    refine wS (v := (eB x13)) (sv (d_assign rfl)) ?_
    refine OpsW.nil ?_
    refine Ex.then_mk ?_
    exact hG1 _ _ _ _ (Ghost.rn [] rfl rfl (FLe.same rfl FLe.nil) HLe.nil rfl) (J1 x13 hr)
  · replace hr := iteF hr h1
    refine AB.rw ?_
    refine wS (v := (.ptr 0 1)) (sv (d_fa rfl (fap26_1 ..))) ?_
    refine wS (v := (.row none 35 (t_Inputs.map E_api_Input))) (sv (d_load rfl (ldP rfl (part1 ti23 rfl rfl)))) ?_
    refine wS (v := (eI .i64 (t_Inputs.length : Int))) (sv (d_len rfl (lenR ti23))) ?_
    refine wS (v := (eB ((t_Inputs.length : Int) == 1))) (sv (d_bin rfl rfl (bin_eql ..))) ?_
    refine wS (v := (eB ((t_Inputs.length : Int) == 1))) (sv (d_move rfl)) ?_
    refine wS (svX rfl rfl h1) ?_
    refine wS (svX rfl rfl h1) ?_
    refine wS (svX rfl rfl h1) ?_
    refine wS (svX rfl rfl h1) ?_
    refine wS (svX rfl rfl h1) ?_
    refine wS (svX rfl rfl h1) ?_
    refine wS (v := (eB false)) (sv (d_pickF rfl h1 rfl)) ?_
    refine wS (v := (eB false)) (sv (d_assign rfl)) ?_
    refine OpsW.nil ?_
    refine Ex.then_mk ?_
    exact hG1 _ _ _ _ (Ghost.rn [] rfl rfl (FLe.same rfl FLe.nil) HLe.nil rfl) (J1 false hr)
set_option maxRecDepth 20000 in
set_option maxHeartbeats 1000000 in
theorem tx_Check_ok (N : Nat) (t_Version : Int) (t_Inputs : List S_api_Input) (t_Outputs : List S_api_Output) (t_Lock : Int) (r : Int) (hr : tx_Check N t_Version t_Inputs t_Outputs t_Lock = some r) :
    Vm.Fn Try.prog 10 [] [(.agg [(eI .u32 t_Version), (.row none 35 (t_Inputs.map E_api_Input)), (.row none 2 (t_Outputs.map E_api_Output)), (eI .u32 t_Lock)])] (eI .i64 r) [] := by
  refine fn_ab Try.func10 rfl (by kernel_rfl) Try.ntmps10 (Nat.le_of_ble_eq_true rfl) rfl (fr := [(0, (.agg [(eI .u32 t_Version), (.row none 35 (t_Inputs.map E_api_Input)), (.row none 2 (t_Outputs.map E_api_Output)), (eI .u32 t_Lock)]))]) rfl ?_
  unfold tx_Check at hr
  refine AB.seq ?_
  refine AB.rw ?_
  refine wS (v := (.ptr 0 0)) (h' := [some ⟨26, [(eI .u32 t_Version), (.row none 35 (t_Inputs.map E_api_Input)), (.row none 2 (t_Outputs.map E_api_Output)), (eI .u32 t_Lock)]⟩]) (sv (d_box rfl rfl rfl rfl)) ?_
  refine wS (v := (eI .i64 0)) (sv (d_assign rfl)) ?_
  refine OpsW.nil ?_
  refine Ex.then_mk ?_
  refine AB.seq ?_
  refine AB.seq ?_
  replace hr := bnd hr; obtain ⟨x7, h_1, hr⟩ := hr
  refine AB.rw ?_
  refine wS (v := (.agg [(eI .u32 t_Version), (.row none 35 (t_Inputs.map E_api_Input)), (.row none 2 (t_Outputs.map E_api_Output)), (eI .u32 t_Lock)])) (sv (d_load rfl (ldP rfl (partN (ds := [(eI .u32 t_Version), (.row none 35 (t_Inputs.map E_api_Input)), (.row none 2 (t_Outputs.map E_api_Output)), (eI .u32 t_Lock)]) ti26 rfl (Nat.le_of_ble_eq_true rfl) rfl)))) ?_
  refine wC (v := (eB x7)) (h' := [some ⟨26, [(eI .u32 t_Version), (.row none 35 (t_Inputs.map E_api_Input)), (.row none 2 (t_Outputs.map E_api_Output)), (eI .u32 t_Lock)]⟩]) rfl (Vm.Fn.pure (tx_fits_ok N t_Version t_Inputs t_Outputs t_Lock x7 h_1) rfl rfl) ?_
  refine wS (v := (eB (!x7))) (sv (d_un rfl (un_not _ _))) ?_
  refine OpsW.nil ?_
  refine Ex.then_mk ?_
  refine AB.cnd rfl (fun h2 => ?_) (fun h2 => ?_)
  · replace hr := iteT hr h2
    refine AB.seq ?_
    refine AB.rw ?_
    refine wS (v := (eI .i64 4)) (sv (d_assign rfl)) ?_
    refine OpsW.nil ?_
    refine Ex.then_mk ?_
    refine AB.ret ?_
    refine Ex.then_ret_mk ?_
    obtain rfl := Option.some.inj hr
    exact done_ret (r1 := (eI .i64 4)) (res1 Try.results10 (rvT rfl)) (Ghost.rn [] rfl rfl (FLe.same rfl FLe.nil) HLe.nil rfl)
  · replace hr := iteF hr h2
    refine AB.skip ?_
    refine Ex.then_mk ?_
    refine AB.seq ?_
    refine AB.seq_g fun K1 hK1 hG1 => ?_
    have J1 : ∀ (x18 : Bool), tx_Check_J1 N t_Version t_Inputs t_Outputs t_Lock x18 = some r → K1 (mkF 47 [(1, (.ptr 0 0)), (18, (eB x18))]) [some ⟨26, [(eI .u32 t_Version), (.row none 35 (t_Inputs.map E_api_Input)), (.row none 2 (t_Outputs.map E_api_Output)), (eI .u32 t_Lock)]⟩] := by
      intro x18 hr
      unfold tx_Check_J1 at hr
      refine hK1 _ _ ?_
      refine AB.cnd rfl (fun h3 => ?_) (fun h3 => ?_)
      · replace hr := iteT hr h3
        refine AB.seq ?_
        refine AB.rw ?_
        refine wS (v := (eI .i64 93)) (sv (d_assign rfl)) ?_
        refine OpsW.nil ?_
        refine Ex.then_mk ?_
        refine AB.ret ?_
        refine Ex.then_ret_mk ?_
        obtain rfl := Option.some.inj hr
        exact done_ret (r1 := (eI .i64 93)) (res1 Try.results10 (rvT rfl)) (Ghost.rn [] rfl rfl (FLe.same rfl FLe.nil) HLe.nil rfl)
      · replace hr := iteF hr h3
        refine AB.skip ?_
        refine Ex.then_mk ?_
        refine AB.seq ?_
        refine AB.seq ?_
        replace hr := bnd hr; obtain ⟨x21, h_4, hr⟩ := hr
        refine AB.rw ?_
        refine wS (v := (.ptr 0 2)) (sv (d_fa rfl (fap26_2 ..))) ?_
        refine wS (v := (.row none 2 (t_Outputs.map E_api_Output))) (sv (d_load rfl (ldP rfl (part1 ti24 rfl rfl)))) ?_
        refine wC (v := (eB x21)) (h' := [some ⟨26, [(eI .u32 t_Version), (.row none 35 (t_Inputs.map E_api_Input)), (.row none 2 (t_Outputs.map E_api_Output)), (eI .u32 t_Lock)]⟩]) rfl (Vm.Fn.pure (tx_money_ok N t_Outputs x21 h_4) rfl rfl) ?_
        refine wS (v := (eB (!x21))) (sv (d_un rfl (un_not _ _))) ?_
        refine OpsW.nil ?_
        refine Ex.then_mk ?_
        refine AB.cnd rfl (fun h5 => ?_) (fun h5 => ?_)
        · replace hr := iteT hr h5
          refine AB.seq ?_
          refine AB.rw ?_
          refine wS (v := (eI .i64 90)) (sv (d_assign rfl)) ?_
          refine OpsW.nil ?_
          refine Ex.then_mk ?_
          refine AB.ret ?_
          refine Ex.then_ret_mk ?_
          obtain rfl := Option.some.inj hr
          exact done_ret (r1 := (eI .i64 90)) (res1 Try.results10 (rvT rfl)) (Ghost.rn [] rfl rfl (FLe.same rfl FLe.nil) HLe.nil rfl)
        · replace hr := iteF hr h5
          refine AB.skip ?_
          refine Ex.then_mk ?_
          refine AB.seq ?_
          refine AB.rw ?_
          refine wS (v := (.mp 1)) (h' := [some ⟨26, [(eI .u32 t_Version), (.row none 35 (t_Inputs.map E_api_Input)), (.row none 2 (t_Outputs.map E_api_Output)), (eI .u32 t_Lock)]⟩, some ⟨33000, [].flatMap M_52⟩]) (sv (d_mkmap mt52 mc52 rfl rfl)) ?_
          refine wS (v := (.mp 1)) (sv (d_assign rfl)) ?_
          refine OpsW.nil ?_
          refine Ex.then_mk ?_
          refine AB.seq_g fun K2 hK2 hG2 => ?_
          have J2 : ∀ (l1 : List (S_api_OutPoint × Bool)), tx_Check_J2 N t_Version t_Inputs t_Outputs t_Lock l1 = some r → K2 (mkF 47 [(1, (.ptr 0 0)), (3, (.mp 1))]) [some ⟨26, [(eI .u32 t_Version), (.row none 35 (t_Inputs.map E_api_Input)), (.row none 2 (t_Outputs.map E_api_Output)), (eI .u32 t_Lock)]⟩, some ⟨33000, l1.flatMap M_52⟩] := by
            intro l1 hr
            unfold tx_Check_J2 at hr
            refine hK2 _ _ ?_
            refine AB.seq ?_
            refine AB.seq_g fun K3 hK3 hG3 => ?_
            have J3 : ∀ (x46 : Bool), tx_Check_J3 N x46 = some r → K3 (mkF 47 [(46, (eB x46))]) [] := by
              intro x46 hr
              unfold tx_Check_J3 at hr
              refine hK3 _ _ ?_
              refine AB.cnd rfl (fun h6 => ?_) (fun h6 => ?_)
              · replace hr := iteT hr h6
                refine AB.seq ?_
                refine AB.rw ?_
                refine wS (v := (eI .i64 92)) (sv (d_assign rfl)) ?_
                refine OpsW.nil ?_
                refine Ex.then_mk ?_
                refine AB.ret ?_
                refine Ex.then_ret_mk ?_
                obtain rfl := Option.some.inj hr
                exact done_ret (r1 := (eI .i64 92)) (res1 Try.results10 (rvT rfl)) (Ghost.rn [] rfl rfl (FLe.same rfl FLe.nil) HLe.nil rfl)
              · replace hr := iteF hr h6
                refine AB.skip ?_
                refine Ex.then_mk ?_
                refine AB.seq ?_
                refine AB.rw ?_
                refine wS (v := (eI .i64 0)) (sv (d_assign rfl)) ?_
                refine OpsW.nil ?_
                refine Ex.then_mk ?_
                refine AB.ret ?_
                obtain rfl := Option.some.inj hr
                exact done_ret (r1 := (eI .i64 0)) (res1 Try.results10 (rvT rfl)) (Ghost.rn [] rfl rfl (FLe.same rfl FLe.nil) HLe.nil rfl)
            rcases Bool.eq_false_or_eq_true (mget Q_52 l1 (S_api_OutPoint.mk (List.replicate 32 0) 4294967295) false) with h7 | h7
            · replace hr := iteT hr h7
              replace hr := bnd hr; obtain ⟨x44, h_8, hr⟩ := hr
              refine AB.rw ?_
              refine wS (v := (.mp 1)) (sv (d_move rfl)) ?_
              refine wS (v := (.agg (ar32 (eI .u8) (List.replicate 32 0) [(eI .u32 4294967295)]))) (sv (d_build rfl (bldS ti38 pl38 rfl))) ?_
              refine wS (v := (eB (mget Q_52 l1 (S_api_OutPoint.mk (List.replicate 32 0) 4294967295) false))) (sv (d_lk rfl rfl (lkM' mc52 (C := M_52) (CK := C_api_OutPoint) (K := 33) (E := eB) (k := (S_api_OutPoint.mk (List.replicate 32 0) 4294967295)) (fun _ => rfl) (fun _ => rfl) (by decide) (fun _ => rfl) mt52 ko52 mk52 me52 mz52 rfl))) ?_
              refine wS (v := (eB (mget Q_52 l1 (S_api_OutPoint.mk (List.replicate 32 0) 4294967295) false))) (sv (d_move rfl)) ?_
              refine wS (v := (.agg [(eI .u32 t_Version), (.row none 35 (t_Inputs.map E_api_Input)), (.row none 2 (t_Outputs.map E_api_Output)), (eI .u32 t_Lock)])) (svG rfl rfl h7 (d_load rfl (ldP rfl (partN (ds := [(eI .u32 t_Version), (.row none 35 (t_Inputs.map E_api_Input)), (.row none 2 (t_Outputs.map E_api_Output)), (eI .u32 t_Lock)]) ti26 rfl (Nat.le_of_ble_eq_true rfl) rfl)))) ?_
              refine wCG (v := (eB x44)) (h' := [some ⟨26, [(eI .u32 t_Version), (.row none 35 (t_Inputs.map E_api_Input)), (.row none 2 (t_Outputs.map E_api_Output)), (eI .u32 t_Lock)]⟩, some ⟨33000, l1.flatMap M_52⟩]) rfl rfl h7 rfl (Vm.Fn.pure (tx_Coinbase_ok N t_Version t_Inputs t_Outputs t_Lock x44 h_8) rfl rfl) ?_
              refine wS (v := (eB (!x44))) (svG rfl rfl h7 (d_un rfl (un_not _ _))) ?_
              refine wS (v := (eB (!x44))) (sv (d_pickT rfl h7 rfl)) ?_
              refine OpsW.nil ?_
              refine Ex.then_mk ?_
              exact hG3 _ _ _ _ (Ghost.rn [] rfl rfl (FLe.same rfl FLe.nil) HLe.nil rfl) (J3 (!x44) hr)
            · replace hr := iteF hr h7
              refine AB.rw ?_
              refine wS (v := (.mp 1)) (sv (d_move rfl)) ?_
              refine wS (v := (.agg (ar32 (eI .u8) (List.replicate 32 0) [(eI .u32 4294967295)]))) (sv (d_build rfl (bldS ti38 pl38 rfl))) ?_
              refine wS (v := (eB (mget Q_52 l1 (S_api_OutPoint.mk (List.replicate 32 0) 4294967295) false))) (sv (d_lk rfl rfl (lkM' mc52 (C := M_52) (CK := C_api_OutPoint) (K := 33) (E := eB) (k := (S_api_OutPoint.mk (List.replicate 32 0) 4294967295)) (fun _ => rfl) (fun _ => rfl) (by decide) (fun _ => rfl) mt52 ko52 mk52 me52 mz52 rfl))) ?_
              refine wS (v := (eB (mget Q_52 l1 (S_api_OutPoint.mk (List.replicate 32 0) 4294967295) false))) (sv (d_move rfl)) ?_
              refine wS (svX rfl rfl h7) ?_
              refine wS (svX rfl rfl h7) ?_
              refine wS (svX rfl rfl h7) ?_
              refine wS (v := (eB false)) (sv (d_pickF rfl h7 rfl)) ?_
              refine OpsW.nil ?_
              refine Ex.then_mk ?_
              exact hG3 _ _ _ _ (Ghost.rn [] rfl rfl (FLe.same rfl FLe.nil) HLe.nil rfl) (J3 false hr)
          refine AB.seq ?_
          refine AB.rw ?_
          refine wS (v := (.ptr 0 1)) (sv (d_fa rfl (fap26_1 ..))) ?_
          refine wS (v := (.row none 35 (t_Inputs.map E_api_Input))) (sv (d_load rfl (ldP rfl (part1 ti23 rfl rfl)))) ?_
          refine wS (v := (eI .i64 (t_Inputs.length : Int))) (sv (d_len rfl (lenR ti23))) ?_
          refine wS (v := (eI .i64 0)) (sv (d_move rfl)) ?_
          refine OpsW.nil ?_
          refine Ex.then_mk ?_
          replace hr := bnd hr; obtain ⟨res4, hL4, hr⟩ := hr
          refine AB.block ?_
          refine AB.loopN (fun m s h => ∃ (x27 : Int) (l1_1 : List (S_api_OutPoint × Bool)), tx_Check_L4 N t_Version t_Inputs t_Outputs t_Lock m x27 l1_1 = some res4 ∧ Ghost 0 s h (mkF 47 [(1, (.ptr 0 0)), (3, (.mp 1)), (25, (.row none 35 (t_Inputs.map E_api_Input))), (26, (eI .i64 (t_Inputs.length : Int))), (27, (eI .i64 x27))]) [some ⟨26, [(eI .u32 t_Version), (.row none 35 (t_Inputs.map E_api_Input)), (.row none 2 (t_Outputs.map E_api_Output)), (eI .u32 t_Lock)]⟩, some ⟨33000, l1_1.flatMap M_52⟩]) (n := N) ⟨0, [], hL4, (Ghost.rn [0, 1] rfl rfl (FLe.same rfl (FLe.same rfl (FLe.same rfl (FLe.same rfl (FLe.same rfl FLe.nil))))) (HLe.live rfl (V.les_refl _ _) rfl (HLe.live rfl V.les_nil rfl HLe.nil)) rfl)⟩ (by rintro s h ⟨_, _, h0, _⟩; simp [tx_Check_L4] at h0) ?_
          rintro m4 s h ⟨x27, l1_1, hr4, hg⟩
          refine AB.ghost hg ?_
          clear hg hL4
          rw [tx_Check_L4] at hr4
          refine AB.seq ?_
          refine AB.rw ?_
          refine wS (v := (eB (decide (x27 < (t_Inputs.length : Int))))) (sv (d_bin rfl rfl (bin_lss ..))) ?_
          refine OpsW.nil ?_
          refine Ex.then_mk ?_
          refine AB.seq ?_
          refine AB.cnd rfl (fun h9 => ?_) (fun h9 => ?_)
          · replace hr4 := iteT hr4 h9
            refine AB.skip ?_
            refine Ex.then_mk ?_
            refine AB.seq ?_
            refine AB.block ?_
            refine AB.seq ?_
            replace hr4 := bnd hr4; obtain ⟨x29, h_10, hr4⟩ := hr4
            refine AB.rw ?_
            refine wS (sv (d_ia rfl rfl (iaR ti23 ti41 h_10))) ?_
            refine wS (v := (E_api_Input x29)) (sv (d_load rfl (ldR h_10 (partN (ds := (ar32 (eI .u8) x29.Prev.Tx [(eI .u32 x29.Prev.Index), (eI .u32 x29.Sequence), (.row none 1 (x29.Witness.map (eL 1 (eI .u8))))])) ti41 rfl (Nat.le_of_ble_eq_true rfl) rfl)))) ?_
            refine wS (v := (.ptr 2 0)) (h' := [some ⟨26, [(eI .u32 t_Version), (.row none 35 (t_Inputs.map E_api_Input)), (.row none 2 (t_Outputs.map E_api_Output)), (eI .u32 t_Lock)]⟩, some ⟨33000, l1_1.flatMap M_52⟩, some ⟨41, (ar32 (eI .u8) (List.replicate 32 0) [(eI .u32 0), (eI .u32 0), (.row (some true) 1 [])])⟩]) (sv (d_alloc ti41 rfl rfl rfl)) ?_
            refine wN (h' := [some ⟨26, [(eI .u32 t_Version), (.row none 35 (t_Inputs.map E_api_Input)), (.row none 2 (t_Outputs.map E_api_Output)), (eI .u32 t_Lock)]⟩, some ⟨33000, l1_1.flatMap M_52⟩, some ⟨41, C_api_Input x29⟩]) (sv (d_store rfl rfl (stP ti41 rfl rfl rfl (Nat.le_of_ble_eq_true rfl) rfl))) ?_
            refine OpsW.nil ?_
            refine Ex.then_mk ?_
            refine AB.seq ?_
            refine AB.seq ?_
            refine AB.rw ?_
            refine wS (v := (.mp 1)) (sv (d_move rfl)) ?_
            refine wS (v := (.ptr 2 0)) (sv (d_fa rfl (fap41_0 ..))) ?_
            refine wS (v := (E_api_OutPoint x29.Prev)) (sv (d_load rfl (ldP rfl (partN (ds := (ar32 (eI .u8) x29.Prev.Tx [(eI .u32 x29.Prev.Index)])) ti38 rfl (Nat.le_of_ble_eq_true rfl) rfl)))) ?_
            refine wS (v := (eB (mget Q_52 l1_1 x29.Prev false))) (sv (d_lk rfl rfl (lkM' mc52 (C := M_52) (CK := C_api_OutPoint) (K := 33) (E := eB) (k := x29.Prev) (fun _ => rfl) (fun _ => rfl) (by decide) (fun _ => rfl) mt52 ko52 mk52 me52 mz52 rfl))) ?_
            refine OpsW.nil ?_
            refine Ex.then_mk ?_
            refine AB.cnd rfl (fun h11 => ?_) (fun h11 => ?_)
            · replace hr4 := iteT hr4 h11
              refine AB.seq ?_
              refine AB.rw ?_
              refine wS (v := (eI .i64 91)) (sv (d_assign rfl)) ?_
              refine OpsW.nil ?_
              refine Ex.then_mk ?_
              refine AB.ret ?_
              refine Ex.then_ret_mk ?_
              refine Ex.inBlock_ret_mk ?_
              refine Ex.then_ret_mk ?_
              refine Ex.then_ret_mk ?_
              refine Ex.inBlock_ret_mk ?_
              refine Ex.then_ret_mk ?_
              obtain rfl := Option.some.inj hr4
              obtain rfl := Option.some.inj hr
              exact done_ret (r1 := (eI .i64 91)) (res1 Try.results10 (rvT rfl)) (Ghost.rn [] rfl rfl (FLe.same rfl FLe.nil) HLe.nil rfl)
            · replace hr4 := iteF hr4 h11
              refine AB.skip ?_
              refine Ex.then_mk ?_
              refine AB.rw ?_
              refine wS (v := (.mp 1)) (sv (d_move rfl)) ?_
              refine wS (v := (.ptr 2 0)) (sv (d_fa rfl (fap41_0 ..))) ?_
              refine wS (v := (E_api_OutPoint x29.Prev)) (sv (d_load rfl (ldP rfl (partN (ds := (ar32 (eI .u8) x29.Prev.Tx [(eI .u32 x29.Prev.Index)])) ti38 rfl (Nat.le_of_ble_eq_true rfl) rfl)))) ?_
              refine wN (h' := [some ⟨26, [(eI .u32 t_Version), (.row none 35 (t_Inputs.map E_api_Input)), (.row none 2 (t_Outputs.map E_api_Output)), (eI .u32 t_Lock)]⟩, some ⟨33000, (mput Q_52 l1_1 x29.Prev true).flatMap M_52⟩, some ⟨41, C_api_Input x29⟩]) (sv (d_upd rfl rfl rfl (upM' mc52 (C := M_52) (CK := C_api_OutPoint) (K := 33) (E := eB) (k := x29.Prev) (v := true) (fun _ => rfl) (fun _ => rfl) (by decide) (fun _ => rfl) (fun _ => rfl) (fun _ => rfl) mt52 ko52 mk52 me52 rfl rfl))) ?_
              refine OpsW.nil ?_
              refine Ex.inBlock_mk ?_
              refine Ex.then_mk ?_
              refine AB.rw ?_
              refine wS (v := (eI .i64 (IntKind.i64.wrap (x27 + 1)))) (sv (d_bin rfl rfl (bin_add ..))) ?_
              refine wS (v := (eI .i64 (IntKind.i64.wrap (x27 + 1)))) (sv (d_move rfl)) ?_
              refine OpsW.nil ?_
              refine Ex.then_mk ?_
              exact ⟨IntKind.i64.wrap (x27 + 1), mput Q_52 l1_1 x29.Prev true, hr4, (Ghost.rn [0, 1] rfl rfl (FLe.same rfl (FLe.same rfl (FLe.same rfl (FLe.same rfl (FLe.same rfl FLe.nil))))) (HLe.live rfl (V.les_refl _ _) rfl (HLe.live rfl (les_flat (fun _ => rfl) _) (all_flat (fun _ => rfl) _) HLe.nil)) rfl)⟩
          · replace hr4 := iteF hr4 h9
            refine AB.exit ?_
            refine Ex.then_exit_mk ?_
            refine Ex.then_exit_mk ?_
            refine Ex.inBlock_same_mk ?_
            obtain rfl := Option.some.inj hr4
            refine Ex.then_mk ?_
            exact hG2 _ _ _ _ (Ghost.rn [0, 1] rfl rfl (FLe.same rfl (FLe.same rfl FLe.nil)) (HLe.live rfl (V.les_refl _ _) rfl (HLe.live rfl (les_flat (fun _ => rfl) _) (all_flat (fun _ => rfl) _) HLe.nil)) rfl) (J2 l1_1 hr)
    rcases Bool.eq_false_or_eq_true ((t_Inputs.length : Int) == 0) with h12 | h12
    · replace hr := iteT hr h12
      refine AB.rw ?_
      refine wS (v := (.ptr 0 1)) (sv (d_fa rfl (fap26_1 ..))) ?_
      refine wS (v := (.row none 35 (t_Inputs.map E_api_Input))) (sv (d_load rfl (ldP rfl (part1 ti23 rfl rfl)))) ?_
      refine wS (v := (eI .i64 (t_Inputs.length : Int))) (sv (d_len rfl (lenR ti23))) ?_
      refine wS (v := (eB ((t_Inputs.length : Int) == 0))) (sv (d_bin rfl rfl (bin_eql ..))) ?_
      refine wS (v := (eB ((t_Inputs.length : Int) == 0))) (sv (d_move rfl)) ?_
      refine wS (svX rfl rfl h12) ?_
      refine wS (svX rfl rfl h12) ?_
      refine wS (svX rfl rfl h12) ?_
      refine wS (svX rfl rfl h12) ?_
      refine wS (v := (eB true)) (sv (d_pickT rfl h12 rfl)) ?_
      refine OpsW.nil ?_
      refine Ex.then_mk ?_
      exact hG1 _ _ _ _ (Ghost.rn [0] rfl rfl (FLe.same rfl (FLe.same rfl FLe.nil)) (HLe.live rfl (V.les_refl _ _) rfl HLe.nil) rfl) (J1 true hr)
    · replace hr := iteF hr h12
      refine AB.rw ?_
      refine wS (v := (.ptr 0 1)) (sv (d_fa rfl (fap26_1 ..))) ?_
      refine wS (v := (.row none 35 (t_Inputs.map E_api_Input))) (sv (d_load rfl (ldP rfl (part1 ti23 rfl rfl)))) ?_
      refine wS (v := (eI .i64 (t_Inputs.length : Int))) (sv (d_len rfl (lenR ti23))) ?_
      refine wS (v := (eB ((t_Inputs.length : Int) == 0))) (sv (d_bin rfl rfl (bin_eql ..))) ?_
      refine wS (v := (eB ((t_Inputs.length : Int) == 0))) (sv (d_move rfl)) ?_
      refine wS (v := (.ptr 0 2)) (svG rfl rfl h12 (d_fa rfl (fap26_2 ..))) ?_
      refine wS (v := (.row none 2 (t_Outputs.map E_api_Output))) (svG rfl rfl h12 (d_load rfl (ldP rfl (part1 ti24 rfl rfl)))) ?_
      refine wS (v := (eI .i64 (t_Outputs.length : Int))) (svG rfl rfl h12 (d_len rfl (lenR ti24))) ?_
      refine wS (v := (eB ((t_Outputs.length : Int) == 0))) (svG rfl rfl h12 (d_bin rfl rfl (bin_eql ..))) ?_
      refine wS (v := (eB ((t_Outputs.length : Int) == 0))) (sv (d_pickF rfl h12 rfl)) ?_
      refine OpsW.nil ?_
      refine Ex.then_mk ?_
      exact hG1 _ _ _ _ (Ghost.rn [0] rfl rfl (FLe.same rfl (FLe.same rfl FLe.nil)) (HLe.live rfl (V.les_refl _ _) rfl HLe.nil) rfl) (J1 ((t_Outputs.length : Int) == 0) hr)
set_option maxRecDepth 20000 in
set_option maxHeartbeats 1000000 in
theorem spend_sum_ok (N : Nat) (l : List S_api_Coin) (r : Int × Bool) (hr : spend_sum N l = some r) :
    Vm.Fn Try.prog 11 [] [(.row none 37 (l.map E_api_Coin))] (.tup [(eI .i64 r.1), (eB r.2)]) [] := by
  refine fn_ab Try.func11 rfl (by kernel_rfl) Try.ntmps11 (Nat.le_of_ble_eq_true rfl) rfl (fr := [(0, (.row none 37 (l.map E_api_Coin)))]) rfl ?_
  unfold spend_sum at hr
  refine AB.seq ?_
  refine AB.rw ?_
  refine wS (v := (eI .i64 0)) (sv (d_assign rfl)) ?_
  refine wS (v := (eB false)) (sv (d_assign rfl)) ?_
  refine OpsW.nil ?_
  refine Ex.then_mk ?_
  refine AB.seq ?_
  refine AB.rw ?_
  refine wS (v := (eI .i64 0)) (sv (d_assign rfl)) ?_
  refine OpsW.nil ?_
  refine Ex.then_mk ?_
  refine AB.seq_g fun K1 hK1 hG1 => ?_
  have J1 : ∀ (total : Int), spend_sum_J1 N total = some r → K1 (mkF 32 [(4, (eI .i64 total))]) [] := by
    intro total hr
    unfold spend_sum_J1 at hr
    refine hK1 _ _ ?_
    refine AB.seq ?_
    refine AB.rw ?_
    refine wS (v := (eI .i64 total)) (sv (d_move rfl)) ?_
    refine wS (v := (eI .i64 total)) (sv (d_assign rfl)) ?_
    refine wS (v := (eB true)) (sv (d_assign rfl)) ?_
    refine OpsW.nil ?_
    refine Ex.then_mk ?_
    refine AB.ret ?_
    obtain rfl := Option.some.inj hr
    exact done_ret (r1 := (.tup [(eI .i64 total), (eB true)])) (res2 Try.results11 (rvT rfl) (rvT rfl)) (Ghost.rn [] rfl rfl (FLe.same rfl FLe.nil) HLe.nil rfl)
  refine AB.seq ?_
  refine AB.rw ?_
  refine wS (v := (.row none 37 (l.map E_api_Coin))) (sv (d_move rfl)) ?_
  refine wS (v := (eI .i64 (l.length : Int))) (sv (d_len rfl (lenR ti27))) ?_
  refine wS (v := (eI .i64 0)) (sv (d_move rfl)) ?_
  refine OpsW.nil ?_
  refine Ex.then_mk ?_
  replace hr := bnd hr; obtain ⟨res2, hL2, hr⟩ := hr
  refine AB.block ?_
  refine AB.loopN (fun m s h => ∃ (total_1 : Int) (x9 : Int), spend_sum_L2 N l m total_1 x9 = some res2 ∧ Ghost 0 s h (mkF 32 [(4, (eI .i64 total_1)), (7, (.row none 37 (l.map E_api_Coin))), (8, (eI .i64 (l.length : Int))), (9, (eI .i64 x9))]) []) (n := N) ⟨0, 0, hL2, (Ghost.rn [] rfl rfl (FLe.same rfl (FLe.same rfl (FLe.same rfl (FLe.same rfl FLe.nil)))) HLe.nil rfl)⟩ (by rintro s h ⟨_, _, h0, _⟩; simp [spend_sum_L2] at h0) ?_
  rintro m2 s h ⟨total_1, x9, hr2, hg⟩
  refine AB.ghost hg ?_
  clear hg hL2
  rw [spend_sum_L2] at hr2
  refine AB.seq ?_
  refine AB.rw ?_
  refine wS (v := (eB (decide (x9 < (l.length : Int))))) (sv (d_bin rfl rfl (bin_lss ..))) ?_
  refine OpsW.nil ?_
  refine Ex.then_mk ?_
  refine AB.seq ?_
  refine AB.cnd rfl (fun h1 => ?_) (fun h1 => ?_)
  · replace hr2 := iteT hr2 h1
    refine AB.skip ?_
    refine Ex.then_mk ?_
    refine AB.seq ?_
    refine AB.block ?_
    refine AB.seq ?_
    replace hr2 := bnd hr2; obtain ⟨x11, h_2, hr2⟩ := hr2
    refine AB.rw ?_
    refine wS (sv (d_ia rfl rfl (iaR ti27 ti46 h_2))) ?_
    refine wS (v := (E_api_Coin x11)) (sv (d_load rfl (ldR h_2 (partN (ds := (ar32 (eI .u8) x11.Out.Tx [(eI .u32 x11.Out.Index), (eI .i64 x11.Output.Value), (.row none 1 (x11.Output.Script.map (eI .u8))), (eI .i64 x11.Height), (eB x11.Coinbase)])) ti46 rfl (Nat.le_of_ble_eq_true rfl) rfl)))) ?_
    refine wS (v := (.ptr 0 0)) (h' := [some ⟨46, (ar32 (eI .u8) (List.replicate 32 0) [(eI .u32 0), (eI .i64 0), (.row (some true) 1 []), (eI .i64 0), (eB false)])⟩]) (sv (d_alloc ti46 rfl rfl rfl)) ?_
    refine wN (h' := [some ⟨46, C_api_Coin x11⟩]) (sv (d_store rfl rfl (stP ti46 rfl rfl rfl (Nat.le_of_ble_eq_true rfl) rfl))) ?_
    refine OpsW.nil ?_
    refine Ex.then_mk ?_
    refine AB.seq ?_
    refine AB.seq_g fun K3 hK3 hG3 => ?_
    have J3 : ∀ (x24 : Bool), spend_sum_J3 N l total_1 x9 x11 (spend_sum_L2 N l m2) x24 = some res2 → K3 (mkF 32 [(4, (eI .i64 total_1)), (6, (.ptr 0 0)), (7, (.row none 37 (l.map E_api_Coin))), (8, (eI .i64 (l.length : Int))), (9, (eI .i64 x9)), (24, (eB x24))]) [some ⟨46, C_api_Coin x11⟩] := by
      intro x24 hr2
      unfold spend_sum_J3 at hr2
      refine hK3 _ _ ?_
      refine AB.cnd rfl (fun h3 => ?_) (fun h3 => ?_)
      · replace hr2 := iteT hr2 h3
        refine AB.seq ?_
        refine AB.rw ?_
        refine wS (v := (eI .i64 0)) (sv (d_assign rfl)) ?_
        refine wS (v := (eB false)) (sv (d_assign rfl)) ?_
        refine OpsW.nil ?_
        refine Ex.then_mk ?_
        refine AB.ret ?_
        refine Ex.then_ret_mk ?_
        refine Ex.inBlock_ret_mk ?_
        refine Ex.then_ret_mk ?_
        refine Ex.then_ret_mk ?_
        refine Ex.inBlock_ret_mk ?_
        refine Ex.then_ret_mk ?_
        obtain rfl := Option.some.inj hr2
        obtain rfl := Option.some.inj hr
        exact done_ret (r1 := (.tup [(eI .i64 0), (eB false)])) (res2 Try.results11 (rvT rfl) (rvT rfl)) (Ghost.rn [] rfl rfl (FLe.same rfl FLe.nil) HLe.nil rfl)
      · replace hr2 := iteF hr2 h3
        refine AB.skip ?_
        refine Ex.then_mk ?_
        refine AB.rw ?_
        refine wS (v := (eI .i64 total_1)) (sv (d_move rfl)) ?_
        refine wS (v := (.ptr 0 33)) (sv (d_fa rfl (fap46_1 ..))) ?_
        refine wS (v := (.ptr 0 33)) (sv (d_fa rfl (fap44_0 ..))) ?_
        refine wS (v := (eI .i64 x11.Output.Value)) (sv (d_load rfl (ldP rfl (part1 ti2 rfl rfl)))) ?_
        refine wS (v := (eI .i64 (IntKind.i64.wrap (total_1 + x11.Output.Value)))) (sv (d_bin rfl rfl (bin_add ..))) ?_
        refine wS (v := (eI .i64 (IntKind.i64.wrap (total_1 + x11.Output.Value)))) (sv (d_assign rfl)) ?_
        refine OpsW.nil ?_
        refine Ex.inBlock_mk ?_
        refine Ex.then_mk ?_
        refine AB.rw ?_
        refine wS (v := (eI .i64 (IntKind.i64.wrap (x9 + 1)))) (sv (d_bin rfl rfl (bin_add ..))) ?_
        refine wS (v := (eI .i64 (IntKind.i64.wrap (x9 + 1)))) (sv (d_move rfl)) ?_
        refine OpsW.nil ?_
        refine Ex.then_mk ?_
        exact ⟨IntKind.i64.wrap (total_1 + x11.Output.Value), IntKind.i64.wrap (x9 + 1), hr2, (Ghost.rn [] rfl rfl (FLe.same rfl (FLe.same rfl (FLe.same rfl (FLe.same rfl FLe.nil)))) HLe.nil rfl)⟩
    rcases Bool.eq_false_or_eq_true (decide (x11.Output.Value < 0)) with h4 | h4
    · replace hr2 := iteT hr2 h4
      refine AB.rw ?_
      refine wS (v := (.ptr 0 33)) (sv (d_fa rfl (fap46_1 ..))) ?_
      refine wS (v := (.ptr 0 33)) (sv (d_fa rfl (fap44_0 ..))) ?_
      refine wS (v := (eI .i64 x11.Output.Value)) (sv (d_load rfl (ldP rfl (part1 ti2 rfl rfl)))) ?_
      refine wS (v := (eB (decide (x11.Output.Value < 0)))) (sv (d_bin rfl rfl (bin_lss ..))) ?_
      refine wS (v := (eB (decide (x11.Output.Value < 0)))) (sv (d_move rfl)) ?_
      refine wS (svX rfl rfl h4) ?_
      refine wS (svX rfl rfl h4) ?_
      refine wS (svX rfl rfl h4) ?_
      refine wS (svX rfl rfl h4) ?_
      refine wS (svX rfl rfl h4) ?_
      refine wS (svX rfl rfl h4) ?_
      refine wS (v := (eB true)) (sv (d_pickT rfl h4 rfl)) ?_
      refine OpsW.nil ?_
      refine Ex.then_mk ?_
      exact hG3 _ _ _ _ (Ghost.rn [0] rfl rfl (FLe.same rfl (FLe.same rfl (FLe.same rfl (FLe.same rfl (FLe.same rfl (FLe.same rfl FLe.nil)))))) (HLe.live rfl (V.les_refl _ _) rfl HLe.nil) rfl) (J3 true hr2)
    · replace hr2 := iteF hr2 h4
      refine AB.rw ?_
      refine wS (v := (.ptr 0 33)) (sv (d_fa rfl (fap46_1 ..))) ?_
      refine wS (v := (.ptr 0 33)) (sv (d_fa rfl (fap44_0 ..))) ?_
      refine wS (v := (eI .i64 x11.Output.Value)) (sv (d_load rfl (ldP rfl (part1 ti2 rfl rfl)))) ?_
      refine wS (v := (eB (decide (x11.Output.Value < 0)))) (sv (d_bin rfl rfl (bin_lss ..))) ?_
      refine wS (v := (eB (decide (x11.Output.Value < 0)))) (sv (d_move rfl)) ?_
      refine wS (v := (.ptr 0 33)) (svG rfl rfl h4 (d_fa rfl (fap46_1 ..))) ?_
      refine wS (v := (.ptr 0 33)) (svG rfl rfl h4 (d_fa rfl (fap44_0 ..))) ?_
      refine wS (v := (eI .i64 x11.Output.Value)) (svG rfl rfl h4 (d_load rfl (ldP rfl (part1 ti2 rfl rfl)))) ?_
      refine wS (v := (eI .i64 total_1)) (svG rfl rfl h4 (d_move rfl)) ?_
      refine wS (v := (eI .i64 (IntKind.i64.wrap (2100000000000000 - total_1)))) (svG rfl rfl h4 (d_bin rfl rfl (bin_sub ..))) ?_
      refine wS (v := (eB (decide ((IntKind.i64.wrap (2100000000000000 - total_1)) < x11.Output.Value)))) (svG rfl rfl h4 (d_bin rfl rfl (bin_gtr ..))) ?_
      refine wS (v := (eB (decide ((IntKind.i64.wrap (2100000000000000 - total_1)) < x11.Output.Value)))) (sv (d_pickF rfl h4 rfl)) ?_
      refine OpsW.nil ?_
      refine Ex.then_mk ?_
      exact hG3 _ _ _ _ (Ghost.rn [0] rfl rfl (FLe.same rfl (FLe.same rfl (FLe.same rfl (FLe.same rfl (FLe.same rfl (FLe.same rfl FLe.nil)))))) (HLe.live rfl (V.les_refl _ _) rfl HLe.nil) rfl) (J3 (decide ((IntKind.i64.wrap (2100000000000000 - total_1)) < x11.Output.Value)) hr2)
  · replace hr2 := iteF hr2 h1
    refine AB.exit ?_
    refine Ex.then_exit_mk ?_
    refine Ex.then_exit_mk ?_
    refine Ex.inBlock_same_mk ?_
    obtain rfl := Option.some.inj hr2
    refine Ex.then_mk ?_
    exact hG1 _ _ _ _ (Ghost.rn [] rfl rfl (FLe.same rfl FLe.nil) HLe.nil rfl) (J1 total_1 hr)
set_option maxRecDepth 20000 in
set_option maxHeartbeats 1000000 in
theorem spend_Fee_ok (N : Nat) (t_Version : Int) (t_Inputs : List S_api_Input) (t_Outputs : List S_api_Output) (t_Lock : Int) (l : List S_api_Coin) (r : Int × Int) (hr : spend_Fee N t_Version t_Inputs t_Outputs t_Lock l = some r) :
    Vm.Fn Try.prog 7 [] [(.agg [(eI .u32 t_Version), (.row none 35 (t_Inputs.map E_api_Input)), (.row none 2 (t_Outputs.map E_api_Output)), (eI .u32 t_Lock)]), (.row none 37 (l.map E_api_Coin))] (.tup [(eI .i64 r.1), (eI .i64 r.2)]) [] := by
  refine fn_ab Try.func7 rfl (by kernel_rfl) Try.ntmps7 (Nat.le_of_ble_eq_true rfl) rfl (fr := [(0, (.agg [(eI .u32 t_Version), (.row none 35 (t_Inputs.map E_api_Input)), (.row none 2 (t_Outputs.map E_api_Output)), (eI .u32 t_Lock)])), (1, (.row none 37 (l.map E_api_Coin)))]) rfl ?_
  unfold spend_Fee at hr
  refine AB.seq ?_
  refine AB.rw ?_
  refine wS (v := (.ptr 0 0)) (h' := [some ⟨26, [(eI .u32 t_Version), (.row none 35 (t_Inputs.map E_api_Input)), (.row none 2 (t_Outputs.map E_api_Output)), (eI .u32 t_Lock)]⟩]) (sv (d_box rfl rfl rfl rfl)) ?_
  refine wS (v := (eI .i64 0)) (sv (d_assign rfl)) ?_
  refine wS (v := (eI .i64 0)) (sv (d_assign rfl)) ?_
  refine OpsW.nil ?_
  refine Ex.then_mk ?_
  refine AB.seq ?_
  refine AB.seq ?_
  replace hr := bnd hr; obtain ⟨x14, h_1, hr⟩ := hr
  refine AB.rw ?_
  refine wS (v := (.agg [(eI .u32 t_Version), (.row none 35 (t_Inputs.map E_api_Input)), (.row none 2 (t_Outputs.map E_api_Output)), (eI .u32 t_Lock)])) (sv (d_load rfl (ldP rfl (partN (ds := [(eI .u32 t_Version), (.row none 35 (t_Inputs.map E_api_Input)), (.row none 2 (t_Outputs.map E_api_Output)), (eI .u32 t_Lock)]) ti26 rfl (Nat.le_of_ble_eq_true rfl) rfl)))) ?_
  refine wC (v := (eI .i64 x14)) (h' := [some ⟨26, [(eI .u32 t_Version), (.row none 35 (t_Inputs.map E_api_Input)), (.row none 2 (t_Outputs.map E_api_Output)), (eI .u32 t_Lock)]⟩]) rfl (Vm.Fn.pure (tx_Check_ok N t_Version t_Inputs t_Outputs t_Lock x14 h_1) rfl rfl) ?_
  refine wS (v := (eI .i64 x14)) (sv (d_assign rfl)) ?_
  refine OpsW.nil ?_
  refine Ex.then_mk ?_
  refine AB.seq ?_
  refine AB.rw ?_
  refine wS (v := (eI .i64 x14)) (sv (d_move rfl)) ?_
  refine wS (v := (eB (x14 != 0))) (sv (d_bin rfl rfl (bin_neq ..))) ?_
  refine OpsW.nil ?_
  refine Ex.then_mk ?_
  refine AB.cnd rfl (fun h2 => ?_) (fun h2 => ?_)
  · replace hr := iteT hr h2
    refine AB.seq ?_
    refine AB.rw ?_
    refine wS (v := (eI .i64 x14)) (sv (d_move rfl)) ?_
    refine wS (v := (eI .i64 0)) (sv (d_assign rfl)) ?_
    refine wS (v := (eI .i64 x14)) (sv (d_assign rfl)) ?_
    refine OpsW.nil ?_
    refine Ex.then_mk ?_
    refine AB.ret ?_
    refine Ex.then_ret_mk ?_
    obtain rfl := Option.some.inj hr
    exact done_ret (r1 := (.tup [(eI .i64 0), (eI .i64 x14)])) (res2 Try.results7 (rvT rfl) (rvT rfl)) (Ghost.rn [] rfl rfl (FLe.same rfl FLe.nil) HLe.nil rfl)
  · replace hr := iteF hr h2
    refine AB.skip ?_
    refine Ex.then_mk ?_
    refine AB.seq ?_
    refine AB.seq ?_
    refine AB.rw ?_
    refine wS (v := (.row none 37 (l.map E_api_Coin))) (sv (d_move rfl)) ?_
    refine wS (v := (eI .i64 (l.length : Int))) (sv (d_len rfl (lenR ti27))) ?_
    refine wS (v := (.ptr 0 1)) (sv (d_fa rfl (fap26_1 ..))) ?_
    refine wS (v := (.row none 35 (t_Inputs.map E_api_Input))) (sv (d_load rfl (ldP rfl (part1 ti23 rfl rfl)))) ?_
    refine wS (v := (eI .i64 (t_Inputs.length : Int))) (sv (d_len rfl (lenR ti23))) ?_
    refine wS (v := (eB ((l.length : Int) != (t_Inputs.length : Int)))) (sv (d_bin rfl rfl (bin_neq ..))) ?_
    refine OpsW.nil ?_
    refine Ex.then_mk ?_
    refine AB.cnd rfl (fun h3 => ?_) (fun h3 => ?_)
    · replace hr := iteT hr h3
      refine AB.seq ?_
      refine AB.rw ?_
      refine wS (v := (eI .i64 0)) (sv (d_assign rfl)) ?_
      refine wS (v := (eI .i64 8)) (sv (d_assign rfl)) ?_
      refine OpsW.nil ?_
      refine Ex.then_mk ?_
      refine AB.ret ?_
      refine Ex.then_ret_mk ?_
      obtain rfl := Option.some.inj hr
      exact done_ret (r1 := (.tup [(eI .i64 0), (eI .i64 8)])) (res2 Try.results7 (rvT rfl) (rvT rfl)) (Ghost.rn [] rfl rfl (FLe.same rfl FLe.nil) HLe.nil rfl)
    · replace hr := iteF hr h3
      refine AB.skip ?_
      refine Ex.then_mk ?_
      refine AB.seq_g fun K1 hK1 hG1 => ?_
      have J1 : spend_Fee_J1 N t_Version t_Inputs t_Outputs t_Lock l = some r → K1 (mkF 63 [(1, (.row none 37 (l.map E_api_Coin))), (2, (.ptr 0 0))]) [some ⟨26, [(eI .u32 t_Version), (.row none 35 (t_Inputs.map E_api_Input)), (.row none 2 (t_Outputs.map E_api_Output)), (eI .u32 t_Lock)]⟩] := by
        intro hr
        unfold spend_Fee_J1 at hr
        refine hK1 _ _ ?_
        refine AB.seq ?_
        replace hr := bnd hr; obtain ⟨x43, h_4, hr⟩ := hr
        refine AB.rw ?_
        refine wS (v := (.row none 37 (l.map E_api_Coin))) (sv (d_move rfl)) ?_
        refine wC (v := (.tup [(eI .i64 x43.1), (eB x43.2)])) (h' := [some ⟨26, [(eI .u32 t_Version), (.row none 35 (t_Inputs.map E_api_Input)), (.row none 2 (t_Outputs.map E_api_Output)), (eI .u32 t_Lock)]⟩]) rfl (Vm.Fn.pure (spend_sum_ok N l x43 h_4) rfl rfl) ?_
        refine wS (v := (.tup [(eI .i64 x43.1), (eB x43.2)])) (sv (d_move rfl)) ?_
        refine wS (v := (eI .i64 x43.1)) (sv (d_ext rfl rfl)) ?_
        refine wS (v := (eB x43.2)) (sv (d_ext rfl rfl)) ?_
        refine wS (v := (eI .i64 x43.1)) (sv (d_assign rfl)) ?_
        refine wS (v := (eB x43.2)) (sv (d_assign rfl)) ?_
        refine OpsW.nil ?_
        refine Ex.then_mk ?_
        refine AB.seq ?_
        refine AB.seq ?_
        refine AB.rw ?_
        refine wS (v := (eB x43.2)) (sv (d_move rfl)) ?_
        refine wS (v := (eB (!x43.2))) (sv (d_un rfl (un_not _ _))) ?_
        refine OpsW.nil ?_
        refine Ex.then_mk ?_
        refine AB.cnd rfl (fun h5 => ?_) (fun h5 => ?_)
        · replace hr := iteT hr h5
          refine AB.seq ?_
          refine AB.rw ?_
          refine wS (v := (eI .i64 0)) (sv (d_assign rfl)) ?_
          refine wS (v := (eI .i64 90)) (sv (d_assign rfl)) ?_
          refine OpsW.nil ?_
          refine Ex.then_mk ?_
          refine AB.ret ?_
          refine Ex.then_ret_mk ?_
          obtain rfl := Option.some.inj hr
          exact done_ret (r1 := (.tup [(eI .i64 0), (eI .i64 90)])) (res2 Try.results7 (rvT rfl) (rvT rfl)) (Ghost.rn [] rfl rfl (FLe.same rfl FLe.nil) HLe.nil rfl)
        · replace hr := iteF hr h5
          refine AB.skip ?_
          refine Ex.then_mk ?_
          refine AB.seq_g fun K2 hK2 hG2 => ?_
          have J2 : ∀ (fee : Int), spend_Fee_J2 N fee = some r → K2 (mkF 63 [(9, (eI .i64 fee))]) [] := by
            intro fee hr
            unfold spend_Fee_J2 at hr
            refine hK2 _ _ ?_
            refine AB.seq ?_
            refine AB.seq ?_
            refine AB.rw ?_
            refine wS (v := (eI .i64 fee)) (sv (d_move rfl)) ?_
            refine wS (v := (eB (decide (fee < 0)))) (sv (d_bin rfl rfl (bin_lss ..))) ?_
            refine OpsW.nil ?_
            refine Ex.then_mk ?_
            refine AB.cnd rfl (fun h6 => ?_) (fun h6 => ?_)
            · replace hr := iteT hr h6
              refine AB.seq ?_
              refine AB.rw ?_
              refine wS (v := (eI .i64 0)) (sv (d_assign rfl)) ?_
              refine wS (v := (eI .i64 100)) (sv (d_assign rfl)) ?_
              refine OpsW.nil ?_
              refine Ex.then_mk ?_
              refine AB.ret ?_
              refine Ex.then_ret_mk ?_
              obtain rfl := Option.some.inj hr
              exact done_ret (r1 := (.tup [(eI .i64 0), (eI .i64 100)])) (res2 Try.results7 (rvT rfl) (rvT rfl)) (Ghost.rn [] rfl rfl (FLe.same rfl FLe.nil) HLe.nil rfl)
            · replace hr := iteF hr h6
              refine AB.skip ?_
              refine Ex.then_mk ?_
              refine AB.seq ?_
              refine AB.rw ?_
              refine wS (v := (eI .i64 fee)) (sv (d_move rfl)) ?_
              refine wS (v := (eI .i64 fee)) (sv (d_assign rfl)) ?_
              refine wS (v := (eI .i64 0)) (sv (d_assign rfl)) ?_
              refine OpsW.nil ?_
              refine Ex.then_mk ?_
              refine AB.ret ?_
              obtain rfl := Option.some.inj hr
              exact done_ret (r1 := (.tup [(eI .i64 fee), (eI .i64 0)])) (res2 Try.results7 (rvT rfl) (rvT rfl)) (Ghost.rn [] rfl rfl (FLe.same rfl FLe.nil) HLe.nil rfl)
          refine AB.seq ?_
          refine AB.rw ?_
          refine wS (v := (.ptr 0 2)) (sv (d_fa rfl (fap26_2 ..))) ?_
          refine wS (v := (.row none 2 (t_Outputs.map E_api_Output))) (sv (d_load rfl (ldP rfl (part1 ti24 rfl rfl)))) ?_
          refine wS (v := (eI .i64 (t_Outputs.length : Int))) (sv (d_len rfl (lenR ti24))) ?_
          refine wS (v := (eI .i64 0)) (sv (d_move rfl)) ?_
          refine OpsW.nil ?_
          refine Ex.then_mk ?_
          replace hr := bnd hr; obtain ⟨res3, hL3, hr⟩ := hr
          refine AB.block ?_
          refine AB.loopN (fun m s h => ∃ (fee_1 : Int) (x51 : Int), spend_Fee_L3 N t_Outputs m fee_1 x51 = some res3 ∧ Ghost 0 s h (mkF 63 [(9, (eI .i64 fee_1)), (49, (.row none 2 (t_Outputs.map E_api_Output))), (50, (eI .i64 (t_Outputs.length : Int))), (51, (eI .i64 x51))]) []) (n := N) ⟨x43.1, 0, hL3, (Ghost.rn [] rfl rfl (FLe.same rfl (FLe.same rfl (FLe.same rfl (FLe.same rfl FLe.nil)))) HLe.nil rfl)⟩ (by rintro s h ⟨_, _, h0, _⟩; simp [spend_Fee_L3] at h0) ?_
          rintro m3 s h ⟨fee_1, x51, hr3, hg⟩
          refine AB.ghost hg ?_
          clear hg hL3
          rw [spend_Fee_L3] at hr3
          refine AB.seq ?_
          refine AB.rw ?_
          refine wS (v := (eB (decide (x51 < (t_Outputs.length : Int))))) (sv (d_bin rfl rfl (bin_lss ..))) ?_
          refine OpsW.nil ?_
          refine Ex.then_mk ?_
          refine AB.seq ?_
          refine AB.cnd rfl (fun h7 => ?_) (fun h7 => ?_)
          · replace hr3 := iteT hr3 h7
            refine AB.skip ?_
            refine Ex.then_mk ?_
            refine AB.seq ?_
            refine AB.block ?_
            refine AB.seq ?_
            replace hr3 := bnd hr3; obtain ⟨x53, h_8, hr3⟩ := hr3
            refine AB.rw ?_
            refine wS (sv (d_ia rfl rfl (iaR ti24 ti44 h_8))) ?_
            refine wS (v := (.agg [(eI .i64 x53.Value), (.row none 1 (x53.Script.map (eI .u8)))])) (sv (d_load rfl (ldR h_8 (partN (ds := [(eI .i64 x53.Value), (.row none 1 (x53.Script.map (eI .u8)))]) ti44 rfl (Nat.le_of_ble_eq_true rfl) rfl)))) ?_
            refine wS (v := (.ptr 0 0)) (h' := [some ⟨44, [(eI .i64 0), (.row (some true) 1 [])]⟩]) (sv (d_alloc ti44 rfl rfl rfl)) ?_
            refine wN (h' := [some ⟨44, [(eI .i64 x53.Value), (.row none 1 (x53.Script.map (eI .u8)))]⟩]) (sv (d_store rfl rfl (stP ti44 rfl rfl rfl (Nat.le_of_ble_eq_true rfl) rfl))) ?_
            refine OpsW.nil ?_
            refine Ex.then_mk ?_
            refine AB.rw ?_
            refine wS (v := (eI .i64 fee_1)) (sv (d_move rfl)) ?_
            refine wS (v := (.ptr 0 0)) (sv (d_fa rfl (fap44_0 ..))) ?_
            refine wS (v := (eI .i64 x53.Value)) (sv (d_load rfl (ldP rfl (part1 ti2 rfl rfl)))) ?_
            refine wS (v := (eI .i64 (IntKind.i64.wrap (fee_1 - x53.Value)))) (sv (d_bin rfl rfl (bin_sub ..))) ?_
            refine wS (v := (eI .i64 (IntKind.i64.wrap (fee_1 - x53.Value)))) (sv (d_assign rfl)) ?_
            refine OpsW.nil ?_
            refine Ex.inBlock_mk ?_
            refine Ex.then_mk ?_
            refine AB.rw ?_
            refine wS (v := (eI .i64 (IntKind.i64.wrap (x51 + 1)))) (sv (d_bin rfl rfl (bin_add ..))) ?_
            refine wS (v := (eI .i64 (IntKind.i64.wrap (x51 + 1)))) (sv (d_move rfl)) ?_
            refine OpsW.nil ?_
            refine Ex.then_mk ?_
            exact ⟨IntKind.i64.wrap (fee_1 - x53.Value), IntKind.i64.wrap (x51 + 1), hr3, (Ghost.rn [] rfl rfl (FLe.same rfl (FLe.same rfl (FLe.same rfl (FLe.same rfl FLe.nil)))) HLe.nil rfl)⟩
          · replace hr3 := iteF hr3 h7
            refine AB.exit ?_
            refine Ex.then_exit_mk ?_
            refine Ex.then_exit_mk ?_
            refine Ex.inBlock_same_mk ?_
            obtain rfl := Option.some.inj hr3
            refine Ex.then_mk ?_
            exact hG2 _ _ _ _ (Ghost.rn [] rfl rfl (FLe.same rfl FLe.nil) HLe.nil rfl) (J2 fee_1 hr)
      refine AB.seq ?_
      refine AB.rw ?_
      refine wS (v := (.row none 37 (l.map E_api_Coin))) (sv (d_move rfl)) ?_
      refine wS (v := (eI .i64 (l.length : Int))) (sv (d_len rfl (lenR ti27))) ?_
      refine wS (v := (eI .i64 0)) (sv (d_move rfl)) ?_
      refine OpsW.nil ?_
      refine Ex.then_mk ?_
      replace hr := bnd hr; obtain ⟨res4, hL4, hr⟩ := hr
      refine AB.block ?_
      refine AB.loopN (fun m s h => ∃ (x26 : Int), spend_Fee_L4 N t_Version t_Inputs t_Outputs t_Lock l m x26 = some res4 ∧ Ghost 0 s h (mkF 63 [(1, (.row none 37 (l.map E_api_Coin))), (2, (.ptr 0 0)), (24, (.row none 37 (l.map E_api_Coin))), (25, (eI .i64 (l.length : Int))), (26, (eI .i64 x26))]) [some ⟨26, [(eI .u32 t_Version), (.row none 35 (t_Inputs.map E_api_Input)), (.row none 2 (t_Outputs.map E_api_Output)), (eI .u32 t_Lock)]⟩]) (n := N) ⟨0, hL4, (Ghost.rn [0] rfl rfl (FLe.same rfl (FLe.same rfl (FLe.same rfl (FLe.same rfl (FLe.same rfl FLe.nil))))) (HLe.live rfl (V.les_refl _ _) rfl HLe.nil) rfl)⟩ (by rintro s h ⟨_, h0, _⟩; simp [spend_Fee_L4] at h0) ?_
      rintro m4 s h ⟨x26, hr4, hg⟩
      refine AB.ghost hg ?_
      clear hg hL4
      rw [spend_Fee_L4] at hr4
      refine AB.seq ?_
      refine AB.rw ?_
      refine wS (v := (eB (decide (x26 < (l.length : Int))))) (sv (d_bin rfl rfl (bin_lss ..))) ?_
      refine OpsW.nil ?_
      refine Ex.then_mk ?_
      refine AB.seq ?_
      refine AB.cnd rfl (fun h9 => ?_) (fun h9 => ?_)
      · replace hr4 := iteT hr4 h9
        refine AB.skip ?_
        refine Ex.then_mk ?_
        refine AB.seq ?_
        refine AB.block ?_
        refine AB.seq ?_
        replace hr4 := bnd hr4; obtain ⟨x29, h_10, hr4⟩ := hr4
        refine AB.rw ?_
        refine wS (v := (eI .i64 x26)) (sv (d_move rfl)) ?_
        refine wS (sv (d_ia rfl rfl (iaR ti27 ti46 h_10))) ?_
        refine wS (v := (E_api_Coin x29)) (sv (d_load rfl (ldR h_10 (partN (ds := (ar32 (eI .u8) x29.Out.Tx [(eI .u32 x29.Out.Index), (eI .i64 x29.Output.Value), (.row none 1 (x29.Output.Script.map (eI .u8))), (eI .i64 x29.Height), (eB x29.Coinbase)])) ti46 rfl (Nat.le_of_ble_eq_true rfl) rfl)))) ?_
        refine wS (v := (.ptr 1 0)) (h' := [some ⟨26, [(eI .u32 t_Version), (.row none 35 (t_Inputs.map E_api_Input)), (.row none 2 (t_Outputs.map E_api_Output)), (eI .u32 t_Lock)]⟩, some ⟨46, (ar32 (eI .u8) (List.replicate 32 0) [(eI .u32 0), (eI .i64 0), (.row (some true) 1 []), (eI .i64 0), (eB false)])⟩]) (sv (d_alloc ti46 rfl rfl rfl)) ?_
        refine wS (v := (eI .i64 x26)) (sv (d_assign rfl)) ?_
        refine wN (h' := [some ⟨26, [(eI .u32 t_Version), (.row none 35 (t_Inputs.map E_api_Input)), (.row none 2 (t_Outputs.map E_api_Output)), (eI .u32 t_Lock)]⟩, some ⟨46, C_api_Coin x29⟩]) (sv (d_store rfl rfl (stP ti46 rfl rfl rfl (Nat.le_of_ble_eq_true rfl) rfl))) ?_
        refine OpsW.nil ?_
        refine Ex.then_mk ?_
        refine AB.seq ?_
        replace hr4 := bnd hr4; obtain ⟨x36, h_11, hr4⟩ := hr4
        refine AB.rg E0 (fun _ => by show drawOk (fun _ => false) _ = true; decide +kernel) ?_
        refine tS (v := (.ptr 1 0)) (sv (d_fa rfl (fap46_0 ..))) ?_
        refine tS (v := (E_api_OutPoint x29.Out)) (sv (d_load rfl (ldP rfl (partN (ds := (ar32 (eI .u8) x29.Out.Tx [(eI .u32 x29.Out.Index)])) ti38 rfl (Nat.le_of_ble_eq_true rfl) rfl)))) ?_
        refine tS (v := (.ptr 0 1)) (sv (d_fa rfl (fap26_1 ..))) ?_
        refine tS (v := (.row none 35 (t_Inputs.map E_api_Input))) (sv (d_load rfl (ldP rfl (part1 ti23 rfl rfl)))) ?_
        refine tS (v := (eI .i64 x26)) (sv (d_move rfl)) ?_
        refine tS (sv (d_ia rfl rfl (iaR ti23 ti41 h_11))) ?_
        refine tS (sv (d_fa rfl (fae41_0 ..))) ?_
        refine tS (v := (E_api_OutPoint x36.Prev)) (sv (d_load rfl (ldR h_11 (partN (ds := (ar32 (eI .u8) x36.Prev.Tx [(eI .u32 x36.Prev.Index)])) ti38 rfl (Nat.le_of_ble_eq_true rfl) rfl)))) ?_
        refine tS (v := (eB (!(aeq32 x29.Out.Tx x36.Prev.Tx ((x29.Out.Index == x36.Prev.Index) && true))))) (sv (d_bin rfl rfl (bin_neqP (d := 9) ti38 rfl ft38 (Nat.le_of_ble_eq_true rfl) eg38 rfl rfl rfl rfl rfl))) ?_
        refine OpsTo.nil ?_
        refine Ex.then_mk ?_
        refine AB.cnd rfl (fun h12 => ?_) (fun h12 => ?_)
        · replace hr4 := iteT hr4 h12
          refine AB.seq ?_
          refine AB.rw ?_
          refine wS (v := (eI .i64 0)) (sv (d_assign rfl)) ?_
          refine wS (v := (eI .i64 101)) (sv (d_assign rfl)) ?_
          refine OpsW.nil ?_
          refine Ex.then_mk ?_
          refine AB.ret ?_
          refine Ex.inBlock_ret_mk ?_
          refine Ex.then_ret_mk ?_
          refine Ex.then_ret_mk ?_
          refine Ex.inBlock_ret_mk ?_
          refine Ex.then_ret_mk ?_
          obtain rfl := Option.some.inj hr4
          obtain rfl := Option.some.inj hr
          exact done_ret (r1 := (.tup [(eI .i64 0), (eI .i64 101)])) (res2 Try.results7 (rvT rfl) (rvT rfl)) (Ghost.rn [] rfl rfl (FLe.same rfl FLe.nil) HLe.nil rfl)
        · replace hr4 := iteF hr4 h12
          refine AB.skip ?_
          refine Ex.inBlock_mk ?_
          refine Ex.then_mk ?_
          refine AB.rw ?_
          refine wS (v := (eI .i64 (IntKind.i64.wrap (x26 + 1)))) (sv (d_bin rfl rfl (bin_add ..))) ?_
          refine wS (v := (eI .i64 (IntKind.i64.wrap (x26 + 1)))) (sv (d_move rfl)) ?_
          refine OpsW.nil ?_
          refine Ex.then_mk ?_
          exact ⟨IntKind.i64.wrap (x26 + 1), hr4, (Ghost.rn [0] rfl rfl (FLe.same rfl (FLe.same rfl (FLe.same rfl (FLe.same rfl (FLe.same rfl FLe.nil))))) (HLe.live rfl (V.les_refl _ _) rfl HLe.nil) rfl)⟩
      · replace hr4 := iteF hr4 h9
        refine AB.exit ?_
        refine Ex.then_exit_mk ?_
        refine Ex.then_exit_mk ?_
        refine Ex.inBlock_same_mk ?_
        obtain rfl := Option.some.inj hr4
        refine Ex.then_mk ?_
        exact hG1 _ _ _ _ (Ghost.rn [0] rfl rfl (FLe.same rfl (FLe.same rfl FLe.nil)) (HLe.live rfl (V.les_refl _ _) rfl HLe.nil) rfl) (J1 hr)
set_option maxRecDepth 20000 in
set_option maxHeartbeats 1000000 in
theorem law10_sane_ok (N : Nat) (r : Bool) (hr : law10_sane N = some r) :
    Vm.Fn Try.prog 4 [] [] (eB r) [] := by
  refine fn_ab Try.func4 rfl (by kernel_rfl) Try.ntmps4 (Nat.le_of_ble_eq_true rfl) rfl (fr := []) rfl ?_
  unfold law10_sane at hr
  refine AB.seq ?_
  refine AB.rw ?_
  refine wS (v := (eB false)) (sv (d_assign rfl)) ?_
  refine OpsW.nil ?_
  refine Ex.then_mk ?_
  refine AB.seq ?_
  refine AB.rw ?_
  refine wS (v := (.agg (ar32 (eI .u8) (List.replicate 32 0) [(eI .u32 1)]))) (sv (d_build rfl (bldS ti38 pl38 rfl))) ?_
  refine wS (v := (.agg (ar32 (eI .u8) (List.replicate 32 0) [(eI .u32 2)]))) (sv (d_build rfl (bldS ti38 pl38 rfl))) ?_
  refine wS (v := (.ptr 0 0)) (h' := [some ⟨38, (ar32 (eI .u8) (List.replicate 32 0) [(eI .u32 0)])⟩]) (sv (d_alloc ti38 rfl rfl rfl)) ?_
  refine wS (v := (.ptr 1 0)) (h' := [some ⟨38, (ar32 (eI .u8) (List.replicate 32 0) [(eI .u32 0)])⟩, some ⟨38, (ar32 (eI .u8) (List.replicate 32 0) [(eI .u32 0)])⟩]) (sv (d_alloc ti38 rfl rfl rfl)) ?_
  refine wN (h' := [some ⟨38, (ar32 (eI .u8) (List.replicate 32 0) [(eI .u32 1)])⟩, some ⟨38, (ar32 (eI .u8) (List.replicate 32 0) [(eI .u32 0)])⟩]) (sv (d_store rfl rfl (stP ti38 rfl rfl rfl (Nat.le_of_ble_eq_true rfl) rfl))) ?_
  refine wN (h' := [some ⟨38, (ar32 (eI .u8) (List.replicate 32 0) [(eI .u32 1)])⟩, some ⟨38, (ar32 (eI .u8) (List.replicate 32 0) [(eI .u32 2)])⟩]) (sv (d_store rfl rfl (stP ti38 rfl rfl rfl (Nat.le_of_ble_eq_true rfl) rfl))) ?_
  refine OpsW.nil ?_
  refine Ex.then_mk ?_
  refine AB.seq ?_
  refine AB.rw ?_
  refine wS (v := (.agg (ar32 (eI .u8) (List.replicate 32 0) [(eI .u32 1)]))) (sv (d_load rfl (ldP rfl (partN (ds := (ar32 (eI .u8) (List.replicate 32 0) [(eI .u32 1)])) ti38 rfl (Nat.le_of_ble_eq_true rfl) rfl)))) ?_
  refine wS (v := (.agg (ar32 (eI .u8) (List.replicate 32 0) [(eI .u32 1), (eI .u32 0), (.row (some true) 1 [])]))) (sv (d_build rfl (bldS ti41 pl41 rfl))) ?_
  refine wS (v := (.agg (ar32 (eI .u8) (List.replicate 32 0) [(eI .u32 2)]))) (sv (d_load rfl (ldP rfl (partN (ds := (ar32 (eI .u8) (List.replicate 32 0) [(eI .u32 2)])) ti38 rfl (Nat.le_of_ble_eq_true rfl) rfl)))) ?_
  refine wS (v := (.agg (ar32 (eI .u8) (List.replicate 32 0) [(eI .u32 2), (eI .u32 0), (.row (some true) 1 [])]))) (sv (d_build rfl (bldS ti41 pl41 rfl))) ?_
  refine OpsW.ghost (Ghost.weak (fr' := [(0, (eB false)), (1, (.ptr 0 0)), (2, (.ptr 1 0)), (9, (.agg (ar32 (eI .u8) (List.replicate 32 0) [(eI .u32 1)]))), (10, (.agg (ar32 (eI .u8) (List.replicate 32 0) [(eI .u32 2)]))), (11, (.agg (ar32 (eI .u8) (List.replicate 32 0) [(eI .u32 1)]))), (12, (.agg (ar32 (eI .u8) (List.replicate 32 0) [(eI .u32 1), (eI .u32 0), (.row none 1 ([].map (eL 1 (eI .u8))))]))), (13, (.agg (ar32 (eI .u8) (List.replicate 32 0) [(eI .u32 2)]))), (14, (.agg (ar32 (eI .u8) (List.replicate 32 0) [(eI .u32 2), (eI .u32 0), (.row (some true) 1 [])])))]) (FLe.same rfl (FLe.same rfl (FLe.same rfl (FLe.same rfl (FLe.same rfl (FLe.same rfl (FLe.le rfl (V.le_agg (les_ar32 (V.les_cons (V.le_refl _ _) (V.les_cons (V.le_refl _ _) (V.les_cons V.le_nil V.les_nil))))) (FLe.same rfl (FLe.same rfl FLe.nil)))))))))) ?_
  refine OpsW.ghost (Ghost.weak (fr' := [(0, (eB false)), (1, (.ptr 0 0)), (2, (.ptr 1 0)), (9, (.agg (ar32 (eI .u8) (List.replicate 32 0) [(eI .u32 1)]))), (10, (.agg (ar32 (eI .u8) (List.replicate 32 0) [(eI .u32 2)]))), (11, (.agg (ar32 (eI .u8) (List.replicate 32 0) [(eI .u32 1)]))), (12, (.agg (ar32 (eI .u8) (List.replicate 32 0) [(eI .u32 1), (eI .u32 0), (.row none 1 ([].map (eL 1 (eI .u8))))]))), (13, (.agg (ar32 (eI .u8) (List.replicate 32 0) [(eI .u32 2)]))), (14, (.agg (ar32 (eI .u8) (List.replicate 32 0) [(eI .u32 2), (eI .u32 0), (.row none 1 ([].map (eL 1 (eI .u8))))])))]) (FLe.same rfl (FLe.same rfl (FLe.same rfl (FLe.same rfl (FLe.same rfl (FLe.same rfl (FLe.same rfl (FLe.same rfl (FLe.le rfl (V.le_agg (les_ar32 (V.les_cons (V.le_refl _ _) (V.les_cons (V.le_refl _ _) (V.les_cons V.le_nil V.les_nil))))) FLe.nil)))))))))) ?_
  refine wS (v := (.sl 2 0 2 35 true)) (h' := [some ⟨38, (ar32 (eI .u8) (List.replicate 32 0) [(eI .u32 1)])⟩, some ⟨38, (ar32 (eI .u8) (List.replicate 32 0) [(eI .u32 2)])⟩, some ⟨41, [(S_api_Input.mk (S_api_OutPoint.mk (List.replicate 32 0) 1) 0 []), (S_api_Input.mk (S_api_OutPoint.mk (List.replicate 32 0) 2) 0 [])].flatMap C_api_Input⟩]) (sv (d_buildS rfl (bldLK (C := C_api_Input) (xs := [(S_api_Input.mk (S_api_OutPoint.mk (List.replicate 32 0) 1) 0 []), (S_api_Input.mk (S_api_OutPoint.mk (List.replicate 32 0) 2) 0 [])]) (K := 35) (fun _ => rfl) (fun _ => rfl) ti23 ti41 ⟨Nat.le_of_ble_eq_true rfl, Nat.le_of_ble_eq_true rfl, Nat.le_of_ble_eq_true rfl⟩ rfl rfl rfl rfl rfl rfl))) ?_
  refine wS (v := (.agg [(eI .i64 10), (.row (some true) 1 [])])) (sv (d_build rfl (bldS ti44 pl44 rfl))) ?_
  refine OpsW.ghost (Ghost.weak (fr' := [(0, (eB false)), (1, (.ptr 0 0)), (2, (.ptr 1 0)), (9, (.agg (ar32 (eI .u8) (List.replicate 32 0) [(eI .u32 1)]))), (10, (.agg (ar32 (eI .u8) (List.replicate 32 0) [(eI .u32 2)]))), (11, (.agg (ar32 (eI .u8) (List.replicate 32 0) [(eI .u32 1)]))), (12, (.agg (ar32 (eI .u8) (List.replicate 32 0) [(eI .u32 1), (eI .u32 0), (.row none 1 ([].map (eL 1 (eI .u8))))]))), (13, (.agg (ar32 (eI .u8) (List.replicate 32 0) [(eI .u32 2)]))), (14, (.agg (ar32 (eI .u8) (List.replicate 32 0) [(eI .u32 2), (eI .u32 0), (.row none 1 ([].map (eL 1 (eI .u8))))]))), (15, (.sl 2 0 2 35 true)), (16, (.agg [(eI .i64 10), (.row none 1 ([].map (eI .u8)))]))]) (FLe.same rfl (FLe.same rfl (FLe.same rfl (FLe.same rfl (FLe.same rfl (FLe.same rfl (FLe.same rfl (FLe.same rfl (FLe.same rfl (FLe.same rfl (FLe.le rfl (V.le_agg (V.les_cons (V.le_refl _ _) (V.les_cons V.le_nil V.les_nil))) FLe.nil)))))))))))) ?_
  refine wS (v := (.sl 3 0 1 2 true)) (h' := [some ⟨38, (ar32 (eI .u8) (List.replicate 32 0) [(eI .u32 1)])⟩, some ⟨38, (ar32 (eI .u8) (List.replicate 32 0) [(eI .u32 2)])⟩, some ⟨41, [(S_api_Input.mk (S_api_OutPoint.mk (List.replicate 32 0) 1) 0 []), (S_api_Input.mk (S_api_OutPoint.mk (List.replicate 32 0) 2) 0 [])].flatMap C_api_Input⟩, some ⟨44, [(S_api_Output.mk 10 [])].flatMap C_api_Output⟩]) (sv (d_buildS rfl (bldLK (C := C_api_Output) (xs := [(S_api_Output.mk 10 [])]) (K := 2) (fun _ => rfl) (fun _ => rfl) ti24 ti44 ⟨Nat.le_of_ble_eq_true rfl, Nat.le_of_ble_eq_true rfl, Nat.le_of_ble_eq_true rfl⟩ rfl rfl rfl rfl rfl rfl))) ?_
  refine wS (v := (.agg [(eI .u32 0), (.sl 2 0 2 35 true), (.sl 3 0 1 2 true), (eI .u32 0)])) (sv (d_build rfl (bldS ti26 pl26 rfl))) ?_
  refine wS (v := (.ptr 4 0)) (h' := [some ⟨38, (ar32 (eI .u8) (List.replicate 32 0) [(eI .u32 1)])⟩, some ⟨38, (ar32 (eI .u8) (List.replicate 32 0) [(eI .u32 2)])⟩, some ⟨41, [(S_api_Input.mk (S_api_OutPoint.mk (List.replicate 32 0) 1) 0 []), (S_api_Input.mk (S_api_OutPoint.mk (List.replicate 32 0) 2) 0 [])].flatMap C_api_Input⟩, some ⟨44, [(S_api_Output.mk 10 [])].flatMap C_api_Output⟩, some ⟨26, [(eI .u32 0), (.row (some true) 1 []), (.row (some true) 1 []), (eI .u32 0)]⟩]) (sv (d_alloc ti26 rfl rfl rfl)) ?_
  refine wN (h' := [some ⟨38, (ar32 (eI .u8) (List.replicate 32 0) [(eI .u32 1)])⟩, some ⟨38, (ar32 (eI .u8) (List.replicate 32 0) [(eI .u32 2)])⟩, some ⟨41, [(S_api_Input.mk (S_api_OutPoint.mk (List.replicate 32 0) 1) 0 []), (S_api_Input.mk (S_api_OutPoint.mk (List.replicate 32 0) 2) 0 [])].flatMap C_api_Input⟩, some ⟨44, [(S_api_Output.mk 10 [])].flatMap C_api_Output⟩, some ⟨26, [(eI .u32 0), (.sl 2 0 2 35 true), (.sl 3 0 1 2 true), (eI .u32 0)]⟩]) (sv (d_store rfl rfl (stP ti26 rfl rfl rfl (Nat.le_of_ble_eq_true rfl) rfl))) ?_
  refine OpsW.nil ?_
  refine Ex.then_mk ?_
  refine AB.seq ?_
  refine AB.rw ?_
  refine wS (v := (.agg (ar32 (eI .u8) (List.replicate 32 0) [(eI .u32 1)]))) (sv (d_load rfl (ldP rfl (partN (ds := (ar32 (eI .u8) (List.replicate 32 0) [(eI .u32 1)])) ti38 rfl (Nat.le_of_ble_eq_true rfl) rfl)))) ?_
  refine wS (v := (.agg [(eI .i64 5), (.row (some true) 1 [])])) (sv (d_build rfl (bldS ti44 pl44 rfl))) ?_
  refine wS (v := (.agg (ar32 (eI .u8) (List.replicate 32 0) [(eI .u32 1), (eI .i64 5), (.row (some true) 1 []), (eI .i64 0), (eB false)]))) (sv (d_build rfl (bldS ti46 pl46 rfl))) ?_
  refine wS (v := (.agg (ar32 (eI .u8) (List.replicate 32 0) [(eI .u32 2)]))) (sv (d_load rfl (ldP rfl (partN (ds := (ar32 (eI .u8) (List.replicate 32 0) [(eI .u32 2)])) ti38 rfl (Nat.le_of_ble_eq_true rfl) rfl)))) ?_
  refine wS (v := (.agg [(eI .i64 7), (.row (some true) 1 [])])) (sv (d_build rfl (bldS ti44 pl44 rfl))) ?_
  refine wS (v := (.agg (ar32 (eI .u8) (List.replicate 32 0) [(eI .u32 2), (eI .i64 7), (.row (some true) 1 []), (eI .i64 0), (eB false)]))) (sv (d_build rfl (bldS ti46 pl46 rfl))) ?_
  refine OpsW.ghost (Ghost.weak (fr' := [(0, (eB false)), (1, (.ptr 0 0)), (2, (.ptr 1 0)), (3, (.ptr 4 0)), (9, (.agg (ar32 (eI .u8) (List.replicate 32 0) [(eI .u32 1)]))), (10, (.agg (ar32 (eI .u8) (List.replicate 32 0) [(eI .u32 2)]))), (11, (.agg (ar32 (eI .u8) (List.replicate 32 0) [(eI .u32 1)]))), (12, (.agg (ar32 (eI .u8) (List.replicate 32 0) [(eI .u32 1), (eI .u32 0), (.row none 1 ([].map (eL 1 (eI .u8))))]))), (13, (.agg (ar32 (eI .u8) (List.replicate 32 0) [(eI .u32 2)]))), (14, (.agg (ar32 (eI .u8) (List.replicate 32 0) [(eI .u32 2), (eI .u32 0), (.row none 1 ([].map (eL 1 (eI .u8))))]))), (15, (.sl 2 0 2 35 true)), (16, (.agg [(eI .i64 10), (.row none 1 ([].map (eI .u8)))])), (17, (.sl 3 0 1 2 true)), (18, (.agg [(eI .u32 0), (.sl 2 0 2 35 true), (.sl 3 0 1 2 true), (eI .u32 0)])), (19, (.agg (ar32 (eI .u8) (List.replicate 32 0) [(eI .u32 1)]))), (20, (.agg [(eI .i64 5), (.row (some true) 1 [])])), (21, (.agg (ar32 (eI .u8) (List.replicate 32 0) [(eI .u32 1), (eI .i64 5), (.row none 1 ([].map (eI .u8))), (eI .i64 0), (eB false)]))), (22, (.agg (ar32 (eI .u8) (List.replicate 32 0) [(eI .u32 2)]))), (23, (.agg [(eI .i64 7), (.row (some true) 1 [])])), (24, (.agg (ar32 (eI .u8) (List.replicate 32 0) [(eI .u32 2), (eI .i64 7), (.row (some true) 1 []), (eI .i64 0), (eB false)])))]) (FLe.same rfl (FLe.same rfl (FLe.same rfl (FLe.same rfl (FLe.same rfl (FLe.same rfl (FLe.same rfl (FLe.same rfl (FLe.same rfl (FLe.same rfl (FLe.same rfl (FLe.same rfl (FLe.same rfl (FLe.same rfl (FLe.same rfl (FLe.same rfl (FLe.le rfl (V.le_agg (les_ar32 (V.les_cons (V.le_refl _ _) (V.les_cons (V.le_refl _ _) (V.les_cons V.le_nil (V.les_cons (V.le_refl _ _) (V.les_cons (V.le_refl _ _) V.les_nil))))))) (FLe.same rfl (FLe.same rfl (FLe.same rfl FLe.nil))))))))))))))))))))) ?_
  refine OpsW.ghost (Ghost.weak (fr' := [(0, (eB false)), (1, (.ptr 0 0)), (2, (.ptr 1 0)), (3, (.ptr 4 0)), (9, (.agg (ar32 (eI .u8) (List.replicate 32 0) [(eI .u32 1)]))), (10, (.agg (ar32 (eI .u8) (List.replicate 32 0) [(eI .u32 2)]))), (11, (.agg (ar32 (eI .u8) (List.replicate 32 0) [(eI .u32 1)]))), (12, (.agg (ar32 (eI .u8) (List.replicate 32 0) [(eI .u32 1), (eI .u32 0), (.row none 1 ([].map (eL 1 (eI .u8))))]))), (13, (.agg (ar32 (eI .u8) (List.replicate 32 0) [(eI .u32 2)]))), (14, (.agg (ar32 (eI .u8) (List.replicate 32 0) [(eI .u32 2), (eI .u32 0), (.row none 1 ([].map (eL 1 (eI .u8))))]))), (15, (.sl 2 0 2 35 true)), (16, (.agg [(eI .i64 10), (.row none 1 ([].map (eI .u8)))])), (17, (.sl 3 0 1 2 true)), (18, (.agg [(eI .u32 0), (.sl 2 0 2 35 true), (.sl 3 0 1 2 true), (eI .u32 0)])), (19, (.agg (ar32 (eI .u8) (List.replicate 32 0) [(eI .u32 1)]))), (20, (.agg [(eI .i64 5), (.row (some true) 1 [])])), (21, (.agg (ar32 (eI .u8) (List.replicate 32 0) [(eI .u32 1), (eI .i64 5), (.row none 1 ([].map (eI .u8))), (eI .i64 0), (eB false)]))), (22, (.agg (ar32 (eI .u8) (List.replicate 32 0) [(eI .u32 2)]))), (23, (.agg [(eI .i64 7), (.row (some true) 1 [])])), (24, (.agg (ar32 (eI .u8) (List.replicate 32 0) [(eI .u32 2), (eI .i64 7), (.row none 1 ([].map (eI .u8))), (eI .i64 0), (eB false)])))]) (FLe.same rfl (FLe.same rfl (FLe.same rfl (FLe.same rfl (FLe.same rfl (FLe.same rfl (FLe.same rfl (FLe.same rfl (FLe.same rfl (FLe.same rfl (FLe.same rfl (FLe.same rfl (FLe.same rfl (FLe.same rfl (FLe.same rfl (FLe.same rfl (FLe.same rfl (FLe.same rfl (FLe.same rfl (FLe.le rfl (V.le_agg (les_ar32 (V.les_cons (V.le_refl _ _) (V.les_cons (V.le_refl _ _) (V.les_cons V.le_nil (V.les_cons (V.le_refl _ _) (V.les_cons (V.le_refl _ _) V.les_nil))))))) FLe.nil))))))))))))))))))))) ?_
  refine wS (v := (.sl 5 0 2 37 true)) (h' := [some ⟨38, (ar32 (eI .u8) (List.replicate 32 0) [(eI .u32 1)])⟩, some ⟨38, (ar32 (eI .u8) (List.replicate 32 0) [(eI .u32 2)])⟩, some ⟨41, [(S_api_Input.mk (S_api_OutPoint.mk (List.replicate 32 0) 1) 0 []), (S_api_Input.mk (S_api_OutPoint.mk (List.replicate 32 0) 2) 0 [])].flatMap C_api_Input⟩, some ⟨44, [(S_api_Output.mk 10 [])].flatMap C_api_Output⟩, some ⟨26, [(eI .u32 0), (.sl 2 0 2 35 true), (.sl 3 0 1 2 true), (eI .u32 0)]⟩, some ⟨46, [(S_api_Coin.mk (S_api_OutPoint.mk (List.replicate 32 0) 1) (S_api_Output.mk 5 []) 0 false), (S_api_Coin.mk (S_api_OutPoint.mk (List.replicate 32 0) 2) (S_api_Output.mk 7 []) 0 false)].flatMap C_api_Coin⟩]) (sv (d_buildS rfl (bldLK (C := C_api_Coin) (xs := [(S_api_Coin.mk (S_api_OutPoint.mk (List.replicate 32 0) 1) (S_api_Output.mk 5 []) 0 false), (S_api_Coin.mk (S_api_OutPoint.mk (List.replicate 32 0) 2) (S_api_Output.mk 7 []) 0 false)]) (K := 37) (fun _ => rfl) (fun _ => rfl) ti27 ti46 ⟨Nat.le_of_ble_eq_true rfl, Nat.le_of_ble_eq_true rfl, Nat.le_of_ble_eq_true rfl⟩ rfl rfl rfl rfl rfl rfl))) ?_
  refine wS (v := (.sl 5 0 2 37 true)) (sv (d_assign rfl)) ?_
  refine OpsW.nil ?_
  refine Ex.then_mk ?_
  refine AB.seq ?_
  replace hr := bnd hr; obtain ⟨x29, h_1, hr⟩ := hr
  refine AB.rw ?_
  refine wS (v := (.agg [(eI .u32 0), (.sl 2 0 2 35 true), (.sl 3 0 1 2 true), (eI .u32 0)])) (sv (d_load rfl (ldP rfl (partN (ds := [(eI .u32 0), (.sl 2 0 2 35 true), (.sl 3 0 1 2 true), (eI .u32 0)]) ti26 rfl (Nat.le_of_ble_eq_true rfl) rfl)))) ?_
  refine wS (v := (.sl 5 0 2 37 true)) (sv (d_move rfl)) ?_
  refine wC (v := (.tup [(eI .i64 x29.1), (eI .i64 x29.2)])) (h' := [some ⟨38, (ar32 (eI .u8) (List.replicate 32 0) [(eI .u32 1)])⟩, some ⟨38, (ar32 (eI .u8) (List.replicate 32 0) [(eI .u32 2)])⟩, some ⟨41, [(S_api_Input.mk (S_api_OutPoint.mk (List.replicate 32 0) 1) 0 []), (S_api_Input.mk (S_api_OutPoint.mk (List.replicate 32 0) 2) 0 [])].flatMap C_api_Input⟩, some ⟨44, [(S_api_Output.mk 10 [])].flatMap C_api_Output⟩, some ⟨26, [(eI .u32 0), (.sl 2 0 2 35 true), (.sl 3 0 1 2 true), (eI .u32 0)]⟩, some ⟨46, [(S_api_Coin.mk (S_api_OutPoint.mk (List.replicate 32 0) 1) (S_api_Output.mk 5 []) 0 false), (S_api_Coin.mk (S_api_OutPoint.mk (List.replicate 32 0) 2) (S_api_Output.mk 7 []) 0 false)].flatMap C_api_Coin⟩]) rfl (Vm.Fn.lendR (spend_Fee_ok N 0 [(S_api_Input.mk (S_api_OutPoint.mk (List.replicate 32 0) 1) 0 []), (S_api_Input.mk (S_api_OutPoint.mk (List.replicate 32 0) 2) 0 [])] [(S_api_Output.mk 10 [])] 0 [(S_api_Coin.mk (S_api_OutPoint.mk (List.replicate 32 0) 1) (S_api_Output.mk 5 []) 0 false), (S_api_Coin.mk (S_api_OutPoint.mk (List.replicate 32 0) 2) (S_api_Output.mk 7 []) 0 false)] x29 h_1) [] [2, 3, 5] (by decide) rfl (by decide) Lend.nil (Brw.row (exp_agg (exp_cons rfl (exp_cons (exp_slK (d := 3) (C := C_api_Input) (fun _ => rfl) (Nat.le_of_ble_eq_true rfl) rfl rfl (fun _ => rfl)) (exp_cons (exp_slK (d := 3) (C := C_api_Output) (fun _ => rfl) (Nat.le_of_ble_eq_true rfl) rfl rfl (fun _ => rfl)) (exp_cons rfl exp_nil))))) (Brw.row (exp_slKT (C := C_api_Coin) (fun _ => rfl) (Nat.le_of_ble_eq_true rfl) rfl rfl (fun _ => rfl)) Brw.nil)) rfl rfB.nil rfl (by simp only [lent, lendSet, lendSet_nil, rnH, Blk.rn, V.rns, V.rn, sg, List.map_cons, List.map_nil, Option.map_some, Option.map_none, List.drop_succ_cons, List.drop_zero, List.drop_nil, List.set_cons_zero, List.set_cons_succ, List.cons_append, List.nil_append, List.append_nil, rns_eI, rns_eB, rns_eS, rns_eL, rns_C_api_OutPoint, rns_K_api_OutPoint, rns_C_api_Input, rns_K_api_Input, rns_C_api_Output, rns_K_api_Output, rns_M_52, rns_C_api_Coin, rns_K_api_Coin, rns_ar4, rns_ar8, rns_ar20, rns_ar32, rns_ar64, List.getElem?_cons_zero, List.getElem?_cons_succ, List.getElem?_nil, List.length_cons, List.length_nil, Nat.reduceAdd, Nat.reduceSub, Nat.add_zero, Nat.zero_add, Nat.sub_self, Nat.sub_zero])) ?_
  refine wS (v := (.tup [(eI .i64 x29.1), (eI .i64 x29.2)])) (sv (d_move rfl)) ?_
  refine wS (v := (eI .i64 x29.1)) (sv (d_ext rfl rfl)) ?_
  refine wS (v := (eI .i64 x29.2)) (sv (d_ext rfl rfl)) ?_
  refine wS (v := (eI .i64 x29.1)) (sv (d_assign rfl)) ?_
  refine wS (v := (eI .i64 x29.2)) (sv (d_assign rfl)) ?_
  refine OpsW.nil ?_
  refine Ex.then_mk ?_
  refine AB.seq ?_
  replace hr := bnd hr; obtain ⟨x34, h_2, hr⟩ := hr
  refine AB.rw ?_
  refine wS (v := (.ptr 4 2)) (sv (d_fa rfl (fap26_2 ..))) ?_
  refine wS (v := (.sl 3 0 1 2 true)) (sv (d_load rfl (ldP rfl (part1 ti24 rfl rfl)))) ?_
  refine wS (v := (.ptr 3 (0 + Int.toNat 0 * 2))) (sv (d_ia rfl rfl (iaSK (K := 2) rfl ti24 ti44 rfl h_2))) ?_
  refine wS (v := (.ptr 3 (0 + Int.toNat 0 * 2 + 0))) (sv (d_fa rfl (fap44_0 ..))) ?_
  refine wN (h' := [some ⟨38, (ar32 (eI .u8) (List.replicate 32 0) [(eI .u32 1)])⟩, some ⟨38, (ar32 (eI .u8) (List.replicate 32 0) [(eI .u32 2)])⟩, some ⟨41, [(S_api_Input.mk (S_api_OutPoint.mk (List.replicate 32 0) 1) 0 []), (S_api_Input.mk (S_api_OutPoint.mk (List.replicate 32 0) 2) 0 [])].flatMap C_api_Input⟩, some ⟨44, ([(S_api_Output.mk 10 [])].set (Int.toNat 0) (S_api_Output.mk 13 x34.Script)).flatMap C_api_Output⟩, some ⟨26, [(eI .u32 0), (.sl 2 0 2 35 true), (.sl 3 0 1 2 true), (eI .u32 0)]⟩, some ⟨46, [(S_api_Coin.mk (S_api_OutPoint.mk (List.replicate 32 0) 1) (S_api_Output.mk 5 []) 0 false), (S_api_Coin.mk (S_api_OutPoint.mk (List.replicate 32 0) 2) (S_api_Output.mk 7 []) 0 false)].flatMap C_api_Coin⟩]) (sv (d_store rfl rfl (stXK (C := C_api_Output) (K := 2) (off := 0) (fun _ => rfl) ti2 rfl h_2 rfl rfl (Nat.le_of_ble_eq_true rfl) rfl rfl))) ?_
  refine OpsW.nil ?_
  refine Ex.then_mk ?_
  refine AB.seq ?_
  replace hr := bnd hr; obtain ⟨x39, h_3, hr⟩ := hr
  refine AB.rw ?_
  refine wS (v := (.agg [(eI .u32 0), (.sl 2 0 2 35 true), (.sl 3 0 1 2 true), (eI .u32 0)])) (sv (d_load rfl (ldP rfl (partN (ds := [(eI .u32 0), (.sl 2 0 2 35 true), (.sl 3 0 1 2 true), (eI .u32 0)]) ti26 rfl (Nat.le_of_ble_eq_true rfl) rfl)))) ?_
  refine wS (v := (.sl 5 0 2 37 true)) (sv (d_move rfl)) ?_
  refine wC (v := (.tup [(eI .i64 x39.1), (eI .i64 x39.2)])) (h' := [some ⟨38, (ar32 (eI .u8) (List.replicate 32 0) [(eI .u32 1)])⟩, some ⟨38, (ar32 (eI .u8) (List.replicate 32 0) [(eI .u32 2)])⟩, some ⟨41, [(S_api_Input.mk (S_api_OutPoint.mk (List.replicate 32 0) 1) 0 []), (S_api_Input.mk (S_api_OutPoint.mk (List.replicate 32 0) 2) 0 [])].flatMap C_api_Input⟩, some ⟨44, ([(S_api_Output.mk 10 [])].set (Int.toNat 0) (S_api_Output.mk 13 x34.Script)).flatMap C_api_Output⟩, some ⟨26, [(eI .u32 0), (.sl 2 0 2 35 true), (.sl 3 0 1 2 true), (eI .u32 0)]⟩, some ⟨46, [(S_api_Coin.mk (S_api_OutPoint.mk (List.replicate 32 0) 1) (S_api_Output.mk 5 []) 0 false), (S_api_Coin.mk (S_api_OutPoint.mk (List.replicate 32 0) 2) (S_api_Output.mk 7 []) 0 false)].flatMap C_api_Coin⟩]) rfl (Vm.Fn.lendR (spend_Fee_ok N 0 [(S_api_Input.mk (S_api_OutPoint.mk (List.replicate 32 0) 1) 0 []), (S_api_Input.mk (S_api_OutPoint.mk (List.replicate 32 0) 2) 0 [])] ([(S_api_Output.mk 10 [])].set (Int.toNat 0) (S_api_Output.mk 13 x34.Script)) 0 [(S_api_Coin.mk (S_api_OutPoint.mk (List.replicate 32 0) 1) (S_api_Output.mk 5 []) 0 false), (S_api_Coin.mk (S_api_OutPoint.mk (List.replicate 32 0) 2) (S_api_Output.mk 7 []) 0 false)] x39 h_3) [] [2, 3, 5] (by decide) rfl (by decide) Lend.nil (Brw.row (exp_agg (exp_cons rfl (exp_cons (exp_slK (d := 3) (C := C_api_Input) (fun _ => rfl) (Nat.le_of_ble_eq_true rfl) rfl rfl (fun _ => rfl)) (exp_cons (exp_slK (d := 3) (C := C_api_Output) (fun _ => rfl) (Nat.le_of_ble_eq_true rfl) rfl rfl (fun _ => rfl)) (exp_cons rfl exp_nil))))) (Brw.row (exp_slKT (C := C_api_Coin) (fun _ => rfl) (Nat.le_of_ble_eq_true rfl) rfl rfl (fun _ => rfl)) Brw.nil)) rfl rfB.nil rfl (by simp only [lent, lendSet, lendSet_nil, rnH, Blk.rn, V.rns, V.rn, sg, List.map_cons, List.map_nil, Option.map_some, Option.map_none, List.drop_succ_cons, List.drop_zero, List.drop_nil, List.set_cons_zero, List.set_cons_succ, List.cons_append, List.nil_append, List.append_nil, rns_eI, rns_eB, rns_eS, rns_eL, rns_C_api_OutPoint, rns_K_api_OutPoint, rns_C_api_Input, rns_K_api_Input, rns_C_api_Output, rns_K_api_Output, rns_M_52, rns_C_api_Coin, rns_K_api_Coin, rns_ar4, rns_ar8, rns_ar20, rns_ar32, rns_ar64, List.getElem?_cons_zero, List.getElem?_cons_succ, List.getElem?_nil, List.length_cons, List.length_nil, Nat.reduceAdd, Nat.reduceSub, Nat.add_zero, Nat.zero_add, Nat.sub_self, Nat.sub_zero])) ?_
  refine wS (v := (.tup [(eI .i64 x39.1), (eI .i64 x39.2)])) (sv (d_move rfl)) ?_
  refine wS (v := (eI .i64 x39.1)) (sv (d_ext rfl rfl)) ?_
  refine wS (v := (eI .i64 x39.2)) (sv (d_ext rfl rfl)) ?_
  refine wS (v := (eI .i64 x39.1)) (sv (d_assign rfl)) ?_
  refine wS (v := (eI .i64 x39.2)) (sv (d_assign rfl)) ?_
  refine OpsW.nil ?_
  refine Ex.then_mk ?_
  refine AB.seq_g fun K1 hK1 hG1 => ?_
  have J1 : ∀ (x0 : Bool), law10_sane_J1 N x0 = some r → K1 (mkF 52 [(0, (eB x0))]) [] := by
    intro x0 hr
    unfold law10_sane_J1 at hr
    refine hK1 _ _ ?_
    refine AB.ret ?_
    obtain rfl := Option.some.inj hr
    exact done_ret (r1 := (eB x0)) (res1 Try.results4 (rvT rfl)) (Ghost.rn [] rfl rfl (FLe.same rfl FLe.nil) HLe.nil rfl)
  rcases Bool.eq_false_or_eq_true (x29.2 == 0) with h4 | h4
  · replace hr := iteT hr h4
    rcases Bool.eq_false_or_eq_true (x29.1 == 2) with h5 | h5
    · replace hr := iteT hr h5
      refine AB.rw ?_
      refine wS (v := (eI .i64 x29.2)) (sv (d_move rfl)) ?_
      refine wS (v := (eB (x29.2 == 0))) (sv (d_bin rfl rfl (bin_eql ..))) ?_
      refine wS (v := (eB (x29.2 == 0))) (sv (d_move rfl)) ?_
      refine wS (v := (eI .i64 x29.1)) (svG rfl rfl h4 (d_move rfl)) ?_
      refine wS (v := (eB (x29.1 == 2))) (svG rfl rfl h4 (d_bin rfl rfl (bin_eql ..))) ?_
      refine wS (v := (eB (x29.1 == 2))) (sv (d_pickT rfl h4 rfl)) ?_
      refine wS (v := (eB (x29.1 == 2))) (sv (d_move rfl)) ?_
      refine wS (v := (eI .i64 x39.2)) (svG rfl rfl h5 (d_move rfl)) ?_
      refine wS (v := (eB (x39.2 == 100))) (svG rfl rfl h5 (d_bin rfl rfl (bin_eql ..))) ?_
      refine wS (v := (eB (x39.2 == 100))) (sv (d_pickT rfl h5 rfl)) ?_
      refine wS (v := (eB (x39.2 == 100))) (sv (d_assign rfl)) ?_
      refine OpsW.nil ?_
      refine Ex.then_mk ?_
      exact hG1 _ _ _ _ (Ghost.rn [] rfl rfl (FLe.same rfl FLe.nil) HLe.nil rfl) (J1 (x39.2 == 100) hr)
    · replace hr := iteF hr h5
      refine AB.rw ?_
      refine wS (v := (eI .i64 x29.2)) (sv (d_move rfl)) ?_
      refine wS (v := (eB (x29.2 == 0))) (sv (d_bin rfl rfl (bin_eql ..))) ?_
      refine wS (v := (eB (x29.2 == 0))) (sv (d_move rfl)) ?_
      refine wS (v := (eI .i64 x29.1)) (svG rfl rfl h4 (d_move rfl)) ?_
      refine wS (v := (eB (x29.1 == 2))) (svG rfl rfl h4 (d_bin rfl rfl (bin_eql ..))) ?_
      refine wS (v := (eB (x29.1 == 2))) (sv (d_pickT rfl h4 rfl)) ?_
      refine wS (v := (eB (x29.1 == 2))) (sv (d_move rfl)) ?_
      refine wS (svX rfl rfl h5) ?_
      refine wS (svX rfl rfl h5) ?_
      refine wS (v := (eB false)) (sv (d_pickF rfl h5 rfl)) ?_
      refine wS (v := (eB false)) (sv (d_assign rfl)) ?_
      refine OpsW.nil ?_
      refine Ex.then_mk ?_
      exact hG1 _ _ _ _ (Ghost.rn [] rfl rfl (FLe.same rfl FLe.nil) HLe.nil rfl) (J1 false hr)
  · replace hr := iteF hr h4
    refine AB.rw ?_
    refine wS (v := (eI .i64 x29.2)) (sv (d_move rfl)) ?_
    refine wS (v := (eB (x29.2 == 0))) (sv (d_bin rfl rfl (bin_eql ..))) ?_
    refine wS (v := (eB (x29.2 == 0))) (sv (d_move rfl)) ?_
    refine wS (svX rfl rfl h4) ?_
    refine wS (svX rfl rfl h4) ?_
    refine wS (v := (eB false)) (sv (d_pickF rfl h4 rfl)) ?_
    refine wS (v := (eB false)) (sv (d_move rfl)) ?_
    refine wS (svX rfl rfl rfl) ?_
    refine wS (svX rfl rfl rfl) ?_
    refine wS (v := (eB false)) (sv (d_pickF rfl rfl rfl)) ?_
    refine wS (v := (eB false)) (sv (d_assign rfl)) ?_
    refine OpsW.nil ?_
    refine Ex.then_mk ?_
    exact hG1 _ _ _ _ (Ghost.rn [] rfl rfl (FLe.same rfl FLe.nil) HLe.nil rfl) (J1 false hr)
set_option maxRecDepth 20000 in
set_option maxHeartbeats 1000000 in
theorem keep_Items_ok (N : Nat) (l : List (List Int)) (vn : Int) (vm : Int) (r : Bool) (hr : keep_Items N l vn vm = some r) :
    Vm.Fn Try.prog 9 [] [(.row none 1 (l.map (eL 1 (eI .u8)))), (eI .i64 vn), (eI .i64 vm)] (eB r) [] := by
  refine fn_ab Try.func9 rfl (by kernel_rfl) Try.ntmps9 (Nat.le_of_ble_eq_true rfl) rfl (fr := [(0, (.row none 1 (l.map (eL 1 (eI .u8))))), (1, (eI .i64 vn)), (2, (eI .i64 vm))]) rfl ?_
  unfold keep_Items at hr
  refine AB.seq ?_
  refine AB.rw ?_
  refine wS (v := (eB false)) (sv (d_assign rfl)) ?_
  refine OpsW.nil ?_
  refine Ex.then_mk ?_
  refine AB.seq ?_
  refine AB.seq ?_
  refine AB.rw ?_
  refine wS (v := (.row none 1 (l.map (eL 1 (eI .u8))))) (sv (d_move rfl)) ?_
  refine wS (v := (eI .i64 (l.length : Int))) (sv (d_len rfl (lenR ti39))) ?_
  refine wS (v := (eI .i64 vn)) (sv (d_move rfl)) ?_
  refine wS (v := (eB (decide (vn < (l.length : Int))))) (sv (d_bin rfl rfl (bin_gtr ..))) ?_
  refine OpsW.nil ?_
  refine Ex.then_mk ?_
  refine AB.cnd rfl (fun h1 => ?_) (fun h1 => ?_)
  · replace hr := iteT hr h1
    refine AB.seq ?_
    refine AB.rw ?_
    refine wS (v := (eB false)) (sv (d_assign rfl)) ?_
    refine OpsW.nil ?_
    refine Ex.then_mk ?_
    refine AB.ret ?_
    refine Ex.then_ret_mk ?_
    obtain rfl := Option.some.inj hr
    exact done_ret (r1 := (eB false)) (res1 Try.results9 (rvT rfl)) (Ghost.rn [] rfl rfl (FLe.same rfl FLe.nil) HLe.nil rfl)
  · replace hr := iteF hr h1
    refine AB.skip ?_
    refine Ex.then_mk ?_
    refine AB.seq_g fun K1 hK1 hG1 => ?_
    have J1 : keep_Items_J1 N = some r → K1 (mkF 24 []) [] := by
      intro hr
      unfold keep_Items_J1 at hr
      refine hK1 _ _ ?_
      refine AB.seq ?_
      refine AB.rw ?_
      refine wS (v := (eB true)) (sv (d_assign rfl)) ?_
      refine OpsW.nil ?_
      refine Ex.then_mk ?_
      refine AB.ret ?_
      obtain rfl := Option.some.inj hr
      exact done_ret (r1 := (eB true)) (res1 Try.results9 (rvT rfl)) (Ghost.rn [] rfl rfl (FLe.same rfl FLe.nil) HLe.nil rfl)
    refine AB.seq ?_
    refine AB.rw ?_
    refine wS (v := (.row none 1 (l.map (eL 1 (eI .u8))))) (sv (d_move rfl)) ?_
    refine wS (v := (eI .i64 (l.length : Int))) (sv (d_len rfl (lenR ti39))) ?_
    refine wS (v := (eI .i64 0)) (sv (d_move rfl)) ?_
    refine OpsW.nil ?_
    refine Ex.then_mk ?_
    replace hr := bnd hr; obtain ⟨res2, hL2, hr⟩ := hr
    refine AB.block ?_
    refine AB.loopN (fun m s h => ∃ (x15 : Int), keep_Items_L2 N l vm m x15 = some res2 ∧ Ghost 0 s h (mkF 24 [(2, (eI .i64 vm)), (13, (.row none 1 (l.map (eL 1 (eI .u8))))), (14, (eI .i64 (l.length : Int))), (15, (eI .i64 x15))]) []) (n := N) ⟨0, hL2, (Ghost.rn [] rfl rfl (FLe.same rfl (FLe.same rfl (FLe.same rfl (FLe.same rfl FLe.nil)))) HLe.nil rfl)⟩ (by rintro s h ⟨_, h0, _⟩; simp [keep_Items_L2] at h0) ?_
    rintro m2 s h ⟨x15, hr2, hg⟩
    refine AB.ghost hg ?_
    clear hg hL2
    rw [keep_Items_L2] at hr2
    refine AB.seq ?_
    refine AB.rw ?_
    refine wS (v := (eB (decide (x15 < (l.length : Int))))) (sv (d_bin rfl rfl (bin_lss ..))) ?_
    refine OpsW.nil ?_
    refine Ex.then_mk ?_
    refine AB.seq ?_
    refine AB.cnd rfl (fun h2 => ?_) (fun h2 => ?_)
    · replace hr2 := iteT hr2 h2
      refine AB.skip ?_
      refine Ex.then_mk ?_
      refine AB.seq ?_
      refine AB.block ?_
      refine AB.seq ?_
      replace hr2 := bnd hr2; obtain ⟨x17, h_3, hr2⟩ := hr2
      refine AB.rw ?_
      refine wS (sv (d_ia rfl rfl (iaR ti39 ti42 h_3))) ?_
      refine wS (v := (.row none 1 (x17.map (eI .u8)))) (sv (d_load rfl (ldR h_3 (part1 ti42 rfl rfl)))) ?_
      refine wS (v := (.row none 1 (x17.map (eI .u8)))) (sv (d_assign rfl)) ?_
      refine OpsW.nil ?_
      refine Ex.then_mk ?_
      refine AB.seq ?_
      refine AB.rw ?_
      refine wS (v := (.row none 1 (x17.map (eI .u8)))) (sv (d_move rfl)) ?_
      refine wS (v := (eI .i64 (x17.length : Int))) (sv (d_len rfl (lenR ti42))) ?_
      refine wS (v := (eI .i64 vm)) (sv (d_move rfl)) ?_
      refine wS (v := (eB (decide (vm < (x17.length : Int))))) (sv (d_bin rfl rfl (bin_gtr ..))) ?_
      refine OpsW.nil ?_
      refine Ex.then_mk ?_
      refine AB.cnd rfl (fun h4 => ?_) (fun h4 => ?_)
      · replace hr2 := iteT hr2 h4
        refine AB.seq ?_
        refine AB.rw ?_
        refine wS (v := (eB false)) (sv (d_assign rfl)) ?_
        refine OpsW.nil ?_
        refine Ex.then_mk ?_
        refine AB.ret ?_
        refine Ex.inBlock_ret_mk ?_
        refine Ex.then_ret_mk ?_
        refine Ex.then_ret_mk ?_
        refine Ex.inBlock_ret_mk ?_
        refine Ex.then_ret_mk ?_
        obtain rfl := Option.some.inj hr2
        obtain rfl := Option.some.inj hr
        exact done_ret (r1 := (eB false)) (res1 Try.results9 (rvT rfl)) (Ghost.rn [] rfl rfl (FLe.same rfl FLe.nil) HLe.nil rfl)
      · replace hr2 := iteF hr2 h4
        refine AB.skip ?_
        refine Ex.inBlock_mk ?_
        refine Ex.then_mk ?_
        refine AB.rw ?_
        refine wS (v := (eI .i64 (IntKind.i64.wrap (x15 + 1)))) (sv (d_bin rfl rfl (bin_add ..))) ?_
        refine wS (v := (eI .i64 (IntKind.i64.wrap (x15 + 1)))) (sv (d_move rfl)) ?_
        refine OpsW.nil ?_
        refine Ex.then_mk ?_
        exact ⟨IntKind.i64.wrap (x15 + 1), hr2, (Ghost.rn [] rfl rfl (FLe.same rfl (FLe.same rfl (FLe.same rfl (FLe.same rfl FLe.nil)))) HLe.nil rfl)⟩
    · replace hr2 := iteF hr2 h2
      refine AB.exit ?_
      refine Ex.then_exit_mk ?_
      refine Ex.then_exit_mk ?_
      refine Ex.inBlock_same_mk ?_
      obtain rfl := Option.some.inj hr2
      refine Ex.then_mk ?_
      exact hG1 _ _ _ _ (Ghost.rn [] rfl rfl FLe.nil HLe.nil rfl) (J1 hr)
end Go.Proofs.Ytbjiaiobpbpjoaa
