/- Texts of ours, joined: Wk3. -/
import Derived.Test.YtnoofjkaeidagaaDoorQSpendUnwitnessed6
set_option linter.unusedVariables false
set_option linter.unusedSimpArgs false
namespace Go.Proofs.YtnoofjkaeidagaaDoor
open Go Go.Vm
set_option maxRecDepth 20000 in
set_option maxHeartbeats 1000000 in
theorem ref03_Sum_ok (N : Nat) (b : List Int) (r : (List Int)) (hr : ref03_Sum N b = some r) :
    Vm.Fn Tryd.prog 23 [] [(.row none 1 (b.map (eI .u8)))] (.agg (r.map (eI .u8))) [] := by
  refine fn_ab Tryd.func23 rfl (by kernel_rfl) Tryd.ntmps23 zl rfl (fr := [(0, (.row none 1 (b.map (eI .u8))))]) rfl ?_
  unfold ref03_Sum at hr
  refine zq <| wS (v := (.ptr 0 0)) (h' := [some ⟨33, (List.replicate 32 0).map (eI .u8)⟩]) (sv (d_alloc ti33 rfl rfl rfl)) <| zn <| AB.seq ?_
  replace hr := bnd hr; obtain ⟨x11, h_1, hr⟩ := hr
  replace hr := bnd hr; obtain ⟨x15, h_2, hr⟩ := hr
  replace hr := bnd hr; obtain ⟨x16, h_3, hr⟩ := hr
  refine AB.rw <| zm rfl <| wS (v := (.sl 2 0 x11.length 1 false)) (h' := [some ⟨33, (List.replicate 32 0).map (eI .u8)⟩, none, some ⟨5, x11.map (eI .u8)⟩]) (sv (d_append rfl rfl (appN (E := (eI .u8)) ti27 ti5 ⟨rfl, rfl, zl⟩ (srcR (fun _ => rfl)) rfl h_1 rfl rfl))) <| zm rfl <| wS (v := (eI .i64 (b.length : Int))) (sv (d_len rfl (lenR ti27))) <| wS (sv (d_conv rfl (conv_int _ ⟨_, ti3⟩ ti65 rfl))) ?_
  refine wC (v := (.sl 3 0 x15.length 1 false)) (h' := [some ⟨33, (List.replicate 32 0).map (eI .u8)⟩, none, some ⟨5, x11.map (eI .u8)⟩, some ⟨5, x15.map (eI .u8)⟩]) rfl (zB (ref03_Pad_ok N (IntKind.u64.wrap (b.length : Int)) x15 h_2) []) <| wS (v := (.sl 4 0 x16.length 1 false)) (h' := [some ⟨33, (List.replicate 32 0).map (eI .u8)⟩, none, none, some ⟨5, x15.map (eI .u8)⟩, some ⟨5, x16.map (eI .u8)⟩]) (sv (d_append rfl rfl (appS (E := (eI .u8)) rfl ti27 ti5 ⟨rfl, rfl, zl⟩ rfl (srcS rfl rfl) h_3 rfl rfl))) <| za rfl <| zn <| AB.seq ?_
  replace hr := bnd hr; obtain ⟨x17, h_4, hr⟩ := hr
  replace hr := bnd hr; obtain ⟨q, h_5, hr⟩ := hr
  refine AB.rw <| wC rfl (Vm.Fn.pure (ref03_Initial_ok N x17 h_4) rfl zR) <| wS (v := (.ptr 5 0)) (h' := [some ⟨33, (List.replicate 32 0).map (eI .u8)⟩, none, none, some ⟨5, x15.map (eI .u8)⟩, some ⟨5, x16.map (eI .u8)⟩, some ⟨70, (List.replicate 8 0).map (eI .u32)⟩]) (sv (d_alloc ti70 rfl rfl rfl)) <| wN (h' := [some ⟨33, (List.replicate 32 0).map (eI .u8)⟩, none, none, some ⟨5, x15.map (eI .u8)⟩, some ⟨5, x16.map (eI .u8)⟩, some ⟨70, x17.map (eI .u32)⟩]) (sv (d_store rfl rfl (stA (E := (eI .u32)) (l := List.replicate 8 0) ti70 rfl rfl (fun _ => rfl) rfl (arr_len h_5) rfl))) <| zn ?_
  refine AB.seq_g fun K1 hK1 hG1 => ?_
  have J1 : ∀ (l1 : List Int), ref03_Sum_J1 N l1 = some r → K1 (mkF 66 [(2, (.ptr 0 0)), (4, (.ptr 1 0))]) [some ⟨33, (List.replicate 32 0).map (eI .u8)⟩, some ⟨70, l1.map (eI .u32)⟩] := by
    intro l1 hr
    unfold ref03_Sum_J1 at hr
    refine hK1 _ _ <| zq <| wS (v := (.ptr 2 0)) (h' := [some ⟨33, (List.replicate 32 0).map (eI .u8)⟩, some ⟨70, l1.map (eI .u32)⟩, some ⟨33, (List.replicate 32 0).map (eI .u8)⟩]) (sv (d_alloc ti33 rfl rfl rfl)) <| zn ?_
    refine AB.seq_g fun K2 hK2 hG2 => ?_
    have J2 : ∀ (l1_1 : List Int), ref03_Sum_J2 N l1_1 = some r → K2 (mkF 66 [(2, (.ptr 0 0)), (7, (.ptr 1 0))]) [some ⟨33, (List.replicate 32 0).map (eI .u8)⟩, some ⟨33, l1_1.map (eI .u8)⟩] := by
      intro l1_1 hr
      unfold ref03_Sum_J2 at hr
      refine hK2 _ _ <| AB.seq ?_
      replace hr := bnd hr; obtain ⟨q_1, h_6, hr⟩ := hr
      refine AB.rw <| wS (v := (.agg (l1_1.map (eI .u8)))) (sv (d_load rfl (ldA (E := (eI .u8)) (l := l1_1) ti33 rfl rfl (arr_len h_6)))) <| wN (h' := [some ⟨33, l1_1.map (eI .u8)⟩, some ⟨33, l1_1.map (eI .u8)⟩]) (sv (d_store rfl rfl (stA (E := (eI .u8)) (l := List.replicate 32 0) ti33 rfl rfl (fun _ => rfl) rfl (arr_len h_6) rfl))) <| zn <| AB.ret ?_
      obtain rfl := Option.some.inj hr
      exact done_ret (r1 := (.agg (l1_1.map (eI .u8)))) (res1 Tryd.results23 (rvC rfl (ldA (E := (eI .u8)) (l := l1_1) ti33 rfl rfl (arr_len h_6)))) (zG [])
    refine AB.seq ?_
    replace hr := bnd hr; obtain ⟨q_2, h_7, hr⟩ := hr
    refine AB.rw <| wS (v := (.agg (l1.map (eI .u32)))) (sv (d_load rfl (ldA (E := (eI .u32)) (l := l1) ti70 rfl rfl (arr_len h_7)))) <| wS (v := (eI .i64 0)) (sv (d_move rfl)) <| zn ?_
    replace hr := bnd hr; obtain ⟨res3, hL3, hr⟩ := hr
    refine AB.block <| AB.loopN (fun m s h => ∃ (x34 : Int) (l1_2 : List Int), ref03_Sum_L3 N l1 m x34 l1_2 = some res3 ∧ Ghost 0 s h (mkF 66 [(2, (.ptr 0 0)), (7, (.ptr 1 0)), (33, (.agg (l1.map (eI .u32)))), (34, (eI .i64 x34))]) [some ⟨33, (List.replicate 32 0).map (eI .u8)⟩, some ⟨33, l1_2.map (eI .u8)⟩]) (n := N) ⟨0, List.replicate 32 0, hL3, (zG [0, 2])⟩ (by rintro s h ⟨_, _, h0, _⟩; simp [ref03_Sum_L3] at h0) ?_
    rintro m3 s h ⟨x34, l1_2, hr3, hg⟩
    refine AB.ghost hg ?_
    clear hg hL3
    rw [ref03_Sum_L3] at hr3
    refine zq <| wS (v := (eB (decide (x34 < 8)))) (sv (d_bin rfl rfl (bin_lss ..))) <| zn <| AB.seq ?_
    refine AB.cnd rfl (fun h8 => ?_) (fun h8 => ?_)
    · replace hr3 := iteT hr3 h8
      refine AB.skip <| Ex.then_mk <| AB.seq <| AB.block <| AB.seq ?_
      replace hr3 := bnd hr3; obtain ⟨x37, h_9, hr3⟩ := hr3
      refine AB.rw <| zm rfl <| wS (v := (eI .u32 x37)) (sv (d_ix rfl rfl (ixA (E := (eI .u32)) ti70 ti22 rfl rfl h_9))) <| za rfl <| za rfl <| zn ?_
      replace hr3 := bnd hr3; obtain ⟨x50, h_10, hr3⟩ := hr3
      replace hr3 := bnd hr3; obtain ⟨x53, h_11, hr3⟩ := hr3
      replace hr3 := bnd hr3; obtain ⟨x56, h_12, hr3⟩ := hr3
      replace hr3 := bnd hr3; obtain ⟨x60, h_13, hr3⟩ := hr3
      replace hr3 := bnd hr3; obtain ⟨x61, h_14, hr3⟩ := hr3
      replace hr3 := bnd hr3; obtain ⟨x62, h_15, hr3⟩ := hr3
      replace hr3 := bnd hr3; obtain ⟨x63, h_16, hr3⟩ := hr3
      refine AB.rw <| zm rfl <| wS (v := (eI .i64 (IntKind.i64.wrap (4 * x34)))) (sv (d_bin rfl rfl (bin_mul ..))) <| zm rfl <| wS (v := (eI .i64 (IntKind.i64.wrap (4 * x34)))) (sv (d_bin rfl rfl (bin_mul ..))) <| wS (v := (eI .i64 (IntKind.i64.wrap ((IntKind.i64.wrap (4 * x34)) + 1)))) (sv (d_bin rfl rfl (bin_add ..))) <| zm rfl <| wS (v := (eI .i64 (IntKind.i64.wrap (4 * x34)))) (sv (d_bin rfl rfl (bin_mul ..))) <| wS (v := (eI .i64 (IntKind.i64.wrap ((IntKind.i64.wrap (4 * x34)) + 2)))) (sv (d_bin rfl rfl (bin_add ..))) <| zm rfl ?_
      refine wS (v := (eI .i64 (IntKind.i64.wrap (4 * x34)))) (sv (d_bin rfl rfl (bin_mul ..))) <| wS (v := (eI .i64 (IntKind.i64.wrap ((IntKind.i64.wrap (4 * x34)) + 3)))) (sv (d_bin rfl rfl (bin_add ..))) <| zm rfl <| wS (v := (eI .u32 x50)) (sv (d_bin rfl rfl (bin_shr' _ _ _ _ h_10))) <| wS (sv (d_conv rfl (conv_int _ ⟨_, ti22⟩ ti5 rfl))) <| zm rfl <| wS (v := (eI .u32 x53)) (sv (d_bin rfl rfl (bin_shr' _ _ _ _ h_11))) <| wS (sv (d_conv rfl (conv_int _ ⟨_, ti22⟩ ti5 rfl))) <| zm rfl <| wS (v := (eI .u32 x56)) (sv (d_bin rfl rfl (bin_shr' _ _ _ _ h_12))) ?_
      refine wS (sv (d_conv rfl (conv_int _ ⟨_, ti22⟩ ti5 rfl))) <| zm rfl <| wS (sv (d_conv rfl (conv_int _ ⟨_, ti22⟩ ti5 rfl))) <| wS (v := (.ptr 1 (Int.toNat (IntKind.i64.wrap (4 * x34))))) (sv (d_ia rfl rfl (iaB ti33 ti5 rfl h_13))) <| wN (h' := [some ⟨33, (List.replicate 32 0).map (eI .u8)⟩, some ⟨33, (l1_2.set (Int.toNat (IntKind.i64.wrap (4 * x34))) (IntKind.u8.wrap x50)).map (eI .u8)⟩]) (sv (d_store rfl rfl (stXe (E := (eI .u8)) (y := IntKind.u8.wrap x50) ti5 rfl rfl (aix_idx h_13) rfl rfl rfl))) ?_
      refine wS (v := (.ptr 1 (Int.toNat (IntKind.i64.wrap ((IntKind.i64.wrap (4 * x34)) + 1))))) (sv (d_ia rfl rfl (iaB ti33 ti5 rfl h_14))) <| wN (h' := [some ⟨33, (List.replicate 32 0).map (eI .u8)⟩, some ⟨33, ((l1_2.set (Int.toNat (IntKind.i64.wrap (4 * x34))) (IntKind.u8.wrap x50)).set (Int.toNat (IntKind.i64.wrap ((IntKind.i64.wrap (4 * x34)) + 1))) (IntKind.u8.wrap x53)).map (eI .u8)⟩]) (sv (d_store rfl rfl (stXe (E := (eI .u8)) (y := IntKind.u8.wrap x53) ti5 rfl rfl (aix_idx h_14) rfl rfl rfl))) ?_
      refine wS (v := (.ptr 1 (Int.toNat (IntKind.i64.wrap ((IntKind.i64.wrap (4 * x34)) + 2))))) (sv (d_ia rfl rfl (iaB ti33 ti5 rfl h_15))) <| wN (h' := [some ⟨33, (List.replicate 32 0).map (eI .u8)⟩, some ⟨33, (((l1_2.set (Int.toNat (IntKind.i64.wrap (4 * x34))) (IntKind.u8.wrap x50)).set (Int.toNat (IntKind.i64.wrap ((IntKind.i64.wrap (4 * x34)) + 1))) (IntKind.u8.wrap x53)).set (Int.toNat (IntKind.i64.wrap ((IntKind.i64.wrap (4 * x34)) + 2))) (IntKind.u8.wrap x56)).map (eI .u8)⟩]) (sv (d_store rfl rfl (stXe (E := (eI .u8)) (y := IntKind.u8.wrap x56) ti5 rfl rfl (aix_idx h_15) rfl rfl rfl))) ?_
      refine wS (v := (.ptr 1 (Int.toNat (IntKind.i64.wrap ((IntKind.i64.wrap (4 * x34)) + 3))))) (sv (d_ia rfl rfl (iaB ti33 ti5 rfl h_16))) ?_
      refine wN (h' := [some ⟨33, (List.replicate 32 0).map (eI .u8)⟩, some ⟨33, ((((l1_2.set (Int.toNat (IntKind.i64.wrap (4 * x34))) (IntKind.u8.wrap x50)).set (Int.toNat (IntKind.i64.wrap ((IntKind.i64.wrap (4 * x34)) + 1))) (IntKind.u8.wrap x53)).set (Int.toNat (IntKind.i64.wrap ((IntKind.i64.wrap (4 * x34)) + 2))) (IntKind.u8.wrap x56)).set (Int.toNat (IntKind.i64.wrap ((IntKind.i64.wrap (4 * x34)) + 3))) (IntKind.u8.wrap x37)).map (eI .u8)⟩]) (sv (d_store rfl rfl (stXe (E := (eI .u8)) (y := IntKind.u8.wrap x37) ti5 rfl rfl (aix_idx h_16) rfl rfl rfl))) <| OpsW.nil <| Ex.inBlock_mk <| Ex.then_mk ?_
      refine AB.rw <| wS (v := (eI .i64 (IntKind.i64.wrap (x34 + 1)))) (sv (d_bin rfl rfl (bin_add ..))) <| zm rfl <| zn ?_
      exact ⟨IntKind.i64.wrap (x34 + 1), (((l1_2.set (Int.toNat (IntKind.i64.wrap (4 * x34))) (IntKind.u8.wrap x50)).set (Int.toNat (IntKind.i64.wrap ((IntKind.i64.wrap (4 * x34)) + 1))) (IntKind.u8.wrap x53)).set (Int.toNat (IntKind.i64.wrap ((IntKind.i64.wrap (4 * x34)) + 2))) (IntKind.u8.wrap x56)).set (Int.toNat (IntKind.i64.wrap ((IntKind.i64.wrap (4 * x34)) + 3))) (IntKind.u8.wrap x37), hr3, (zG [0, 1])⟩
    · replace hr3 := iteF hr3 h8
      refine AB.exit <| Ex.then_exit_mk <| Ex.then_exit_mk <| Ex.inBlock_same_mk ?_
      obtain rfl := Option.some.inj hr3
      refine Ex.then_mk ?_
      exact hG2 _ _ _ _ (zG [0, 1]) (J2 l1_2 hr)
  refine zq <| wS (v := (eI .i64 0)) (sv (d_assign rfl)) <| zn ?_
  refine AB.ghost (Ghost.conv (fr' := [(0, (.row none 1 (b.map (eI .u8)))), (2, (.ptr 0 0)), (3, (.row none 1 (x16.map (eI .u8)))), (4, (.ptr 5 0)), (5, (eI .i64 0)), (10, (.row none 1 (b.map (eI .u8)))), (11, (.sl 2 0 x11.length 1 false)), (12, (.row none 1 (b.map (eI .u8)))), (13, (eI .i64 (b.length : Int))), (14, (eI .u64 (IntKind.u64.wrap (b.length : Int)))), (15, (.sl 3 0 x15.length 1 false)), (16, (.row none 1 (x16.map (eI .u8)))), (17, (.agg (x17.map (eI .u32))))]) (h' := [some ⟨33, (List.replicate 32 0).map (eI .u8)⟩, none, none, some ⟨5, x15.map (eI .u8)⟩, none, some ⟨70, x17.map (eI .u32)⟩]) (FCv.cons rfl (Conv.same (subB_sub rfl)) (FCv.cons rfl (Conv.same (subB_sub rfl)) (FCv.cons rfl (Conv.row (subB_sub rfl) rfl rfl (all_mapE (fun _ => rfl)) (by first | rfl | (simp only [List.length_map, len_set, len_cpy]; done))) (FCv.cons rfl (Conv.same (subB_sub rfl)) (FCv.cons rfl (Conv.same (subB_sub rfl)) (FCv.cons rfl (Conv.same (subB_sub rfl)) (FCv.cons rfl (Conv.same (subB_sub rfl)) (FCv.cons rfl (Conv.same (subB_sub rfl)) (FCv.cons rfl (Conv.same (subB_sub rfl)) (FCv.cons rfl (Conv.same (subB_sub rfl)) (FCv.cons rfl (Conv.same (subB_sub rfl)) (FCv.cons rfl (Conv.row (subB_sub rfl) rfl rfl (all_mapE (fun _ => rfl)) (by first | rfl | (simp only [List.length_map, len_set, len_cpy]; done))) (FCv.cons rfl (Conv.same (subB_sub rfl)) FCv.nil))))))))))))) (HCv.live (Convs.same (subB_sub rfl)) (all_map (fun _ => rfl) _) (HCv.dead (HCv.dead (HCv.live (Convs.same (subB_sub rfl)) (all_map (fun _ => rfl) _) (HCv.dead (HCv.live (Convs.same (subB_sub rfl)) (all_map (fun _ => rfl) _) HCv.nil))))))) ?_
  replace hr := bnd hr; obtain ⟨res4, hL4, hr⟩ := hr
  refine AB.block <| AB.loopN (fun m s h => ∃ (vi : Int) (l1_3 : List Int), ref03_Sum_L4 N x16 m vi l1_3 = some res4 ∧ Ghost 0 s h (mkF 66 [(2, (.ptr 0 0)), (3, (.row none 1 (x16.map (eI .u8)))), (4, (.ptr 1 0)), (5, (eI .i64 vi))]) [some ⟨33, (List.replicate 32 0).map (eI .u8)⟩, some ⟨70, l1_3.map (eI .u32)⟩]) (n := N) ⟨0, x17, hL4, (zG [0, 5])⟩ (by rintro s h ⟨_, _, h0, _⟩; simp [ref03_Sum_L4] at h0) ?_
  rintro m4 s h ⟨vi, l1_3, hr4, hg⟩
  refine AB.ghost hg ?_
  clear hg hL4
  rw [ref03_Sum_L4] at hr4
  refine AB.seq <| zq <| zm rfl <| wS (v := (eI .i64 (IntKind.i64.wrap (vi + 64)))) (sv (d_bin rfl rfl (bin_add ..))) <| zm rfl <| wS (v := (eI .i64 (x16.length : Int))) (sv (d_len rfl (lenR ti27))) <| wS (sv (d_bin rfl rfl (bin_leq ..))) <| zn ?_
  refine AB.cnd rfl (fun h17 => ?_) (fun h17 => ?_)
  · replace hr4 := iteT hr4 h17
    refine AB.skip <| Ex.then_mk <| AB.seq <| AB.block <| zq <| wS (v := (.ptr 2 0)) (h' := [some ⟨33, (List.replicate 32 0).map (eI .u8)⟩, some ⟨70, l1_3.map (eI .u32)⟩, some ⟨72, (List.replicate 64 0).map (eI .u8)⟩]) (sv (d_alloc ti72 rfl rfl rfl)) <| zn <| AB.seq ?_
    replace hr4 := bnd hr4; obtain ⟨x28, h_18, hr4⟩ := hr4
    refine AB.rg E0 (fun _ => by show drawOk (fun _ => false) _ = true; decide +kernel) <| tS (v := (.sl 2 0 64 1 false)) (sv (d_slice rfl rfl rfl (slA (E := (eI .u8)) (l := List.replicate 64 0) ti72 ti5 rfl rfl rfl rfl ⟨zl, zl⟩))) <| tS (sv (d_move rfl)) <| tS (sv (d_move rfl)) <| tS (v := (.row none 1 (x28.map (eI .u8)))) (sv (d_slice rfl rfl rfl (slR ti27 ti5 rfl rfl h_18))) ?_
    refine tS (v := (eI .i64 ((min x28.length (List.replicate 64 0).length : Nat) : Int))) (h' := [some ⟨33, (List.replicate 32 0).map (eI .u8)⟩, some ⟨70, l1_3.map (eI .u32)⟩, some ⟨72, (cpy (List.replicate 64 0) x28).map (eI .u8)⟩]) (sv (d_copy rfl rfl (cpyS (E := (eI .u8)) (l := List.replicate 64 0) rfl ti27 ti5 rfl rfl (srcR (fun _ => rfl)) rfl))) <| OpsTo.nil <| Ex.then_mk ?_
    replace hr4 := bnd hr4; obtain ⟨q_3, h_19, hr4⟩ := hr4
    replace hr4 := bnd hr4; obtain ⟨q_4, h_20, hr4⟩ := hr4
    replace hr4 := bnd hr4; obtain ⟨x32, h_21, hr4⟩ := hr4
    replace hr4 := bnd hr4; obtain ⟨q_5, h_22, hr4⟩ := hr4
    refine AB.rw <| wS (v := (.agg (l1_3.map (eI .u32)))) (sv (d_load rfl (ldA (E := (eI .u32)) (l := l1_3) ti70 rfl rfl (arr_len h_19)))) <| wS (v := (.agg ((cpy (List.replicate 64 0) x28).map (eI .u8)))) (sv (d_load rfl (ldA (E := (eI .u8)) (l := cpy (List.replicate 64 0) x28) ti72 rfl rfl (arr_len h_20)))) <| wC rfl (Vm.Fn.pure (ref03_Compress_ok N l1_3 (cpy (List.replicate 64 0) x28) x32 h_21) zR zR) ?_
    refine wN (h' := [some ⟨33, (List.replicate 32 0).map (eI .u8)⟩, some ⟨70, x32.map (eI .u32)⟩, some ⟨72, (cpy (List.replicate 64 0) x28).map (eI .u8)⟩]) (sv (d_store rfl rfl (stA (E := (eI .u32)) (l := l1_3) ti70 rfl rfl (fun _ => rfl) (arr_len h_19) (arr_len h_22) rfl))) <| OpsW.nil <| Ex.inBlock_mk <| Ex.then_mk <| AB.rw <| zm rfl <| wS (v := (eI .i64 (IntKind.i64.wrap (vi + 64)))) (sv (d_bin rfl rfl (bin_add ..))) <| za rfl <| zn ?_
    exact ⟨IntKind.i64.wrap (vi + 64), x32, hr4, (zG [0, 1])⟩
  · replace hr4 := iteF hr4 h17
    refine AB.exit <| Ex.then_exit_mk <| Ex.then_exit_mk <| Ex.inBlock_same_mk ?_
    obtain rfl := Option.some.inj hr4
    refine Ex.then_mk ?_
    exact hG1 _ _ _ _ (zG [0, 1]) (J1 l1_3 hr)
set_option maxRecDepth 20000 in
set_option maxHeartbeats 1000000 in
theorem ref03_Tagged_ok (N : Nat) (tag : ByteArray) (b : List Int) (r : (List Int)) (hr : ref03_Tagged N tag b = some r) :
    Vm.Fn Tryd.prog 24 [] [(eS tag), (.row none 1 (b.map (eI .u8)))] (.agg (r.map (eI .u8))) [] := by
  refine fn_ab Tryd.func24 rfl (by kernel_rfl) Tryd.ntmps24 zl rfl (fr := [(0, (eS tag)), (1, (.row none 1 (b.map (eI .u8))))]) rfl ?_
  unfold ref03_Tagged at hr
  refine zq <| wS (v := (.ptr 0 0)) (h' := [some ⟨33, (List.replicate 32 0).map (eI .u8)⟩]) (sv (d_alloc ti33 rfl rfl rfl)) <| zn <| AB.seq ?_
  replace hr := bnd hr; obtain ⟨x7, h_1, hr⟩ := hr
  replace hr := bnd hr; obtain ⟨x8, h_2, hr⟩ := hr
  replace hr := bnd hr; obtain ⟨q, h_3, hr⟩ := hr
  refine AB.rw <| zm rfl <| wStr (h' := [some ⟨33, (List.replicate 32 0).map (eI .u8)⟩, some ⟨5, x7.map (eI .u8)⟩]) rfl ti9 ti27 ti5 h_1 rfl rfl <| wC (v := (.agg (x8.map (eI .u8)))) (h' := [some ⟨33, (List.replicate 32 0).map (eI .u8)⟩, some ⟨5, x7.map (eI .u8)⟩]) rfl (zL (ref03_Sum_ok N x7 x8 h_2) [] [1]) <| wS (v := (.ptr 2 0)) (h' := [some ⟨33, (List.replicate 32 0).map (eI .u8)⟩, some ⟨5, x7.map (eI .u8)⟩, some ⟨33, (List.replicate 32 0).map (eI .u8)⟩]) (sv (d_alloc ti33 rfl rfl rfl)) ?_
  refine wN (h' := [some ⟨33, (List.replicate 32 0).map (eI .u8)⟩, some ⟨5, x7.map (eI .u8)⟩, some ⟨33, x8.map (eI .u8)⟩]) (sv (d_store rfl rfl (stA (E := (eI .u8)) (l := List.replicate 32 0) ti33 rfl rfl (fun _ => rfl) rfl (arr_len h_3) rfl))) <| zn ?_
  refine AB.seq_g fun K1 hK1 hG1 => ?_
  have J1 : ∀ (l0 : List Int), ref03_Tagged_J1 N l0 = some r → K1 (mkF 16 [(4, (.ptr 0 0))]) [some ⟨33, l0.map (eI .u8)⟩] := by
    intro l0 hr
    unfold ref03_Tagged_J1 at hr
    refine hK1 _ _ <| AB.ret ?_
    replace hr := bnd hr; obtain ⟨q_1, h_4, hr⟩ := hr
    obtain rfl := Option.some.inj hr
    exact done_ret (r1 := (.agg (l0.map (eI .u8)))) (res1 Tryd.results24 (rvC rfl (ldA (E := (eI .u8)) (l := l0) ti33 rfl rfl (arr_len h_4)))) (zG [])
  replace hr := bnd hr; obtain ⟨x10, h_5, hr⟩ := hr
  replace hr := bnd hr; obtain ⟨x12, h_6, hr⟩ := hr
  replace hr := bnd hr; obtain ⟨x14, h_7, hr⟩ := hr
  replace hr := bnd hr; obtain ⟨x15, h_8, hr⟩ := hr
  replace hr := bnd hr; obtain ⟨q_2, h_10, hr⟩ := hr
  refine AB.rd (memF [23]) (memF []) mixed <| DrawG.pick (n := 7) (i := 0) (by decide +kernel) rfl (gS (v := (.sl 2 0 32 1 false)) (sv (d_slice rfl rfl rfl (slA (E := (eI .u8)) (l := x8) ti33 ti5 rfl rfl rfl (arr_len h_3) ⟨zl, zl⟩)))) <| DrawG.fork (n := 6) [1, 2, 4] (by decide +kernel) (by decide) ?_
  refine (Fork.cons rfl (gS (v := (.sl 4 0 x10.length 1 false)) (h' := [some ⟨33, (List.replicate 32 0).map (eI .u8)⟩, some ⟨5, x7.map (eI .u8)⟩, some ⟨33, x8.map (eI .u8)⟩, none, some ⟨5, x10.map (eI .u8)⟩]) (sv (d_append rfl rfl (appN (E := (eI .u8)) ti27 ti5 ⟨rfl, rfl, zl⟩ (srcS (arr_len h_3) rfl) rfl h_5 rfl rfl)))) ?_ (Fork.cons rfl (gS (v := (.sl 2 0 32 1 false)) (sv (d_slice rfl rfl rfl (slA (E := (eI .u8)) (l := x8) ti33 ti5 rfl rfl rfl (arr_len h_3) ⟨zl, zl⟩)))) ?_ (Fork.cons rfl (gS (v := (.row none 1 (b.map (eI .u8)))) (sv (d_move rfl))) ?_ Fork.nil)))
  · refine DrawG.pick (n := 5) (i := 2) (by decide +kernel) rfl (gS (v := (.sl 2 0 32 1 false)) (sv (d_slice rfl rfl rfl (slA (E := (eI .u8)) (l := x8) ti33 ti5 rfl rfl rfl (arr_len h_3) ⟨zl, zl⟩)))) <| DrawG.fork (n := 4) [3, 4] (by decide +kernel) (by decide) ?_
    refine (Fork.cons rfl (gS (v := (.sl 5 0 x12.length 1 false)) (h' := [some ⟨33, (List.replicate 32 0).map (eI .u8)⟩, some ⟨5, x7.map (eI .u8)⟩, some ⟨33, x8.map (eI .u8)⟩, none, none, some ⟨5, x12.map (eI .u8)⟩]) (sv (d_append rfl rfl (appS (E := (eI .u8)) rfl ti27 ti5 ⟨rfl, rfl, zl⟩ rfl (srcS (arr_len h_3) rfl) h_6 rfl rfl)))) ?_ (Fork.cons rfl (gS (v := (.row none 1 (b.map (eI .u8)))) (sv (d_move rfl))) ?_ Fork.nil))
    · refine DrawG.pick (n := 3) (i := 4) (by decide +kernel) rfl (gS (v := (.row none 1 (b.map (eI .u8)))) (sv (d_move rfl))) <| DrawG.pick (n := 2) (i := 5) (by decide +kernel) rfl (gS (v := (.sl 6 0 x14.length 1 false)) (h' := [some ⟨33, (List.replicate 32 0).map (eI .u8)⟩, some ⟨5, x7.map (eI .u8)⟩, some ⟨33, x8.map (eI .u8)⟩, none, none, none, some ⟨5, x14.map (eI .u8)⟩]) (sv (d_append rfl rfl (appS (E := (eI .u8)) rfl ti27 ti5 ⟨rfl, rfl, zl⟩ rfl (srcR (fun _ => rfl)) h_7 rfl rfl)))) ?_
      refine DrawG.pick (n := 1) (i := 6) (by decide +kernel) rfl (gC (v := (.agg (x15.map (eI .u8)))) (h' := [some ⟨33, (List.replicate 32 0).map (eI .u8)⟩, some ⟨5, x7.map (eI .u8)⟩, some ⟨33, x8.map (eI .u8)⟩, none, none, none, some ⟨5, x14.map (eI .u8)⟩]) (zL (ref03_Sum_ok N x14 x15 h_8) [] [6]) (fun _ => rfl) (fun h => absurd h (by decide)) (sv (d_call rfl orc1_hit))) ?_
      refine DrawG.pick (n := 0) (i := 7) (by decide +kernel) rfl (gN (h' := [some ⟨33, x15.map (eI .u8)⟩, some ⟨5, x7.map (eI .u8)⟩, some ⟨33, x8.map (eI .u8)⟩, none, none, none, some ⟨5, x14.map (eI .u8)⟩]) (sv (d_store rfl rfl (stA (E := (eI .u8)) (l := List.replicate 32 0) ti33 rfl rfl (fun _ => rfl) rfl (arr_len h_10) rfl)))) <| DrawG.nil (by decide +kernel) <| Ex.then_mk ?_
      exact hG1 _ _ _ _ (zG [0]) (J1 x15 hr)
    · refine DrawG.pick (n := 3) (i := 3) (by decide +kernel) rfl (gS (v := (.sl 5 0 x12.length 1 false)) (h' := [some ⟨33, (List.replicate 32 0).map (eI .u8)⟩, some ⟨5, x7.map (eI .u8)⟩, some ⟨33, x8.map (eI .u8)⟩, none, none, some ⟨5, x12.map (eI .u8)⟩]) (sv (d_append rfl rfl (appS (E := (eI .u8)) rfl ti27 ti5 ⟨rfl, rfl, zl⟩ rfl (srcS (arr_len h_3) rfl) h_6 rfl rfl)))) ?_
      refine DrawG.pick (n := 2) (i := 5) (by decide +kernel) rfl (gS (v := (.sl 6 0 x14.length 1 false)) (h' := [some ⟨33, (List.replicate 32 0).map (eI .u8)⟩, some ⟨5, x7.map (eI .u8)⟩, some ⟨33, x8.map (eI .u8)⟩, none, none, none, some ⟨5, x14.map (eI .u8)⟩]) (sv (d_append rfl rfl (appS (E := (eI .u8)) rfl ti27 ti5 ⟨rfl, rfl, zl⟩ rfl (srcR (fun _ => rfl)) h_7 rfl rfl)))) ?_
      refine DrawG.pick (n := 1) (i := 6) (by decide +kernel) rfl (gC (v := (.agg (x15.map (eI .u8)))) (h' := [some ⟨33, (List.replicate 32 0).map (eI .u8)⟩, some ⟨5, x7.map (eI .u8)⟩, some ⟨33, x8.map (eI .u8)⟩, none, none, none, some ⟨5, x14.map (eI .u8)⟩]) (zL (ref03_Sum_ok N x14 x15 h_8) [] [6]) (fun _ => rfl) (fun h => absurd h (by decide)) (sv (d_call rfl orc1_hit))) ?_
      refine DrawG.pick (n := 0) (i := 7) (by decide +kernel) rfl (gN (h' := [some ⟨33, x15.map (eI .u8)⟩, some ⟨5, x7.map (eI .u8)⟩, some ⟨33, x8.map (eI .u8)⟩, none, none, none, some ⟨5, x14.map (eI .u8)⟩]) (sv (d_store rfl rfl (stA (E := (eI .u8)) (l := List.replicate 32 0) ti33 rfl rfl (fun _ => rfl) rfl (arr_len h_10) rfl)))) <| DrawG.nil (by decide +kernel) <| Ex.then_mk ?_
      exact hG1 _ _ _ _ (zG [0]) (J1 x15 hr)
  · refine DrawG.fork (n := 5) [1, 4] (by decide +kernel) (by decide) ?_
    refine (Fork.cons rfl (gS (v := (.sl 4 0 x10.length 1 false)) (h' := [some ⟨33, (List.replicate 32 0).map (eI .u8)⟩, some ⟨5, x7.map (eI .u8)⟩, some ⟨33, x8.map (eI .u8)⟩, none, some ⟨5, x10.map (eI .u8)⟩]) (sv (d_append rfl rfl (appN (E := (eI .u8)) ti27 ti5 ⟨rfl, rfl, zl⟩ (srcS (arr_len h_3) rfl) rfl h_5 rfl rfl)))) ?_ (Fork.cons rfl (gS (v := (.row none 1 (b.map (eI .u8)))) (sv (d_move rfl))) ?_ Fork.nil))
    · refine DrawG.fork (n := 4) [3, 4] (by decide +kernel) (by decide) ?_
      refine (Fork.cons rfl (gS (v := (.sl 5 0 x12.length 1 false)) (h' := [some ⟨33, (List.replicate 32 0).map (eI .u8)⟩, some ⟨5, x7.map (eI .u8)⟩, some ⟨33, x8.map (eI .u8)⟩, none, none, some ⟨5, x12.map (eI .u8)⟩]) (sv (d_append rfl rfl (appS (E := (eI .u8)) rfl ti27 ti5 ⟨rfl, rfl, zl⟩ rfl (srcS (arr_len h_3) rfl) h_6 rfl rfl)))) ?_ (Fork.cons rfl (gS (v := (.row none 1 (b.map (eI .u8)))) (sv (d_move rfl))) ?_ Fork.nil))
      · refine DrawG.pick (n := 3) (i := 4) (by decide +kernel) rfl (gS (v := (.row none 1 (b.map (eI .u8)))) (sv (d_move rfl))) <| DrawG.pick (n := 2) (i := 5) (by decide +kernel) rfl (gS (v := (.sl 6 0 x14.length 1 false)) (h' := [some ⟨33, (List.replicate 32 0).map (eI .u8)⟩, some ⟨5, x7.map (eI .u8)⟩, some ⟨33, x8.map (eI .u8)⟩, none, none, none, some ⟨5, x14.map (eI .u8)⟩]) (sv (d_append rfl rfl (appS (E := (eI .u8)) rfl ti27 ti5 ⟨rfl, rfl, zl⟩ rfl (srcR (fun _ => rfl)) h_7 rfl rfl)))) ?_
        refine DrawG.pick (n := 1) (i := 6) (by decide +kernel) rfl (gC (v := (.agg (x15.map (eI .u8)))) (h' := [some ⟨33, (List.replicate 32 0).map (eI .u8)⟩, some ⟨5, x7.map (eI .u8)⟩, some ⟨33, x8.map (eI .u8)⟩, none, none, none, some ⟨5, x14.map (eI .u8)⟩]) (zL (ref03_Sum_ok N x14 x15 h_8) [] [6]) (fun _ => rfl) (fun h => absurd h (by decide)) (sv (d_call rfl orc1_hit))) ?_
        refine DrawG.pick (n := 0) (i := 7) (by decide +kernel) rfl (gN (h' := [some ⟨33, x15.map (eI .u8)⟩, some ⟨5, x7.map (eI .u8)⟩, some ⟨33, x8.map (eI .u8)⟩, none, none, none, some ⟨5, x14.map (eI .u8)⟩]) (sv (d_store rfl rfl (stA (E := (eI .u8)) (l := List.replicate 32 0) ti33 rfl rfl (fun _ => rfl) rfl (arr_len h_10) rfl)))) <| DrawG.nil (by decide +kernel) <| Ex.then_mk ?_
        exact hG1 _ _ _ _ (zG [0]) (J1 x15 hr)
      · refine DrawG.pick (n := 3) (i := 3) (by decide +kernel) rfl (gS (v := (.sl 5 0 x12.length 1 false)) (h' := [some ⟨33, (List.replicate 32 0).map (eI .u8)⟩, some ⟨5, x7.map (eI .u8)⟩, some ⟨33, x8.map (eI .u8)⟩, none, none, some ⟨5, x12.map (eI .u8)⟩]) (sv (d_append rfl rfl (appS (E := (eI .u8)) rfl ti27 ti5 ⟨rfl, rfl, zl⟩ rfl (srcS (arr_len h_3) rfl) h_6 rfl rfl)))) ?_
        refine DrawG.pick (n := 2) (i := 5) (by decide +kernel) rfl (gS (v := (.sl 6 0 x14.length 1 false)) (h' := [some ⟨33, (List.replicate 32 0).map (eI .u8)⟩, some ⟨5, x7.map (eI .u8)⟩, some ⟨33, x8.map (eI .u8)⟩, none, none, none, some ⟨5, x14.map (eI .u8)⟩]) (sv (d_append rfl rfl (appS (E := (eI .u8)) rfl ti27 ti5 ⟨rfl, rfl, zl⟩ rfl (srcR (fun _ => rfl)) h_7 rfl rfl)))) ?_
        refine DrawG.pick (n := 1) (i := 6) (by decide +kernel) rfl (gC (v := (.agg (x15.map (eI .u8)))) (h' := [some ⟨33, (List.replicate 32 0).map (eI .u8)⟩, some ⟨5, x7.map (eI .u8)⟩, some ⟨33, x8.map (eI .u8)⟩, none, none, none, some ⟨5, x14.map (eI .u8)⟩]) (zL (ref03_Sum_ok N x14 x15 h_8) [] [6]) (fun _ => rfl) (fun h => absurd h (by decide)) (sv (d_call rfl orc1_hit))) ?_
        refine DrawG.pick (n := 0) (i := 7) (by decide +kernel) rfl (gN (h' := [some ⟨33, x15.map (eI .u8)⟩, some ⟨5, x7.map (eI .u8)⟩, some ⟨33, x8.map (eI .u8)⟩, none, none, none, some ⟨5, x14.map (eI .u8)⟩]) (sv (d_store rfl rfl (stA (E := (eI .u8)) (l := List.replicate 32 0) ti33 rfl rfl (fun _ => rfl) rfl (arr_len h_10) rfl)))) <| DrawG.nil (by decide +kernel) <| Ex.then_mk ?_
        exact hG1 _ _ _ _ (zG [0]) (J1 x15 hr)
    · refine DrawG.pick (n := 4) (i := 1) (by decide +kernel) rfl (gS (v := (.sl 4 0 x10.length 1 false)) (h' := [some ⟨33, (List.replicate 32 0).map (eI .u8)⟩, some ⟨5, x7.map (eI .u8)⟩, some ⟨33, x8.map (eI .u8)⟩, none, some ⟨5, x10.map (eI .u8)⟩]) (sv (d_append rfl rfl (appN (E := (eI .u8)) ti27 ti5 ⟨rfl, rfl, zl⟩ (srcS (arr_len h_3) rfl) rfl h_5 rfl rfl)))) ?_
      refine DrawG.pick (n := 3) (i := 3) (by decide +kernel) rfl (gS (v := (.sl 5 0 x12.length 1 false)) (h' := [some ⟨33, (List.replicate 32 0).map (eI .u8)⟩, some ⟨5, x7.map (eI .u8)⟩, some ⟨33, x8.map (eI .u8)⟩, none, none, some ⟨5, x12.map (eI .u8)⟩]) (sv (d_append rfl rfl (appS (E := (eI .u8)) rfl ti27 ti5 ⟨rfl, rfl, zl⟩ rfl (srcS (arr_len h_3) rfl) h_6 rfl rfl)))) ?_
      refine DrawG.pick (n := 2) (i := 5) (by decide +kernel) rfl (gS (v := (.sl 6 0 x14.length 1 false)) (h' := [some ⟨33, (List.replicate 32 0).map (eI .u8)⟩, some ⟨5, x7.map (eI .u8)⟩, some ⟨33, x8.map (eI .u8)⟩, none, none, none, some ⟨5, x14.map (eI .u8)⟩]) (sv (d_append rfl rfl (appS (E := (eI .u8)) rfl ti27 ti5 ⟨rfl, rfl, zl⟩ rfl (srcR (fun _ => rfl)) h_7 rfl rfl)))) ?_
      refine DrawG.pick (n := 1) (i := 6) (by decide +kernel) rfl (gC (v := (.agg (x15.map (eI .u8)))) (h' := [some ⟨33, (List.replicate 32 0).map (eI .u8)⟩, some ⟨5, x7.map (eI .u8)⟩, some ⟨33, x8.map (eI .u8)⟩, none, none, none, some ⟨5, x14.map (eI .u8)⟩]) (zL (ref03_Sum_ok N x14 x15 h_8) [] [6]) (fun _ => rfl) (fun h => absurd h (by decide)) (sv (d_call rfl orc1_hit))) ?_
      refine DrawG.pick (n := 0) (i := 7) (by decide +kernel) rfl (gN (h' := [some ⟨33, x15.map (eI .u8)⟩, some ⟨5, x7.map (eI .u8)⟩, some ⟨33, x8.map (eI .u8)⟩, none, none, none, some ⟨5, x14.map (eI .u8)⟩]) (sv (d_store rfl rfl (stA (E := (eI .u8)) (l := List.replicate 32 0) ti33 rfl rfl (fun _ => rfl) rfl (arr_len h_10) rfl)))) <| DrawG.nil (by decide +kernel) <| Ex.then_mk ?_
      exact hG1 _ _ _ _ (zG [0]) (J1 x15 hr)
  · refine DrawG.fork (n := 5) [1, 2] (by decide +kernel) (by decide) ?_
    refine (Fork.cons rfl (gS (v := (.sl 4 0 x10.length 1 false)) (h' := [some ⟨33, (List.replicate 32 0).map (eI .u8)⟩, some ⟨5, x7.map (eI .u8)⟩, some ⟨33, x8.map (eI .u8)⟩, none, some ⟨5, x10.map (eI .u8)⟩]) (sv (d_append rfl rfl (appN (E := (eI .u8)) ti27 ti5 ⟨rfl, rfl, zl⟩ (srcS (arr_len h_3) rfl) rfl h_5 rfl rfl)))) ?_ (Fork.cons rfl (gS (v := (.sl 2 0 32 1 false)) (sv (d_slice rfl rfl rfl (slA (E := (eI .u8)) (l := x8) ti33 ti5 rfl rfl rfl (arr_len h_3) ⟨zl, zl⟩)))) ?_ Fork.nil))
    · refine DrawG.pick (n := 4) (i := 2) (by decide +kernel) rfl (gS (v := (.sl 2 0 32 1 false)) (sv (d_slice rfl rfl rfl (slA (E := (eI .u8)) (l := x8) ti33 ti5 rfl rfl rfl (arr_len h_3) ⟨zl, zl⟩)))) <| DrawG.pick (n := 3) (i := 3) (by decide +kernel) rfl (gS (v := (.sl 5 0 x12.length 1 false)) (h' := [some ⟨33, (List.replicate 32 0).map (eI .u8)⟩, some ⟨5, x7.map (eI .u8)⟩, some ⟨33, x8.map (eI .u8)⟩, none, none, some ⟨5, x12.map (eI .u8)⟩]) (sv (d_append rfl rfl (appS (E := (eI .u8)) rfl ti27 ti5 ⟨rfl, rfl, zl⟩ rfl (srcS (arr_len h_3) rfl) h_6 rfl rfl)))) ?_
      refine DrawG.pick (n := 2) (i := 5) (by decide +kernel) rfl (gS (v := (.sl 6 0 x14.length 1 false)) (h' := [some ⟨33, (List.replicate 32 0).map (eI .u8)⟩, some ⟨5, x7.map (eI .u8)⟩, some ⟨33, x8.map (eI .u8)⟩, none, none, none, some ⟨5, x14.map (eI .u8)⟩]) (sv (d_append rfl rfl (appS (E := (eI .u8)) rfl ti27 ti5 ⟨rfl, rfl, zl⟩ rfl (srcR (fun _ => rfl)) h_7 rfl rfl)))) ?_
      refine DrawG.pick (n := 1) (i := 6) (by decide +kernel) rfl (gC (v := (.agg (x15.map (eI .u8)))) (h' := [some ⟨33, (List.replicate 32 0).map (eI .u8)⟩, some ⟨5, x7.map (eI .u8)⟩, some ⟨33, x8.map (eI .u8)⟩, none, none, none, some ⟨5, x14.map (eI .u8)⟩]) (zL (ref03_Sum_ok N x14 x15 h_8) [] [6]) (fun _ => rfl) (fun h => absurd h (by decide)) (sv (d_call rfl orc1_hit))) ?_
      refine DrawG.pick (n := 0) (i := 7) (by decide +kernel) rfl (gN (h' := [some ⟨33, x15.map (eI .u8)⟩, some ⟨5, x7.map (eI .u8)⟩, some ⟨33, x8.map (eI .u8)⟩, none, none, none, some ⟨5, x14.map (eI .u8)⟩]) (sv (d_store rfl rfl (stA (E := (eI .u8)) (l := List.replicate 32 0) ti33 rfl rfl (fun _ => rfl) rfl (arr_len h_10) rfl)))) <| DrawG.nil (by decide +kernel) <| Ex.then_mk ?_
      exact hG1 _ _ _ _ (zG [0]) (J1 x15 hr)
    · refine DrawG.pick (n := 4) (i := 1) (by decide +kernel) rfl (gS (v := (.sl 4 0 x10.length 1 false)) (h' := [some ⟨33, (List.replicate 32 0).map (eI .u8)⟩, some ⟨5, x7.map (eI .u8)⟩, some ⟨33, x8.map (eI .u8)⟩, none, some ⟨5, x10.map (eI .u8)⟩]) (sv (d_append rfl rfl (appN (E := (eI .u8)) ti27 ti5 ⟨rfl, rfl, zl⟩ (srcS (arr_len h_3) rfl) rfl h_5 rfl rfl)))) ?_
      refine DrawG.pick (n := 3) (i := 3) (by decide +kernel) rfl (gS (v := (.sl 5 0 x12.length 1 false)) (h' := [some ⟨33, (List.replicate 32 0).map (eI .u8)⟩, some ⟨5, x7.map (eI .u8)⟩, some ⟨33, x8.map (eI .u8)⟩, none, none, some ⟨5, x12.map (eI .u8)⟩]) (sv (d_append rfl rfl (appS (E := (eI .u8)) rfl ti27 ti5 ⟨rfl, rfl, zl⟩ rfl (srcS (arr_len h_3) rfl) h_6 rfl rfl)))) ?_
      refine DrawG.pick (n := 2) (i := 5) (by decide +kernel) rfl (gS (v := (.sl 6 0 x14.length 1 false)) (h' := [some ⟨33, (List.replicate 32 0).map (eI .u8)⟩, some ⟨5, x7.map (eI .u8)⟩, some ⟨33, x8.map (eI .u8)⟩, none, none, none, some ⟨5, x14.map (eI .u8)⟩]) (sv (d_append rfl rfl (appS (E := (eI .u8)) rfl ti27 ti5 ⟨rfl, rfl, zl⟩ rfl (srcR (fun _ => rfl)) h_7 rfl rfl)))) ?_
      refine DrawG.pick (n := 1) (i := 6) (by decide +kernel) rfl (gC (v := (.agg (x15.map (eI .u8)))) (h' := [some ⟨33, (List.replicate 32 0).map (eI .u8)⟩, some ⟨5, x7.map (eI .u8)⟩, some ⟨33, x8.map (eI .u8)⟩, none, none, none, some ⟨5, x14.map (eI .u8)⟩]) (zL (ref03_Sum_ok N x14 x15 h_8) [] [6]) (fun _ => rfl) (fun h => absurd h (by decide)) (sv (d_call rfl orc1_hit))) ?_
      refine DrawG.pick (n := 0) (i := 7) (by decide +kernel) rfl (gN (h' := [some ⟨33, x15.map (eI .u8)⟩, some ⟨5, x7.map (eI .u8)⟩, some ⟨33, x8.map (eI .u8)⟩, none, none, none, some ⟨5, x14.map (eI .u8)⟩]) (sv (d_store rfl rfl (stA (E := (eI .u8)) (l := List.replicate 32 0) ti33 rfl rfl (fun _ => rfl) rfl (arr_len h_10) rfl)))) <| DrawG.nil (by decide +kernel) <| Ex.then_mk ?_
      exact hG1 _ _ _ _ (zG [0]) (J1 x15 hr)
set_option maxRecDepth 20000 in
set_option maxHeartbeats 1000000 in
theorem ref10_Message_ok (N : Nat) (t_Version : Int) (t_Inputs : List S_api_Input) (t_Outputs : List S_api_Output) (t_Lock : Int) (vi : Int) (o_Value : Int) (o_Script : List Int) (r : (List Int) × Int) (hr : ref10_Message N t_Version t_Inputs t_Outputs t_Lock vi o_Value o_Script = some r) :
    Vm.Fn Tryd.prog 8 [] [(.agg [(eI .u32 t_Version), (.row none 35 (t_Inputs.map E_api_Input)), (.row none 2 (t_Outputs.map E_api_Output)), (eI .u32 t_Lock)]), (eI .i64 vi), (.agg [(eI .i64 o_Value), (.row none 1 (o_Script.map (eI .u8)))])] (.tup [(.agg (r.1.map (eI .u8))), (eI .i64 r.2)]) [] := by
  refine fn_ab Tryd.func8 rfl (by kernel_rfl) Tryd.ntmps8 zl rfl (fr := [(0, (.agg [(eI .u32 t_Version), (.row none 35 (t_Inputs.map E_api_Input)), (.row none 2 (t_Outputs.map E_api_Output)), (eI .u32 t_Lock)])), (1, (eI .i64 vi)), (2, (.agg [(eI .i64 o_Value), (.row none 1 (o_Script.map (eI .u8)))]))]) rfl ?_
  unfold ref10_Message at hr
  refine zq <| wS (v := (.ptr 0 0)) (h' := [some ⟨26, [(eI .u32 t_Version), (.row none 35 (t_Inputs.map E_api_Input)), (.row none 2 (t_Outputs.map E_api_Output)), (eI .u32 t_Lock)]⟩]) (sv (d_box rfl rfl rfl rfl)) <| wS (v := (.ptr 1 0)) (h' := [some ⟨26, [(eI .u32 t_Version), (.row none 35 (t_Inputs.map E_api_Input)), (.row none 2 (t_Outputs.map E_api_Output)), (eI .u32 t_Lock)]⟩, some ⟨29, [(eI .i64 o_Value), (.row none 1 (o_Script.map (eI .u8)))]⟩]) (sv (d_box rfl rfl rfl rfl)) ?_
  refine wS (v := (.ptr 2 0)) (h' := [some ⟨26, [(eI .u32 t_Version), (.row none 35 (t_Inputs.map E_api_Input)), (.row none 2 (t_Outputs.map E_api_Output)), (eI .u32 t_Lock)]⟩, some ⟨29, [(eI .i64 o_Value), (.row none 1 (o_Script.map (eI .u8)))]⟩, some ⟨33, (List.replicate 32 0).map (eI .u8)⟩]) (sv (d_alloc ti33 rfl rfl rfl)) <| wS (v := (eI .i64 0)) (sv (d_assign rfl)) <| zn <| AB.seq ?_
  refine AB.seq_g fun K1 hK1 hG1 => ?_
  have J1 : ∀ (x29 : Bool), ref10_Message_J1 N t_Version t_Inputs t_Outputs t_Lock vi o_Value o_Script x29 = some r → K1 (mkF 98 [(1, (eI .i64 vi)), (3, (.ptr 0 0)), (5, (.ptr 1 0)), (6, (.ptr 2 0)), (29, (eB x29))]) [some ⟨26, [(eI .u32 t_Version), (.row none 35 (t_Inputs.map E_api_Input)), (.row none 2 (t_Outputs.map E_api_Output)), (eI .u32 t_Lock)]⟩, some ⟨29, [(eI .i64 o_Value), (.row none 1 (o_Script.map (eI .u8)))]⟩, some ⟨33, (List.replicate 32 0).map (eI .u8)⟩] := by
    intro x29 hr
    unfold ref10_Message_J1 at hr
    refine hK1 _ _ ?_
    refine AB.cnd rfl (fun h1 => ?_) (fun h1 => ?_)
    · replace hr := iteT hr h1
      refine zq <| wS (v := (.agg ([0, 0, 0, 0, 0, 0, 0, 0, 0, 0, 0, 0, 0, 0, 0, 0, 0, 0, 0, 0, 0, 0, 0, 0, 0, 0, 0, 0, 0, 0, 0, 0].map (eI .u8)))) (sv (d_build rfl (bldA ti33 ti5 rfl))) ?_
      refine wN (h' := [some ⟨26, [(eI .u32 t_Version), (.row none 35 (t_Inputs.map E_api_Input)), (.row none 2 (t_Outputs.map E_api_Output)), (eI .u32 t_Lock)]⟩, some ⟨29, [(eI .i64 o_Value), (.row none 1 (o_Script.map (eI .u8)))]⟩, some ⟨33, [0, 0, 0, 0, 0, 0, 0, 0, 0, 0, 0, 0, 0, 0, 0, 0, 0, 0, 0, 0, 0, 0, 0, 0, 0, 0, 0, 0, 0, 0, 0, 0].map (eI .u8)⟩]) (sv (d_store rfl rfl (stA (E := (eI .u8)) (l := List.replicate 32 0) ti33 rfl rfl (fun _ => rfl) rfl rfl rfl))) <| wS (v := (eI .i64 4)) (sv (d_assign rfl)) <| zn <| AB.ret <| Ex.then_ret_mk ?_
      obtain rfl := Option.some.inj hr
      exact done_ret (r1 := (.tup [(.agg ([0, 0, 0, 0, 0, 0, 0, 0, 0, 0, 0, 0, 0, 0, 0, 0, 0, 0, 0, 0, 0, 0, 0, 0, 0, 0, 0, 0, 0, 0, 0, 0].map (eI .u8))), (eI .i64 4)])) (res2 Tryd.results8 (rvC rfl (ldA (E := (eI .u8)) (l := [0, 0, 0, 0, 0, 0, 0, 0, 0, 0, 0, 0, 0, 0, 0, 0, 0, 0, 0, 0, 0, 0, 0, 0, 0, 0, 0, 0, 0, 0, 0, 0]) ti33 rfl rfl rfl)) (rvT rfl)) (Ghost.rn [] rfl rfl (FLe.le rfl (V.le_tup (V.les_cons (V.le_arr (fun _ => rfl)) (V.les_cons (V.le_refl _ _) V.les_nil))) FLe.nil) HLe.nil rfl)
    · replace hr := iteF hr h1
      refine AB.skip <| Ex.then_mk <| AB.seq ?_
      refine AB.seq_g fun K2 hK2 hG2 => ?_
      have J2 : ∀ (x39 : Bool), ref10_Message_J2 N t_Version t_Inputs t_Outputs t_Lock vi o_Value o_Script x39 = some r → K2 (mkF 98 [(1, (eI .i64 vi)), (3, (.ptr 0 0)), (5, (.ptr 1 0)), (6, (.ptr 2 0)), (39, (eB x39))]) [some ⟨26, [(eI .u32 t_Version), (.row none 35 (t_Inputs.map E_api_Input)), (.row none 2 (t_Outputs.map E_api_Output)), (eI .u32 t_Lock)]⟩, some ⟨29, [(eI .i64 o_Value), (.row none 1 (o_Script.map (eI .u8)))]⟩, some ⟨33, (List.replicate 32 0).map (eI .u8)⟩] := by
        intro x39 hr
        unfold ref10_Message_J2 at hr
        refine hK2 _ _ ?_
        refine AB.cnd rfl (fun h2 => ?_) (fun h2 => ?_)
        · replace hr := iteT hr h2
          refine zq <| wS (v := (.agg ([0, 0, 0, 0, 0, 0, 0, 0, 0, 0, 0, 0, 0, 0, 0, 0, 0, 0, 0, 0, 0, 0, 0, 0, 0, 0, 0, 0, 0, 0, 0, 0].map (eI .u8)))) (sv (d_build rfl (bldA ti33 ti5 rfl))) ?_
          refine wN (h' := [some ⟨26, [(eI .u32 t_Version), (.row none 35 (t_Inputs.map E_api_Input)), (.row none 2 (t_Outputs.map E_api_Output)), (eI .u32 t_Lock)]⟩, some ⟨29, [(eI .i64 o_Value), (.row none 1 (o_Script.map (eI .u8)))]⟩, some ⟨33, [0, 0, 0, 0, 0, 0, 0, 0, 0, 0, 0, 0, 0, 0, 0, 0, 0, 0, 0, 0, 0, 0, 0, 0, 0, 0, 0, 0, 0, 0, 0, 0].map (eI .u8)⟩]) (sv (d_store rfl rfl (stA (E := (eI .u8)) (l := List.replicate 32 0) ti33 rfl rfl (fun _ => rfl) rfl rfl rfl))) <| wS (v := (eI .i64 5)) (sv (d_assign rfl)) <| zn <| AB.ret <| Ex.then_ret_mk ?_
          obtain rfl := Option.some.inj hr
          exact done_ret (r1 := (.tup [(.agg ([0, 0, 0, 0, 0, 0, 0, 0, 0, 0, 0, 0, 0, 0, 0, 0, 0, 0, 0, 0, 0, 0, 0, 0, 0, 0, 0, 0, 0, 0, 0, 0].map (eI .u8))), (eI .i64 5)])) (res2 Tryd.results8 (rvC rfl (ldA (E := (eI .u8)) (l := [0, 0, 0, 0, 0, 0, 0, 0, 0, 0, 0, 0, 0, 0, 0, 0, 0, 0, 0, 0, 0, 0, 0, 0, 0, 0, 0, 0, 0, 0, 0, 0]) ti33 rfl rfl rfl)) (rvT rfl)) (Ghost.rn [] rfl rfl (FLe.le rfl (V.le_tup (V.les_cons (V.le_arr (fun _ => rfl)) (V.les_cons (V.le_refl _ _) V.les_nil))) FLe.nil) HLe.nil rfl)
        · replace hr := iteF hr h2
          refine AB.skip <| Ex.then_mk <| zq <| wS (v := (.row (some true) 1 [])) (sv (d_assign rfl)) <| wS (v := (.row (some true) 1 [])) (sv (d_assign rfl)) <| wS (v := (.row (some true) 1 [])) (sv (d_assign rfl)) <| zn ?_
          refine AB.seq_g fun K3 hK3 hG3 => ?_
          have J3 : ∀ (l3 : List Int) (l4 : List Int), ref10_Message_J3 N t_Version t_Inputs t_Outputs t_Lock vi o_Value o_Script l3 l4 = some r → K3 (mkF 98 [(1, (eI .i64 vi)), (3, (.ptr 0 0)), (5, (.ptr 1 0)), (6, (.ptr 2 0)), (8, (.sl 3 0 l3.length 1 false)), (9, (.sl 4 0 l4.length 1 false)), (10, (.row (some true) 1 []))]) [some ⟨26, [(eI .u32 t_Version), (.row none 35 (t_Inputs.map E_api_Input)), (.row none 2 (t_Outputs.map E_api_Output)), (eI .u32 t_Lock)]⟩, some ⟨29, [(eI .i64 o_Value), (.row none 1 (o_Script.map (eI .u8)))]⟩, some ⟨33, (List.replicate 32 0).map (eI .u8)⟩, some ⟨5, l3.map (eI .u8)⟩, some ⟨5, l4.map (eI .u8)⟩] := by
            intro l3 l4 hr
            unfold ref10_Message_J3 at hr
            refine hK3 _ _ ?_
            refine AB.seq_g fun K4 hK4 hG4 => ?_
            have J4 : ∀ (l5 : List Int), ref10_Message_J4 N t_Version t_Inputs t_Outputs t_Lock vi o_Value o_Script l3 l4 l5 = some r → K4 (mkF 98 [(1, (eI .i64 vi)), (3, (.ptr 0 0)), (5, (.ptr 1 0)), (6, (.ptr 2 0)), (8, (.sl 3 0 l3.length 1 false)), (9, (.sl 4 0 l4.length 1 false)), (10, (.sl 5 0 l5.length 1 false))]) [some ⟨26, [(eI .u32 t_Version), (.row none 35 (t_Inputs.map E_api_Input)), (.row none 2 (t_Outputs.map E_api_Output)), (eI .u32 t_Lock)]⟩, some ⟨29, [(eI .i64 o_Value), (.row none 1 (o_Script.map (eI .u8)))]⟩, some ⟨33, (List.replicate 32 0).map (eI .u8)⟩, some ⟨5, l3.map (eI .u8)⟩, some ⟨5, l4.map (eI .u8)⟩, some ⟨5, l5.map (eI .u8)⟩] := by
              intro l5 hr
              unfold ref10_Message_J4 at hr
              refine hK4 _ _ <| AB.seq ?_
              replace hr := bnd hr; obtain ⟨x72, h_3, hr⟩ := hr
              refine AB.rw <| wS (v := (.ptr 0 0)) (sv (d_fa rfl (fap26_0 ..))) <| wS (v := (eI .u32 t_Version)) (sv (d_load rfl (ldP rfl (part1 ti22 rfl rfl)))) ?_
              refine wC (v := (.sl 6 0 x72.length 1 false)) (h' := [some ⟨26, [(eI .u32 t_Version), (.row none 35 (t_Inputs.map E_api_Input)), (.row none 2 (t_Outputs.map E_api_Output)), (eI .u32 t_Lock)]⟩, some ⟨29, [(eI .i64 o_Value), (.row none 1 (o_Script.map (eI .u8)))]⟩, some ⟨33, (List.replicate 32 0).map (eI .u8)⟩, some ⟨5, l3.map (eI .u8)⟩, some ⟨5, l4.map (eI .u8)⟩, some ⟨5, l5.map (eI .u8)⟩, some ⟨5, x72.map (eI .u8)⟩]) rfl (Vm.Fn.argsLe (zB (ref01_AppendU32_ok N [] t_Version x72 h_3) []) (V.les_cons V.le_nil (V.les_cons (V.le_refl _ _) V.les_nil))) <| za rfl <| zn <| AB.seq ?_
              replace hr := bnd hr; obtain ⟨x75, h_4, hr⟩ := hr
              replace hr := bnd hr; obtain ⟨x76, h_5, hr⟩ := hr
              refine AB.rw <| zm rfl <| zm rfl <| wC (v := (.agg (x75.map (eI .u8)))) (h' := [some ⟨26, [(eI .u32 t_Version), (.row none 35 (t_Inputs.map E_api_Input)), (.row none 2 (t_Outputs.map E_api_Output)), (eI .u32 t_Lock)]⟩, some ⟨29, [(eI .i64 o_Value), (.row none 1 (o_Script.map (eI .u8)))]⟩, some ⟨33, (List.replicate 32 0).map (eI .u8)⟩, some ⟨5, l3.map (eI .u8)⟩, some ⟨5, l4.map (eI .u8)⟩, some ⟨5, l5.map (eI .u8)⟩, some ⟨5, x72.map (eI .u8)⟩]) rfl (zL (ref03_Sum_ok N l3 x75 h_4) [] [3]) ?_
              refine wC (v := (.sl 7 0 x76.length 1 false)) (h' := [some ⟨26, [(eI .u32 t_Version), (.row none 35 (t_Inputs.map E_api_Input)), (.row none 2 (t_Outputs.map E_api_Output)), (eI .u32 t_Lock)]⟩, some ⟨29, [(eI .i64 o_Value), (.row none 1 (o_Script.map (eI .u8)))]⟩, some ⟨33, (List.replicate 32 0).map (eI .u8)⟩, some ⟨5, l3.map (eI .u8)⟩, some ⟨5, l4.map (eI .u8)⟩, some ⟨5, l5.map (eI .u8)⟩, some ⟨5, x72.map (eI .u8)⟩, some ⟨5, x76.map (eI .u8)⟩]) rfl (zL (ref01_AppendHash_ok N x72 x75 x76 h_5) [] [6]) <| za rfl <| zn <| AB.seq ?_
              replace hr := bnd hr; obtain ⟨x79, h_6, hr⟩ := hr
              replace hr := bnd hr; obtain ⟨x80, h_7, hr⟩ := hr
              refine AB.rw <| zm rfl <| zm rfl <| wC (v := (.agg (x79.map (eI .u8)))) (h' := [some ⟨26, [(eI .u32 t_Version), (.row none 35 (t_Inputs.map E_api_Input)), (.row none 2 (t_Outputs.map E_api_Output)), (eI .u32 t_Lock)]⟩, some ⟨29, [(eI .i64 o_Value), (.row none 1 (o_Script.map (eI .u8)))]⟩, some ⟨33, (List.replicate 32 0).map (eI .u8)⟩, some ⟨5, l3.map (eI .u8)⟩, some ⟨5, l4.map (eI .u8)⟩, some ⟨5, l5.map (eI .u8)⟩, some ⟨5, x72.map (eI .u8)⟩, some ⟨5, x76.map (eI .u8)⟩]) rfl (zL (ref03_Sum_ok N l4 x79 h_6) [] [4]) ?_
              refine wC (v := (.sl 8 0 x80.length 1 false)) (h' := [some ⟨26, [(eI .u32 t_Version), (.row none 35 (t_Inputs.map E_api_Input)), (.row none 2 (t_Outputs.map E_api_Output)), (eI .u32 t_Lock)]⟩, some ⟨29, [(eI .i64 o_Value), (.row none 1 (o_Script.map (eI .u8)))]⟩, some ⟨33, (List.replicate 32 0).map (eI .u8)⟩, some ⟨5, l3.map (eI .u8)⟩, some ⟨5, l4.map (eI .u8)⟩, some ⟨5, l5.map (eI .u8)⟩, some ⟨5, x72.map (eI .u8)⟩, some ⟨5, x76.map (eI .u8)⟩, some ⟨5, x80.map (eI .u8)⟩]) rfl (zL (ref01_AppendHash_ok N x76 x79 x80 h_7) [] [7]) <| za rfl <| zn <| AB.seq ?_
              replace hr := bnd hr; obtain ⟨x83, h_8, hr⟩ := hr
              replace hr := bnd hr; obtain ⟨x84, h_9, hr⟩ := hr
              refine AB.rw <| zm rfl <| zm rfl <| wC (v := (.agg (x83.map (eI .u8)))) (h' := [some ⟨26, [(eI .u32 t_Version), (.row none 35 (t_Inputs.map E_api_Input)), (.row none 2 (t_Outputs.map E_api_Output)), (eI .u32 t_Lock)]⟩, some ⟨29, [(eI .i64 o_Value), (.row none 1 (o_Script.map (eI .u8)))]⟩, some ⟨33, (List.replicate 32 0).map (eI .u8)⟩, some ⟨5, l3.map (eI .u8)⟩, some ⟨5, l4.map (eI .u8)⟩, some ⟨5, l5.map (eI .u8)⟩, some ⟨5, x72.map (eI .u8)⟩, some ⟨5, x76.map (eI .u8)⟩, some ⟨5, x80.map (eI .u8)⟩]) rfl (zL (ref03_Sum_ok N l5 x83 h_8) [] [5]) ?_
              refine wC (v := (.sl 9 0 x84.length 1 false)) (h' := [some ⟨26, [(eI .u32 t_Version), (.row none 35 (t_Inputs.map E_api_Input)), (.row none 2 (t_Outputs.map E_api_Output)), (eI .u32 t_Lock)]⟩, some ⟨29, [(eI .i64 o_Value), (.row none 1 (o_Script.map (eI .u8)))]⟩, some ⟨33, (List.replicate 32 0).map (eI .u8)⟩, some ⟨5, l3.map (eI .u8)⟩, some ⟨5, l4.map (eI .u8)⟩, some ⟨5, l5.map (eI .u8)⟩, some ⟨5, x72.map (eI .u8)⟩, some ⟨5, x76.map (eI .u8)⟩, some ⟨5, x80.map (eI .u8)⟩, some ⟨5, x84.map (eI .u8)⟩]) rfl (zL (ref01_AppendHash_ok N x80 x83 x84 h_9) [] [8]) <| za rfl <| zn <| AB.seq ?_
              replace hr := bnd hr; obtain ⟨x88, h_10, hr⟩ := hr
              refine AB.rw <| zm rfl <| wS (v := (.ptr 0 3)) (sv (d_fa rfl (fap26_3 ..))) <| wS (v := (eI .u32 t_Lock)) (sv (d_load rfl (ldP rfl (part1 ti22 rfl rfl)))) ?_
              refine wC (v := (.sl 10 0 x88.length 1 false)) (h' := [some ⟨26, [(eI .u32 t_Version), (.row none 35 (t_Inputs.map E_api_Input)), (.row none 2 (t_Outputs.map E_api_Output)), (eI .u32 t_Lock)]⟩, some ⟨29, [(eI .i64 o_Value), (.row none 1 (o_Script.map (eI .u8)))]⟩, some ⟨33, (List.replicate 32 0).map (eI .u8)⟩, some ⟨5, l3.map (eI .u8)⟩, some ⟨5, l4.map (eI .u8)⟩, some ⟨5, l5.map (eI .u8)⟩, some ⟨5, x72.map (eI .u8)⟩, some ⟨5, x76.map (eI .u8)⟩, some ⟨5, x80.map (eI .u8)⟩, some ⟨5, x84.map (eI .u8)⟩, some ⟨5, x88.map (eI .u8)⟩]) rfl (zL (ref01_AppendU32_ok N x84 t_Lock x88 h_10) [] [9]) <| za rfl ?_
              refine zn <| AB.seq ?_
              replace hr := bnd hr; obtain ⟨x92, h_11, hr⟩ := hr
              refine AB.rw <| zm rfl <| zm rfl <| wS (sv (d_conv rfl (conv_int _ ⟨_, ti3⟩ ti22 rfl))) ?_
              refine wC (v := (.sl 11 0 x92.length 1 false)) (h' := [some ⟨26, [(eI .u32 t_Version), (.row none 35 (t_Inputs.map E_api_Input)), (.row none 2 (t_Outputs.map E_api_Output)), (eI .u32 t_Lock)]⟩, some ⟨29, [(eI .i64 o_Value), (.row none 1 (o_Script.map (eI .u8)))]⟩, some ⟨33, (List.replicate 32 0).map (eI .u8)⟩, some ⟨5, l3.map (eI .u8)⟩, some ⟨5, l4.map (eI .u8)⟩, some ⟨5, l5.map (eI .u8)⟩, some ⟨5, x72.map (eI .u8)⟩, some ⟨5, x76.map (eI .u8)⟩, some ⟨5, x80.map (eI .u8)⟩, some ⟨5, x84.map (eI .u8)⟩, some ⟨5, x88.map (eI .u8)⟩, some ⟨5, x92.map (eI .u8)⟩]) rfl (zL (ref01_AppendU32_ok N x88 (IntKind.u32.wrap vi) x92 h_11) [] [10]) ?_
              refine za rfl <| zn <| AB.seq ?_
              replace hr := bnd hr; obtain ⟨x95, h_12, hr⟩ := hr
              replace hr := bnd hr; obtain ⟨x96, h_13, hr⟩ := hr
              replace hr := bnd hr; obtain ⟨x97, h_14, hr⟩ := hr
              replace hr := bnd hr; obtain ⟨q, h_15, hr⟩ := hr
              refine AB.rw <| zm rfl <| wS (v := (.agg [(eI .i64 o_Value), (.row none 1 (o_Script.map (eI .u8)))])) (sv (d_load rfl (ldP rfl (partN (ds := [(eI .i64 o_Value), (.row none 1 (o_Script.map (eI .u8)))]) ti29 rfl zl rfl)))) ?_
              refine wC (v := (.sl 12 0 x95.length 1 false)) (h' := [some ⟨26, [(eI .u32 t_Version), (.row none 35 (t_Inputs.map E_api_Input)), (.row none 2 (t_Outputs.map E_api_Output)), (eI .u32 t_Lock)]⟩, some ⟨29, [(eI .i64 o_Value), (.row none 1 (o_Script.map (eI .u8)))]⟩, some ⟨33, (List.replicate 32 0).map (eI .u8)⟩, some ⟨5, l3.map (eI .u8)⟩, some ⟨5, l4.map (eI .u8)⟩, some ⟨5, l5.map (eI .u8)⟩, some ⟨5, x72.map (eI .u8)⟩, some ⟨5, x76.map (eI .u8)⟩, some ⟨5, x80.map (eI .u8)⟩, some ⟨5, x84.map (eI .u8)⟩, some ⟨5, x88.map (eI .u8)⟩, some ⟨5, x92.map (eI .u8)⟩, some ⟨5, x95.map (eI .u8)⟩]) rfl (zB (ref09_Out_ok N o_Value o_Script x95 h_12) []) ?_
              refine wS (v := (.sl 13 0 x96.length 1 false)) (h' := [some ⟨26, [(eI .u32 t_Version), (.row none 35 (t_Inputs.map E_api_Input)), (.row none 2 (t_Outputs.map E_api_Output)), (eI .u32 t_Lock)]⟩, some ⟨29, [(eI .i64 o_Value), (.row none 1 (o_Script.map (eI .u8)))]⟩, some ⟨33, (List.replicate 32 0).map (eI .u8)⟩, some ⟨5, l3.map (eI .u8)⟩, some ⟨5, l4.map (eI .u8)⟩, some ⟨5, l5.map (eI .u8)⟩, some ⟨5, x72.map (eI .u8)⟩, some ⟨5, x76.map (eI .u8)⟩, some ⟨5, x80.map (eI .u8)⟩, some ⟨5, x84.map (eI .u8)⟩, some ⟨5, x88.map (eI .u8)⟩, none, some ⟨5, x95.map (eI .u8)⟩, some ⟨5, x96.map (eI .u8)⟩]) (sv (d_append rfl rfl (appS (E := (eI .u8)) rfl ti27 ti5 ⟨rfl, rfl, zl⟩ rfl (srcS rfl rfl) h_13 rfl rfl))) ?_
              refine wC (v := (.agg (x97.map (eI .u8)))) (h' := [some ⟨26, [(eI .u32 t_Version), (.row none 35 (t_Inputs.map E_api_Input)), (.row none 2 (t_Outputs.map E_api_Output)), (eI .u32 t_Lock)]⟩, some ⟨29, [(eI .i64 o_Value), (.row none 1 (o_Script.map (eI .u8)))]⟩, some ⟨33, (List.replicate 32 0).map (eI .u8)⟩, some ⟨5, l3.map (eI .u8)⟩, some ⟨5, l4.map (eI .u8)⟩, some ⟨5, l5.map (eI .u8)⟩, some ⟨5, x72.map (eI .u8)⟩, some ⟨5, x76.map (eI .u8)⟩, some ⟨5, x80.map (eI .u8)⟩, some ⟨5, x84.map (eI .u8)⟩, some ⟨5, x88.map (eI .u8)⟩, none, some ⟨5, x95.map (eI .u8)⟩, some ⟨5, x96.map (eI .u8)⟩]) rfl (zL (ref03_Tagged_ok N (⟨#[108, 105, 103, 104, 116, 99, 108, 105, 101, 110, 116, 47, 115, 112, 101, 110, 100]⟩) x96 x97 h_14) [] [13]) ?_
              refine wN (h' := [some ⟨26, [(eI .u32 t_Version), (.row none 35 (t_Inputs.map E_api_Input)), (.row none 2 (t_Outputs.map E_api_Output)), (eI .u32 t_Lock)]⟩, some ⟨29, [(eI .i64 o_Value), (.row none 1 (o_Script.map (eI .u8)))]⟩, some ⟨33, x97.map (eI .u8)⟩, some ⟨5, l3.map (eI .u8)⟩, some ⟨5, l4.map (eI .u8)⟩, some ⟨5, l5.map (eI .u8)⟩, some ⟨5, x72.map (eI .u8)⟩, some ⟨5, x76.map (eI .u8)⟩, some ⟨5, x80.map (eI .u8)⟩, some ⟨5, x84.map (eI .u8)⟩, some ⟨5, x88.map (eI .u8)⟩, none, some ⟨5, x95.map (eI .u8)⟩, some ⟨5, x96.map (eI .u8)⟩]) (sv (d_store rfl rfl (stA (E := (eI .u8)) (l := List.replicate 32 0) ti33 rfl rfl (fun _ => rfl) rfl (arr_len h_15) rfl))) ?_
              refine wS (v := (eI .i64 0)) (sv (d_assign rfl)) <| zn <| AB.ret ?_
              obtain rfl := Option.some.inj hr
              exact done_ret (r1 := (.tup [(.agg (x97.map (eI .u8))), (eI .i64 0)])) (res2 Tryd.results8 (rvC rfl (ldA (E := (eI .u8)) (l := x97) ti33 rfl rfl (arr_len h_15))) (rvT rfl)) (Ghost.rn [] rfl rfl (FLe.le rfl (V.le_tup (V.les_cons (V.le_arr (fun _ => rfl)) (V.les_cons (V.le_refl _ _) V.les_nil))) FLe.nil) HLe.nil rfl)
            refine zq <| wS (v := (.ptr 0 2)) (sv (d_fa rfl (fap26_2 ..))) <| wS (v := (.row none 2 (t_Outputs.map E_api_Output))) (sv (d_load rfl (ldP rfl (part1 ti24 rfl rfl)))) <| wS (v := (eI .i64 (t_Outputs.length : Int))) (sv (d_len rfl (lenR ti24))) <| wS (v := (eI .i64 0)) (sv (d_move rfl)) <| zn ?_
            replace hr := bnd hr; obtain ⟨res5, hL5, hr⟩ := hr
            refine AB.block ?_
            refine AB.loopN (fun m s h => ∃ (x61 : Int) (l5_1 : List Int), ref10_Message_L5 N t_Version t_Inputs t_Outputs t_Lock vi o_Value o_Script l3 l4 m x61 l5_1 = some res5 ∧ Ghost 0 s h (mkF 98 [(1, (eI .i64 vi)), (3, (.ptr 0 0)), (5, (.ptr 1 0)), (6, (.ptr 2 0)), (8, (.sl 3 0 l3.length 1 false)), (9, (.sl 4 0 l4.length 1 false)), (10, (.sl 5 0 l5_1.length 1 false)), (59, (.row none 2 (t_Outputs.map E_api_Output))), (60, (eI .i64 (t_Outputs.length : Int))), (61, (eI .i64 x61))]) [some ⟨26, [(eI .u32 t_Version), (.row none 35 (t_Inputs.map E_api_Input)), (.row none 2 (t_Outputs.map E_api_Output)), (eI .u32 t_Lock)]⟩, some ⟨29, [(eI .i64 o_Value), (.row none 1 (o_Script.map (eI .u8)))]⟩, some ⟨33, (List.replicate 32 0).map (eI .u8)⟩, some ⟨5, l3.map (eI .u8)⟩, some ⟨5, l4.map (eI .u8)⟩, some ⟨5, l5_1.map (eI .u8)⟩]) (n := N) ⟨0, [], hL5, (Ghost.trans (Ghost.virt (fr' := [(1, (eI .i64 vi)), (3, (.ptr 0 0)), (5, (.ptr 1 0)), (6, (.ptr 2 0)), (8, (.sl 3 0 l3.length 1 false)), (9, (.sl 4 0 l4.length 1 false)), (10, (.sl 5 0 0 1 false)), (59, (.row none 2 (t_Outputs.map E_api_Output))), (60, (eI .i64 (t_Outputs.length : Int))), (61, (eI .i64 0))]) (h1 := [some ⟨26, [(eI .u32 t_Version), (.row none 35 (t_Inputs.map E_api_Input)), (.row none 2 (t_Outputs.map E_api_Output)), (eI .u32 t_Lock)]⟩, some ⟨29, [(eI .i64 o_Value), (.row none 1 (o_Script.map (eI .u8)))]⟩, some ⟨33, (List.replicate 32 0).map (eI .u8)⟩, some ⟨5, l3.map (eI .u8)⟩, some ⟨5, l4.map (eI .u8)⟩]) 5 (FLe.same rfl (FLe.same rfl (FLe.same rfl (FLe.same rfl (FLe.same rfl (FLe.same rfl (FLe.le rfl (V.le_virt rfl) (FLe.same rfl (FLe.same rfl (FLe.same rfl FLe.nil)))))))))) (HLv.live (V.les_refl _ _) rfl (HLv.live (V.les_refl _ _) rfl (HLv.live (V.les_refl _ _) (all_map (fun _ => rfl) _) (HLv.live (V.les_refl _ _) (all_map (fun _ => rfl) _) (HLv.live (V.les_refl _ _) (all_map (fun _ => rfl) _) HLv.nil)))))) (Ghost.rn [0, 1, 2, 3, 4, 5] rfl rfl (FLe.same rfl (FLe.same rfl (FLe.same rfl (FLe.same rfl (FLe.same rfl (FLe.same rfl (FLe.le rfl (by first | exact V.le_refl _ _ | (simp only [len_set, len_cpy]; exact V.le_refl _ _)) (FLe.same rfl (FLe.same rfl (FLe.same rfl FLe.nil)))))))))) (HLe.live rfl (V.les_refl _ _) rfl (HLe.live rfl (V.les_refl _ _) rfl (HLe.live rfl (les_map (fun _ => rfl) _) (all_map (fun _ => rfl) _) (HLe.live rfl (les_map (fun _ => rfl) _) (all_map (fun _ => rfl) _) (HLe.live rfl (les_map (fun _ => rfl) _) (all_map (fun _ => rfl) _) (HLe.live rfl V.les_nil rfl HLe.nil)))))) rfl))⟩ (by rintro s h ⟨_, _, h0, _⟩; simp [ref10_Message_L5] at h0) ?_
            rintro m5 s h ⟨x61, l5_1, hr5, hg⟩
            refine AB.ghost hg ?_
            clear hg hL5
            rw [ref10_Message_L5] at hr5
            refine zq <| wS (sv (d_bin rfl rfl (bin_lss ..))) <| zn <| AB.seq ?_
            refine AB.cnd rfl (fun h16 => ?_) (fun h16 => ?_)
            · replace hr5 := iteT hr5 h16
              refine AB.skip <| Ex.then_mk <| AB.seq <| AB.block <| AB.seq ?_
              replace hr5 := bnd hr5; obtain ⟨x63, h_17, hr5⟩ := hr5
              refine AB.rw <| wS (sv (d_ia rfl rfl (iaR ti24 ti29 h_17))) <| wS (v := (.agg [(eI .i64 x63.Value), (.row none 1 (x63.Script.map (eI .u8)))])) (sv (d_load rfl (ldR h_17 (partN (ds := [(eI .i64 x63.Value), (.row none 1 (x63.Script.map (eI .u8)))]) ti29 rfl zl rfl)))) ?_
              refine wS (v := (.ptr 6 0)) (h' := [some ⟨26, [(eI .u32 t_Version), (.row none 35 (t_Inputs.map E_api_Input)), (.row none 2 (t_Outputs.map E_api_Output)), (eI .u32 t_Lock)]⟩, some ⟨29, [(eI .i64 o_Value), (.row none 1 (o_Script.map (eI .u8)))]⟩, some ⟨33, (List.replicate 32 0).map (eI .u8)⟩, some ⟨5, l3.map (eI .u8)⟩, some ⟨5, l4.map (eI .u8)⟩, some ⟨5, l5_1.map (eI .u8)⟩, some ⟨29, [(eI .i64 0), (.row (some true) 1 [])]⟩]) (sv (d_alloc ti29 rfl rfl rfl)) ?_
              refine wN (h' := [some ⟨26, [(eI .u32 t_Version), (.row none 35 (t_Inputs.map E_api_Input)), (.row none 2 (t_Outputs.map E_api_Output)), (eI .u32 t_Lock)]⟩, some ⟨29, [(eI .i64 o_Value), (.row none 1 (o_Script.map (eI .u8)))]⟩, some ⟨33, (List.replicate 32 0).map (eI .u8)⟩, some ⟨5, l3.map (eI .u8)⟩, some ⟨5, l4.map (eI .u8)⟩, some ⟨5, l5_1.map (eI .u8)⟩, some ⟨29, [(eI .i64 x63.Value), (.row none 1 (x63.Script.map (eI .u8)))]⟩]) (sv (d_store rfl rfl (stP ti29 rfl rfl rfl zl rfl))) <| zn ?_
              replace hr5 := bnd hr5; obtain ⟨x67, h_18, hr5⟩ := hr5
              replace hr5 := bnd hr5; obtain ⟨x68, h_19, hr5⟩ := hr5
              refine AB.rw <| zm rfl <| wS (v := (.agg [(eI .i64 x63.Value), (.row none 1 (x63.Script.map (eI .u8)))])) (sv (d_load rfl (ldP rfl (partN (ds := [(eI .i64 x63.Value), (.row none 1 (x63.Script.map (eI .u8)))]) ti29 rfl zl rfl)))) ?_
              refine wC (v := (.sl 7 0 x67.length 1 false)) (h' := [some ⟨26, [(eI .u32 t_Version), (.row none 35 (t_Inputs.map E_api_Input)), (.row none 2 (t_Outputs.map E_api_Output)), (eI .u32 t_Lock)]⟩, some ⟨29, [(eI .i64 o_Value), (.row none 1 (o_Script.map (eI .u8)))]⟩, some ⟨33, (List.replicate 32 0).map (eI .u8)⟩, some ⟨5, l3.map (eI .u8)⟩, some ⟨5, l4.map (eI .u8)⟩, some ⟨5, l5_1.map (eI .u8)⟩, some ⟨29, [(eI .i64 x63.Value), (.row none 1 (x63.Script.map (eI .u8)))]⟩, some ⟨5, x67.map (eI .u8)⟩]) rfl (zB (ref09_Out_ok N x63.Value x63.Script x67 h_18) []) ?_
              refine wS (v := (.sl 8 0 x68.length 1 false)) (h' := [some ⟨26, [(eI .u32 t_Version), (.row none 35 (t_Inputs.map E_api_Input)), (.row none 2 (t_Outputs.map E_api_Output)), (eI .u32 t_Lock)]⟩, some ⟨29, [(eI .i64 o_Value), (.row none 1 (o_Script.map (eI .u8)))]⟩, some ⟨33, (List.replicate 32 0).map (eI .u8)⟩, some ⟨5, l3.map (eI .u8)⟩, some ⟨5, l4.map (eI .u8)⟩, none, some ⟨29, [(eI .i64 x63.Value), (.row none 1 (x63.Script.map (eI .u8)))]⟩, some ⟨5, x67.map (eI .u8)⟩, some ⟨5, x68.map (eI .u8)⟩]) (sv (d_append rfl rfl (appS (E := (eI .u8)) rfl ti27 ti5 ⟨rfl, rfl, zl⟩ rfl (srcS rfl rfl) h_19 rfl rfl))) ?_
              refine za rfl <| OpsW.nil <| Ex.inBlock_mk <| Ex.then_mk <| AB.rw <| wS (v := (eI .i64 (IntKind.i64.wrap (x61 + 1)))) (sv (d_bin rfl rfl (bin_add ..))) <| zm rfl <| zn ?_
              exact ⟨IntKind.i64.wrap (x61 + 1), x68, hr5, (zG [0, 1, 2, 3, 4, 8])⟩
            · replace hr5 := iteF hr5 h16
              refine AB.exit <| Ex.then_exit_mk <| Ex.then_exit_mk <| Ex.inBlock_same_mk ?_
              obtain rfl := Option.some.inj hr5
              refine Ex.then_mk ?_
              exact hG4 _ _ _ _ (zG [0, 1, 2, 3, 4, 5]) (J4 l5_1 hr)
          refine zq <| wS (v := (.ptr 0 1)) (sv (d_fa rfl (fap26_1 ..))) <| wS (v := (.row none 35 (t_Inputs.map E_api_Input))) (sv (d_load rfl (ldP rfl (part1 ti23 rfl rfl)))) <| wS (v := (eI .i64 (t_Inputs.length : Int))) (sv (d_len rfl (lenR ti23))) <| wS (v := (eI .i64 0)) (sv (d_move rfl)) <| zn ?_
          replace hr := bnd hr; obtain ⟨res6, hL6, hr⟩ := hr
          refine AB.block ?_
          refine AB.loopN (fun m s h => ∃ (x44 : Int) (l3_1 : List Int) (l4_1 : List Int), ref10_Message_L6 N t_Version t_Inputs t_Outputs t_Lock vi o_Value o_Script m x44 l3_1 l4_1 = some res6 ∧ Ghost 0 s h (mkF 98 [(1, (eI .i64 vi)), (3, (.ptr 0 0)), (5, (.ptr 1 0)), (6, (.ptr 2 0)), (8, (.sl 3 0 l3_1.length 1 false)), (9, (.sl 4 0 l4_1.length 1 false)), (10, (.row (some true) 1 [])), (42, (.row none 35 (t_Inputs.map E_api_Input))), (43, (eI .i64 (t_Inputs.length : Int))), (44, (eI .i64 x44))]) [some ⟨26, [(eI .u32 t_Version), (.row none 35 (t_Inputs.map E_api_Input)), (.row none 2 (t_Outputs.map E_api_Output)), (eI .u32 t_Lock)]⟩, some ⟨29, [(eI .i64 o_Value), (.row none 1 (o_Script.map (eI .u8)))]⟩, some ⟨33, (List.replicate 32 0).map (eI .u8)⟩, some ⟨5, l3_1.map (eI .u8)⟩, some ⟨5, l4_1.map (eI .u8)⟩]) (n := N) ⟨0, [], [], hL6, (Ghost.trans (Ghost.virt (fr' := [(1, (eI .i64 vi)), (3, (.ptr 0 0)), (5, (.ptr 1 0)), (6, (.ptr 2 0)), (8, (.sl 3 0 0 1 false)), (9, (.row (some true) 1 [])), (10, (.row (some true) 1 [])), (42, (.row none 35 (t_Inputs.map E_api_Input))), (43, (eI .i64 (t_Inputs.length : Int))), (44, (eI .i64 0))]) (h1 := [some ⟨26, [(eI .u32 t_Version), (.row none 35 (t_Inputs.map E_api_Input)), (.row none 2 (t_Outputs.map E_api_Output)), (eI .u32 t_Lock)]⟩, some ⟨29, [(eI .i64 o_Value), (.row none 1 (o_Script.map (eI .u8)))]⟩, some ⟨33, (List.replicate 32 0).map (eI .u8)⟩]) 5 (FLe.same rfl (FLe.same rfl (FLe.same rfl (FLe.same rfl (FLe.le rfl (V.le_virt rfl) (FLe.same rfl (FLe.same rfl (FLe.same rfl (FLe.same rfl (FLe.same rfl FLe.nil)))))))))) (HLv.live (V.les_refl _ _) rfl (HLv.live (V.les_refl _ _) rfl (HLv.live (V.les_refl _ _) (all_map (fun _ => rfl) _) HLv.nil)))) (Ghost.trans (Ghost.virt (fr' := [(1, (eI .i64 vi)), (3, (.ptr 0 0)), (5, (.ptr 1 0)), (6, (.ptr 2 0)), (8, (.sl 3 0 0 1 false)), (9, (.sl 4 0 0 1 false)), (10, (.row (some true) 1 [])), (42, (.row none 35 (t_Inputs.map E_api_Input))), (43, (eI .i64 (t_Inputs.length : Int))), (44, (eI .i64 0))]) (h1 := [some ⟨26, [(eI .u32 t_Version), (.row none 35 (t_Inputs.map E_api_Input)), (.row none 2 (t_Outputs.map E_api_Output)), (eI .u32 t_Lock)]⟩, some ⟨29, [(eI .i64 o_Value), (.row none 1 (o_Script.map (eI .u8)))]⟩, some ⟨33, (List.replicate 32 0).map (eI .u8)⟩, some ⟨5, [].map (eI .u8)⟩]) 5 (FLe.same rfl (FLe.same rfl (FLe.same rfl (FLe.same rfl (FLe.same rfl (FLe.le rfl (V.le_virt rfl) (FLe.same rfl (FLe.same rfl (FLe.same rfl (FLe.same rfl FLe.nil)))))))))) (HLv.live (V.les_refl _ _) rfl (HLv.live (V.les_refl _ _) rfl (HLv.live (V.les_refl _ _) (all_map (fun _ => rfl) _) (HLv.live (V.les_refl _ _) (all_map (fun _ => rfl) _) HLv.nil))))) (Ghost.rn [0, 1, 2, 3, 4] rfl rfl (FLe.same rfl (FLe.same rfl (FLe.same rfl (FLe.same rfl (FLe.le rfl (by first | exact V.le_refl _ _ | (simp only [len_set, len_cpy]; exact V.le_refl _ _)) (FLe.le rfl (by first | exact V.le_refl _ _ | (simp only [len_set, len_cpy]; exact V.le_refl _ _)) (FLe.same rfl (FLe.same rfl (FLe.same rfl (FLe.same rfl FLe.nil)))))))))) (HLe.live rfl (V.les_refl _ _) rfl (HLe.live rfl (V.les_refl _ _) rfl (HLe.live rfl (les_map (fun _ => rfl) _) (all_map (fun _ => rfl) _) (HLe.live rfl V.les_nil rfl (HLe.live rfl V.les_nil rfl HLe.nil))))) rfl)))⟩ (by rintro s h ⟨_, _, _, h0, _⟩; simp [ref10_Message_L6] at h0) ?_
          rintro m6 s h ⟨x44, l3_1, l4_1, hr6, hg⟩
          refine AB.ghost hg ?_
          clear hg hL6
          rw [ref10_Message_L6] at hr6
          refine zq <| wS (sv (d_bin rfl rfl (bin_lss ..))) <| zn <| AB.seq ?_
          refine AB.cnd rfl (fun h20 => ?_) (fun h20 => ?_)
          · replace hr6 := iteT hr6 h20
            refine AB.skip <| Ex.then_mk <| AB.seq <| AB.block <| AB.seq ?_
            replace hr6 := bnd hr6; obtain ⟨x46, h_21, hr6⟩ := hr6
            refine AB.rw <| wS (sv (d_ia rfl rfl (iaR ti23 ti42 h_21))) <| wS (v := (E_api_Input x46)) (sv (d_load rfl (ldR h_21 (partN (ds := (ar32 (eI .u8) x46.Prev.Tx [(eI .u32 x46.Prev.Index), (eI .u32 x46.Sequence), (.row none 1 (x46.Witness.map (eL 1 (eI .u8))))])) ti42 rfl zl rfl)))) ?_
            refine wS (v := (.ptr 5 0)) (h' := [some ⟨26, [(eI .u32 t_Version), (.row none 35 (t_Inputs.map E_api_Input)), (.row none 2 (t_Outputs.map E_api_Output)), (eI .u32 t_Lock)]⟩, some ⟨29, [(eI .i64 o_Value), (.row none 1 (o_Script.map (eI .u8)))]⟩, some ⟨33, (List.replicate 32 0).map (eI .u8)⟩, some ⟨5, l3_1.map (eI .u8)⟩, some ⟨5, l4_1.map (eI .u8)⟩, some ⟨42, (ar32 (eI .u8) (List.replicate 32 0) [(eI .u32 0), (eI .u32 0), (.row (some true) 1 [])])⟩]) (sv (d_alloc ti42 rfl rfl rfl)) ?_
            refine wN (h' := [some ⟨26, [(eI .u32 t_Version), (.row none 35 (t_Inputs.map E_api_Input)), (.row none 2 (t_Outputs.map E_api_Output)), (eI .u32 t_Lock)]⟩, some ⟨29, [(eI .i64 o_Value), (.row none 1 (o_Script.map (eI .u8)))]⟩, some ⟨33, (List.replicate 32 0).map (eI .u8)⟩, some ⟨5, l3_1.map (eI .u8)⟩, some ⟨5, l4_1.map (eI .u8)⟩, some ⟨42, C_api_Input x46⟩]) (sv (d_store rfl rfl (stP ti42 rfl rfl rfl zl rfl))) <| zn <| AB.seq ?_
            replace hr6 := bnd hr6; obtain ⟨x51, h_22, hr6⟩ := hr6
            replace hr6 := bnd hr6; obtain ⟨x52, h_23, hr6⟩ := hr6
            refine AB.rw <| zm rfl <| wS (v := (.ptr 5 0)) (sv (d_fa rfl (fap42_0 ..))) <| wS (v := (E_api_OutPoint x46.Prev)) (sv (d_load rfl (ldP rfl (partN (ds := (ar32 (eI .u8) x46.Prev.Tx [(eI .u32 x46.Prev.Index)])) ti39 rfl zl rfl)))) ?_
            refine wC (v := (.sl 6 0 x51.length 1 false)) (h' := [some ⟨26, [(eI .u32 t_Version), (.row none 35 (t_Inputs.map E_api_Input)), (.row none 2 (t_Outputs.map E_api_Output)), (eI .u32 t_Lock)]⟩, some ⟨29, [(eI .i64 o_Value), (.row none 1 (o_Script.map (eI .u8)))]⟩, some ⟨33, (List.replicate 32 0).map (eI .u8)⟩, some ⟨5, l3_1.map (eI .u8)⟩, some ⟨5, l4_1.map (eI .u8)⟩, some ⟨42, C_api_Input x46⟩, some ⟨5, x51.map (eI .u8)⟩]) rfl (zB (ref09_Point_ok N x46.Prev.Tx x46.Prev.Index x51 h_22) []) ?_
            refine wS (v := (.sl 7 0 x52.length 1 false)) (h' := [some ⟨26, [(eI .u32 t_Version), (.row none 35 (t_Inputs.map E_api_Input)), (.row none 2 (t_Outputs.map E_api_Output)), (eI .u32 t_Lock)]⟩, some ⟨29, [(eI .i64 o_Value), (.row none 1 (o_Script.map (eI .u8)))]⟩, some ⟨33, (List.replicate 32 0).map (eI .u8)⟩, none, some ⟨5, l4_1.map (eI .u8)⟩, some ⟨42, C_api_Input x46⟩, some ⟨5, x51.map (eI .u8)⟩, some ⟨5, x52.map (eI .u8)⟩]) (sv (d_append rfl rfl (appS (E := (eI .u8)) rfl ti27 ti5 ⟨rfl, rfl, zl⟩ rfl (srcS rfl rfl) h_23 rfl rfl))) <| za rfl <| zn ?_
            replace hr6 := bnd hr6; obtain ⟨x56, h_24, hr6⟩ := hr6
            refine AB.rw <| zm rfl <| wS (v := (.ptr 5 33)) (sv (d_fa rfl (fap42_1 ..))) <| wS (v := (eI .u32 x46.Sequence)) (sv (d_load rfl (ldP rfl (part1 ti22 rfl rfl)))) ?_
            refine wC (v := (.sl 8 0 x56.length 1 false)) (h' := [some ⟨26, [(eI .u32 t_Version), (.row none 35 (t_Inputs.map E_api_Input)), (.row none 2 (t_Outputs.map E_api_Output)), (eI .u32 t_Lock)]⟩, some ⟨29, [(eI .i64 o_Value), (.row none 1 (o_Script.map (eI .u8)))]⟩, some ⟨33, (List.replicate 32 0).map (eI .u8)⟩, none, some ⟨5, l4_1.map (eI .u8)⟩, some ⟨42, C_api_Input x46⟩, some ⟨5, x51.map (eI .u8)⟩, some ⟨5, x52.map (eI .u8)⟩, some ⟨5, x56.map (eI .u8)⟩]) rfl (zL (ref01_AppendU32_ok N l4_1 x46.Sequence x56 h_24) [] [4]) <| za rfl <| OpsW.nil <| Ex.inBlock_mk <| Ex.then_mk <| AB.rw ?_
            refine wS (v := (eI .i64 (IntKind.i64.wrap (x44 + 1)))) (sv (d_bin rfl rfl (bin_add ..))) <| zm rfl <| zn ?_
            exact ⟨IntKind.i64.wrap (x44 + 1), x52, x56, hr6, (zG [0, 1, 2, 7, 8])⟩
          · replace hr6 := iteF hr6 h20
            refine AB.exit <| Ex.then_exit_mk <| Ex.then_exit_mk <| Ex.inBlock_same_mk ?_
            obtain rfl := Option.some.inj hr6
            refine Ex.then_mk ?_
            exact hG3 _ _ _ _ (zG [0, 1, 2, 3, 4]) (J3 l3_1 l4_1 hr)
      rcases Bool.eq_false_or_eq_true (decide (vi < 0)) with h25 | h25
      · replace hr := iteT hr h25
        refine AB.rw <| zm rfl <| wS (v := (eB (decide (vi < 0)))) (sv (d_bin rfl rfl (bin_lss ..))) <| zm rfl <| wS (svX rfl rfl h25) <| wS (svX rfl rfl h25) <| wS (svX rfl rfl h25) <| wS (svX rfl rfl h25) <| wS (svX rfl rfl h25) <| wS (v := (eB true)) (sv (d_pickT rfl h25 rfl)) <| zn ?_
        exact hG2 _ _ _ _ (zG [0, 1, 2]) (J2 true hr)
      · replace hr := iteF hr h25
        refine AB.rw <| zm rfl <| wS (v := (eB (decide (vi < 0)))) (sv (d_bin rfl rfl (bin_lss ..))) <| zm rfl <| wS (svG rfl rfl h25 (d_move rfl)) <| wS (v := (.ptr 0 1)) (svG rfl rfl h25 (d_fa rfl (fap26_1 ..))) <| wS (v := (.row none 35 (t_Inputs.map E_api_Input))) (svG rfl rfl h25 (d_load rfl (ldP rfl (part1 ti23 rfl rfl)))) <| wS (v := (eI .i64 (t_Inputs.length : Int))) (svG rfl rfl h25 (d_len rfl (lenR ti23))) <| wS (svG rfl rfl h25 (d_bin rfl rfl (bin_geq ..))) <| wS (v := (eB (decide ((t_Inputs.length : Int) ≤ vi)))) (sv (d_pickF rfl h25 rfl)) <| zn ?_
        exact hG2 _ _ _ _ (zG [0, 1, 2]) (J2 (decide ((t_Inputs.length : Int) ≤ vi)) hr)
  replace hr := bnd hr; obtain ⟨x17, h_26, hr⟩ := hr
  rcases Bool.eq_false_or_eq_true (!x17) with h27 | h27
  · replace hr := iteT hr h27
    refine AB.rw <| wS (v := (.agg [(eI .u32 t_Version), (.row none 35 (t_Inputs.map E_api_Input)), (.row none 2 (t_Outputs.map E_api_Output)), (eI .u32 t_Lock)])) (sv (d_load rfl (ldP rfl (partN (ds := [(eI .u32 t_Version), (.row none 35 (t_Inputs.map E_api_Input)), (.row none 2 (t_Outputs.map E_api_Output)), (eI .u32 t_Lock)]) ti26 rfl zl rfl)))) <| wC rfl (Vm.Fn.pure (ref09_Fits_ok N t_Version t_Inputs t_Outputs t_Lock x17 h_26) rfl rfl) <| wS (sv (d_un rfl (un_not _ _))) <| zm rfl <| wS (svX rfl rfl h27) <| wS (svX rfl rfl h27) <| wS (svX rfl rfl h27) <| wS (v := (eB true)) (sv (d_pickT rfl h27 rfl)) ?_
    refine zm rfl <| wS (svX rfl rfl rfl) <| wS (svX rfl rfl rfl) <| wS (svX rfl rfl rfl) <| wS (svX rfl rfl rfl) <| wS (v := (eB true)) (sv (d_pickT rfl rfl rfl)) <| zn ?_
    exact hG1 _ _ _ _ (zG [0, 1, 2]) (J1 true hr)
  · replace hr := iteF hr h27
    rcases Bool.eq_false_or_eq_true (decide (o_Value < 0)) with h28 | h28
    · replace hr := iteT hr h28
      refine AB.rw <| wS (v := (.agg [(eI .u32 t_Version), (.row none 35 (t_Inputs.map E_api_Input)), (.row none 2 (t_Outputs.map E_api_Output)), (eI .u32 t_Lock)])) (sv (d_load rfl (ldP rfl (partN (ds := [(eI .u32 t_Version), (.row none 35 (t_Inputs.map E_api_Input)), (.row none 2 (t_Outputs.map E_api_Output)), (eI .u32 t_Lock)]) ti26 rfl zl rfl)))) <| wC rfl (Vm.Fn.pure (ref09_Fits_ok N t_Version t_Inputs t_Outputs t_Lock x17 h_26) rfl rfl) <| wS (sv (d_un rfl (un_not _ _))) <| zm rfl <| wS (v := (.ptr 1 0)) (svG rfl rfl h27 (d_fa rfl (fap29_0 ..))) ?_
      refine wS (v := (eI .i64 o_Value)) (svG rfl rfl h27 (d_load rfl (ldP rfl (part1 ti2 rfl rfl)))) <| wS (v := (eB (decide (o_Value < 0)))) (svG rfl rfl h27 (d_bin rfl rfl (bin_lss ..))) <| wS (v := (eB (decide (o_Value < 0)))) (sv (d_pickF rfl h27 rfl)) <| zm rfl <| wS (svX rfl rfl h28) <| wS (svX rfl rfl h28) <| wS (svX rfl rfl h28) <| wS (svX rfl rfl h28) <| wS (v := (eB true)) (sv (d_pickT rfl h28 rfl)) <| zn ?_
      exact hG1 _ _ _ _ (zG [0, 1, 2]) (J1 true hr)
    · replace hr := iteF hr h28
      refine AB.rw <| wS (v := (.agg [(eI .u32 t_Version), (.row none 35 (t_Inputs.map E_api_Input)), (.row none 2 (t_Outputs.map E_api_Output)), (eI .u32 t_Lock)])) (sv (d_load rfl (ldP rfl (partN (ds := [(eI .u32 t_Version), (.row none 35 (t_Inputs.map E_api_Input)), (.row none 2 (t_Outputs.map E_api_Output)), (eI .u32 t_Lock)]) ti26 rfl zl rfl)))) <| wC rfl (Vm.Fn.pure (ref09_Fits_ok N t_Version t_Inputs t_Outputs t_Lock x17 h_26) rfl rfl) <| wS (sv (d_un rfl (un_not _ _))) <| zm rfl <| wS (v := (.ptr 1 0)) (svG rfl rfl h27 (d_fa rfl (fap29_0 ..))) ?_
      refine wS (v := (eI .i64 o_Value)) (svG rfl rfl h27 (d_load rfl (ldP rfl (part1 ti2 rfl rfl)))) <| wS (v := (eB (decide (o_Value < 0)))) (svG rfl rfl h27 (d_bin rfl rfl (bin_lss ..))) <| wS (v := (eB (decide (o_Value < 0)))) (sv (d_pickF rfl h27 rfl)) <| zm rfl <| wS (v := (.ptr 1 1)) (svG rfl rfl h28 (d_fa rfl (fap29_1 ..))) <| wS (v := (.row none 1 (o_Script.map (eI .u8)))) (svG rfl rfl h28 (d_load rfl (ldP rfl (part1 ti27 rfl rfl)))) <| wS (v := (eI .i64 (o_Script.length : Int))) (svG rfl rfl h28 (d_len rfl (lenR ti27))) ?_
      refine wS (v := (eB (decide (520 < (o_Script.length : Int))))) (svG rfl rfl h28 (d_bin rfl rfl (bin_gtr ..))) <| wS (v := (eB (decide (520 < (o_Script.length : Int))))) (sv (d_pickF rfl h28 rfl)) <| zn ?_
      exact hG1 _ _ _ _ (zG [0, 1, 2]) (J1 (decide (520 < (o_Script.length : Int))) hr)
set_option maxRecDepth 20000 in
set_option maxHeartbeats 1000000 in
theorem law10_SpendMessages_ok (N : Nat) (t_Version : Int) (t_Inputs : List S_api_Input) (t_Outputs : List S_api_Output) (t_Lock : Int) (vi : Int) (o_Value : Int) (o_Script : List Int) (r : Bool) (hr : law10_SpendMessages N t_Version t_Inputs t_Outputs t_Lock vi o_Value o_Script = some r) :
    Vm.Fn Tryd.prog 3 [] [(.agg [(eI .u32 t_Version), (.row none 35 (t_Inputs.map E_api_Input)), (.row none 2 (t_Outputs.map E_api_Output)), (eI .u32 t_Lock)]), (eI .i64 vi), (.agg [(eI .i64 o_Value), (.row none 1 (o_Script.map (eI .u8)))])] (eB r) [] := by
  refine fn_ab Tryd.func3 rfl (by kernel_rfl) Tryd.ntmps3 zl rfl (fr := [(0, (.agg [(eI .u32 t_Version), (.row none 35 (t_Inputs.map E_api_Input)), (.row none 2 (t_Outputs.map E_api_Output)), (eI .u32 t_Lock)])), (1, (eI .i64 vi)), (2, (.agg [(eI .i64 o_Value), (.row none 1 (o_Script.map (eI .u8)))]))]) rfl ?_
  unfold law10_SpendMessages at hr
  refine zq <| wS (v := (.ptr 0 0)) (h' := [some ⟨26, [(eI .u32 t_Version), (.row none 35 (t_Inputs.map E_api_Input)), (.row none 2 (t_Outputs.map E_api_Output)), (eI .u32 t_Lock)]⟩]) (sv (d_box rfl rfl rfl rfl)) <| wS (v := (.ptr 1 0)) (h' := [some ⟨26, [(eI .u32 t_Version), (.row none 35 (t_Inputs.map E_api_Input)), (.row none 2 (t_Outputs.map E_api_Output)), (eI .u32 t_Lock)]⟩, some ⟨29, [(eI .i64 o_Value), (.row none 1 (o_Script.map (eI .u8)))]⟩]) (sv (d_box rfl rfl rfl rfl)) <| wS (v := (eB false)) (sv (d_assign rfl)) <| zn <| AB.seq <| AB.seq ?_
  replace hr := bnd hr; obtain ⟨x11, h_1, hr⟩ := hr
  refine AB.rw <| wC rfl (Vm.Fn.pure (law10_sane_ok N x11 h_1) rfl rfl) <| wS (sv (d_un rfl (un_not _ _))) <| zn ?_
  refine AB.cnd rfl (fun h2 => ?_) (fun h2 => ?_)
  · replace hr := iteT hr h2
    refine zq <| wS (v := (eB false)) (sv (d_assign rfl)) <| zn <| AB.ret <| Ex.then_ret_mk ?_
    obtain rfl := Option.some.inj hr
    exact done_ret (r1 := (eB false)) (res1 Tryd.results3 (rvT rfl)) (zG [])
  · replace hr := iteF hr h2
    refine AB.skip <| Ex.then_mk <| AB.seq ?_
    refine AB.seq_g fun K1 hK1 hG1 => ?_
    have J1 : ∀ (x21 : Bool), law10_SpendMessages_J1 N t_Version t_Inputs t_Outputs t_Lock vi o_Value o_Script x21 = some r → K1 (mkF 44 [(1, (eI .i64 vi)), (3, (.ptr 0 0)), (5, (.ptr 1 0)), (21, (eB x21))]) [some ⟨26, [(eI .u32 t_Version), (.row none 35 (t_Inputs.map E_api_Input)), (.row none 2 (t_Outputs.map E_api_Output)), (eI .u32 t_Lock)]⟩, some ⟨29, [(eI .i64 o_Value), (.row none 1 (o_Script.map (eI .u8)))]⟩] := by
      intro x21 hr
      unfold law10_SpendMessages_J1 at hr
      refine hK1 _ _ ?_
      refine AB.cnd rfl (fun h3 => ?_) (fun h3 => ?_)
      · replace hr := iteT hr h3
        refine zq <| wS (v := (eB true)) (sv (d_assign rfl)) <| zn <| AB.ret <| Ex.then_ret_mk ?_
        obtain rfl := Option.some.inj hr
        exact done_ret (r1 := (eB true)) (res1 Tryd.results3 (rvT rfl)) (zG [])
      · replace hr := iteF hr h3
        refine AB.skip <| Ex.then_mk <| AB.seq ?_
        replace hr := bnd hr; obtain ⟨x26, h_4, hr⟩ := hr
        replace hr := bnd hr; obtain ⟨q, h_5, hr⟩ := hr
        refine AB.rw <| wS (v := (.agg [(eI .u32 t_Version), (.row none 35 (t_Inputs.map E_api_Input)), (.row none 2 (t_Outputs.map E_api_Output)), (eI .u32 t_Lock)])) (sv (d_load rfl (ldP rfl (partN (ds := [(eI .u32 t_Version), (.row none 35 (t_Inputs.map E_api_Input)), (.row none 2 (t_Outputs.map E_api_Output)), (eI .u32 t_Lock)]) ti26 rfl zl rfl)))) <| zm rfl <| wS (v := (.agg [(eI .i64 o_Value), (.row none 1 (o_Script.map (eI .u8)))])) (sv (d_load rfl (ldP rfl (partN (ds := [(eI .i64 o_Value), (.row none 1 (o_Script.map (eI .u8)))]) ti29 rfl zl rfl)))) ?_
        refine wC rfl (Vm.Fn.pure (spend_Message_ok N t_Version t_Inputs t_Outputs t_Lock vi o_Value o_Script x26 h_4) rfl zR) <| zm rfl <| wS (v := (.agg (x26.1.map (eI .u8)))) (sv (d_ext rfl rfl)) <| wS (v := (eI .i64 x26.2)) (sv (d_ext rfl rfl)) <| wS (v := (.ptr 2 0)) (h' := [some ⟨26, [(eI .u32 t_Version), (.row none 35 (t_Inputs.map E_api_Input)), (.row none 2 (t_Outputs.map E_api_Output)), (eI .u32 t_Lock)]⟩, some ⟨29, [(eI .i64 o_Value), (.row none 1 (o_Script.map (eI .u8)))]⟩, some ⟨33, (List.replicate 32 0).map (eI .u8)⟩]) (sv (d_alloc ti33 rfl rfl rfl)) ?_
        refine wN (h' := [some ⟨26, [(eI .u32 t_Version), (.row none 35 (t_Inputs.map E_api_Input)), (.row none 2 (t_Outputs.map E_api_Output)), (eI .u32 t_Lock)]⟩, some ⟨29, [(eI .i64 o_Value), (.row none 1 (o_Script.map (eI .u8)))]⟩, some ⟨33, x26.1.map (eI .u8)⟩]) (sv (d_store rfl rfl (stA (E := (eI .u8)) (l := List.replicate 32 0) ti33 rfl rfl (fun _ => rfl) rfl (arr_len h_5) rfl))) <| za rfl <| zn <| AB.seq ?_
        replace hr := bnd hr; obtain ⟨x33, h_6, hr⟩ := hr
        replace hr := bnd hr; obtain ⟨q_1, h_7, hr⟩ := hr
        refine AB.rw <| wS (v := (.agg [(eI .u32 t_Version), (.row none 35 (t_Inputs.map E_api_Input)), (.row none 2 (t_Outputs.map E_api_Output)), (eI .u32 t_Lock)])) (sv (d_load rfl (ldP rfl (partN (ds := [(eI .u32 t_Version), (.row none 35 (t_Inputs.map E_api_Input)), (.row none 2 (t_Outputs.map E_api_Output)), (eI .u32 t_Lock)]) ti26 rfl zl rfl)))) <| zm rfl <| wS (v := (.agg [(eI .i64 o_Value), (.row none 1 (o_Script.map (eI .u8)))])) (sv (d_load rfl (ldP rfl (partN (ds := [(eI .i64 o_Value), (.row none 1 (o_Script.map (eI .u8)))]) ti29 rfl zl rfl)))) ?_
        refine wC rfl (Vm.Fn.pure (ref10_Message_ok N t_Version t_Inputs t_Outputs t_Lock vi o_Value o_Script x33 h_6) rfl zR) <| zm rfl <| wS (v := (.agg (x33.1.map (eI .u8)))) (sv (d_ext rfl rfl)) <| wS (v := (eI .i64 x33.2)) (sv (d_ext rfl rfl)) <| wS (v := (.ptr 3 0)) (h' := [some ⟨26, [(eI .u32 t_Version), (.row none 35 (t_Inputs.map E_api_Input)), (.row none 2 (t_Outputs.map E_api_Output)), (eI .u32 t_Lock)]⟩, some ⟨29, [(eI .i64 o_Value), (.row none 1 (o_Script.map (eI .u8)))]⟩, some ⟨33, x26.1.map (eI .u8)⟩, some ⟨33, (List.replicate 32 0).map (eI .u8)⟩]) (sv (d_alloc ti33 rfl rfl rfl)) ?_
        refine wN (h' := [some ⟨26, [(eI .u32 t_Version), (.row none 35 (t_Inputs.map E_api_Input)), (.row none 2 (t_Outputs.map E_api_Output)), (eI .u32 t_Lock)]⟩, some ⟨29, [(eI .i64 o_Value), (.row none 1 (o_Script.map (eI .u8)))]⟩, some ⟨33, x26.1.map (eI .u8)⟩, some ⟨33, x33.1.map (eI .u8)⟩]) (sv (d_store rfl rfl (stA (E := (eI .u8)) (l := List.replicate 32 0) ti33 rfl rfl (fun _ => rfl) rfl (arr_len h_7) rfl))) <| za rfl <| zn ?_
        refine AB.seq_g fun K2 hK2 hG2 => ?_
        have J2 : ∀ (x6 : Bool), law10_SpendMessages_J2 N x6 = some r → K2 (mkF 44 [(6, (eB x6))]) [] := by
          intro x6 hr
          unfold law10_SpendMessages_J2 at hr
          refine hK2 _ _ <| AB.ret ?_
          obtain rfl := Option.some.inj hr
          exact done_ret (r1 := (eB x6)) (res1 Tryd.results3 (rvT rfl)) (zG [])
        rcases Bool.eq_false_or_eq_true (x26.1 == x33.1) with h8 | h8
        · replace hr := iteT hr h8
          refine AB.rw <| wS (v := (.agg (x26.1.map (eI .u8)))) (sv (d_load rfl (ldA (E := (eI .u8)) (l := x26.1) ti33 rfl rfl (arr_len h_5)))) <| wS (v := (.agg (x33.1.map (eI .u8)))) (sv (d_load rfl (ldA (E := (eI .u8)) (l := x33.1) ti33 rfl rfl (arr_len h_7)))) <| wS (sv (d_bin rfl rfl (bin_eqlA _ _ ti33 ti5 rfl dep (arr_len h_5) (arr_len h_7)))) <| zm rfl <| wS (svG rfl rfl h8 (d_move rfl)) <| wS (svG rfl rfl h8 (d_move rfl)) <| wS (svG rfl rfl h8 (d_bin rfl rfl (bin_eql ..))) <| wS (v := (eB (x26.2 == x33.2))) (sv (d_pickT rfl h8 rfl)) <| za rfl <| zn ?_
          exact hG2 _ _ _ _ (zG []) (J2 (x26.2 == x33.2) hr)
        · replace hr := iteF hr h8
          refine AB.rw <| wS (v := (.agg (x26.1.map (eI .u8)))) (sv (d_load rfl (ldA (E := (eI .u8)) (l := x26.1) ti33 rfl rfl (arr_len h_5)))) <| wS (v := (.agg (x33.1.map (eI .u8)))) (sv (d_load rfl (ldA (E := (eI .u8)) (l := x33.1) ti33 rfl rfl (arr_len h_7)))) <| wS (sv (d_bin rfl rfl (bin_eqlA _ _ ti33 ti5 rfl dep (arr_len h_5) (arr_len h_7)))) <| zm rfl <| wS (svX rfl rfl h8) <| wS (svX rfl rfl h8) <| wS (svX rfl rfl h8) <| wS (v := (eB false)) (sv (d_pickF rfl h8 rfl)) <| za rfl <| zn ?_
          exact hG2 _ _ _ _ (zG []) (J2 false hr)
    replace hr := bnd hr; obtain ⟨x14, h_9, hr⟩ := hr
    rcases Bool.eq_false_or_eq_true (!x14) with h10 | h10
    · replace hr := iteT hr h10
      refine AB.rw <| wS (v := (.agg [(eI .u32 t_Version), (.row none 35 (t_Inputs.map E_api_Input)), (.row none 2 (t_Outputs.map E_api_Output)), (eI .u32 t_Lock)])) (sv (d_load rfl (ldP rfl (partN (ds := [(eI .u32 t_Version), (.row none 35 (t_Inputs.map E_api_Input)), (.row none 2 (t_Outputs.map E_api_Output)), (eI .u32 t_Lock)]) ti26 rfl zl rfl)))) <| wC rfl (Vm.Fn.pure (keep_Tx_ok N t_Version t_Inputs t_Outputs t_Lock x14 h_9) rfl rfl) <| wS (sv (d_un rfl (un_not _ _))) <| zm rfl <| wS (svX rfl rfl h10) <| wS (svX rfl rfl h10) <| wS (svX rfl rfl h10) <| wS (svX rfl rfl h10) ?_
      refine wS (v := (eB true)) (sv (d_pickT rfl h10 rfl)) <| zn ?_
      exact hG1 _ _ _ _ (zG [0, 1]) (J1 true hr)
    · replace hr := iteF hr h10
      refine AB.rw <| wS (v := (.agg [(eI .u32 t_Version), (.row none 35 (t_Inputs.map E_api_Input)), (.row none 2 (t_Outputs.map E_api_Output)), (eI .u32 t_Lock)])) (sv (d_load rfl (ldP rfl (partN (ds := [(eI .u32 t_Version), (.row none 35 (t_Inputs.map E_api_Input)), (.row none 2 (t_Outputs.map E_api_Output)), (eI .u32 t_Lock)]) ti26 rfl zl rfl)))) <| wC rfl (Vm.Fn.pure (keep_Tx_ok N t_Version t_Inputs t_Outputs t_Lock x14 h_9) rfl rfl) <| wS (sv (d_un rfl (un_not _ _))) <| zm rfl <| wS (v := (.ptr 1 1)) (svG rfl rfl h10 (d_fa rfl (fap29_1 ..))) ?_
      refine wS (v := (.row none 1 (o_Script.map (eI .u8)))) (svG rfl rfl h10 (d_load rfl (ldP rfl (part1 ti27 rfl rfl)))) <| wS (v := (eI .i64 (o_Script.length : Int))) (svG rfl rfl h10 (d_len rfl (lenR ti27))) <| wS (v := (eB (decide (600 < (o_Script.length : Int))))) (svG rfl rfl h10 (d_bin rfl rfl (bin_gtr ..))) <| wS (v := (eB (decide (600 < (o_Script.length : Int))))) (sv (d_pickF rfl h10 rfl)) <| zn ?_
      exact hG1 _ _ _ _ (zG [0, 1]) (J1 (decide (600 < (o_Script.length : Int))) hr)
set_option maxRecDepth 20000 in
set_option maxHeartbeats 1000000 in
theorem law10_SpendUnwitnessed_ok (N : Nat) (t_Version : Int) (t_Inputs : List S_api_Input) (t_Outputs : List S_api_Output) (t_Lock : Int) (o_Value : Int) (o_Script : List Int) (vi : Int) (r : Bool) (hr : law10_SpendUnwitnessed N t_Version t_Inputs t_Outputs t_Lock o_Value o_Script vi = some r) :
    Vm.Fn Tryd.prog 4 [] [(.agg [(eI .u32 t_Version), (.row none 35 (t_Inputs.map E_api_Input)), (.row none 2 (t_Outputs.map E_api_Output)), (eI .u32 t_Lock)]), (.agg [(eI .i64 o_Value), (.row none 1 (o_Script.map (eI .u8)))]), (eI .u8 vi)] (eB r) [] := by
  refine fn_ab Tryd.func4 rfl (by kernel_rfl) Tryd.ntmps4 zl rfl (fr := [(0, (.agg [(eI .u32 t_Version), (.row none 35 (t_Inputs.map E_api_Input)), (.row none 2 (t_Outputs.map E_api_Output)), (eI .u32 t_Lock)])), (1, (.agg [(eI .i64 o_Value), (.row none 1 (o_Script.map (eI .u8)))])), (2, (eI .u8 vi))]) rfl ?_
  unfold law10_SpendUnwitnessed at hr
  refine zq <| wS (v := (.ptr 0 0)) (h' := [some ⟨26, [(eI .u32 t_Version), (.row none 35 (t_Inputs.map E_api_Input)), (.row none 2 (t_Outputs.map E_api_Output)), (eI .u32 t_Lock)]⟩]) (sv (d_box rfl rfl rfl rfl)) <| wS (v := (.ptr 1 0)) (h' := [some ⟨26, [(eI .u32 t_Version), (.row none 35 (t_Inputs.map E_api_Input)), (.row none 2 (t_Outputs.map E_api_Output)), (eI .u32 t_Lock)]⟩, some ⟨29, [(eI .i64 o_Value), (.row none 1 (o_Script.map (eI .u8)))]⟩]) (sv (d_box rfl rfl rfl rfl)) <| wS (v := (eB false)) (sv (d_assign rfl)) <| zn <| AB.seq <| AB.seq ?_
  replace hr := bnd hr; obtain ⟨x14, h_1, hr⟩ := hr
  refine AB.rw <| wC rfl (Vm.Fn.pure (law10_sane_ok N x14 h_1) rfl rfl) <| wS (sv (d_un rfl (un_not _ _))) <| zn ?_
  refine AB.cnd rfl (fun h2 => ?_) (fun h2 => ?_)
  · replace hr := iteT hr h2
    refine zq <| wS (v := (eB false)) (sv (d_assign rfl)) <| zn <| AB.ret <| Ex.then_ret_mk ?_
    obtain rfl := Option.some.inj hr
    exact done_ret (r1 := (eB false)) (res1 Tryd.results4 (rvT rfl)) (zG [])
  · replace hr := iteF hr h2
    refine AB.skip <| Ex.then_mk <| AB.seq ?_
    refine AB.seq_g fun K1 hK1 hG1 => ?_
    have J1 : ∀ (x30 : Bool), law10_SpendUnwitnessed_J1 N t_Version t_Inputs t_Outputs t_Lock o_Value o_Script vi x30 = some r → K1 (mkF 79 [(2, (eI .u8 vi)), (3, (.ptr 0 0)), (4, (.ptr 1 0)), (30, (eB x30))]) [some ⟨26, [(eI .u32 t_Version), (.row none 35 (t_Inputs.map E_api_Input)), (.row none 2 (t_Outputs.map E_api_Output)), (eI .u32 t_Lock)]⟩, some ⟨29, [(eI .i64 o_Value), (.row none 1 (o_Script.map (eI .u8)))]⟩] := by
      intro x30 hr
      unfold law10_SpendUnwitnessed_J1 at hr
      refine hK1 _ _ ?_
      refine AB.cnd rfl (fun h3 => ?_) (fun h3 => ?_)
      · replace hr := iteT hr h3
        refine zq <| wS (v := (eB true)) (sv (d_assign rfl)) <| zn <| AB.ret <| Ex.then_ret_mk ?_
        obtain rfl := Option.some.inj hr
        exact done_ret (r1 := (eB true)) (res1 Tryd.results4 (rvT rfl)) (zG [])
      · replace hr := iteF hr h3
        refine AB.skip <| Ex.then_mk <| AB.seq ?_
        replace hr := bnd hr; obtain ⟨x36, h_4, hr⟩ := hr
        refine AB.rw <| zm rfl <| wS (sv (d_conv rfl (conv_int _ ⟨_, ti5⟩ ti3 rfl))) <| wS (v := (.ptr 0 1)) (sv (d_fa rfl (fap26_1 ..))) <| wS (v := (.row none 35 (t_Inputs.map E_api_Input))) (sv (d_load rfl (ldP rfl (part1 ti23 rfl rfl)))) <| wS (v := (eI .i64 (t_Inputs.length : Int))) (sv (d_len rfl (lenR ti23))) <| wS (sv (d_bin rfl rfl (bin_rem' _ _ _ _ h_4))) <| za rfl <| zn <| AB.seq ?_
        replace hr := bnd hr; obtain ⟨x41, h_5, hr⟩ := hr
        replace hr := bnd hr; obtain ⟨q, h_6, hr⟩ := hr
        refine AB.rw <| wS (v := (.agg [(eI .u32 t_Version), (.row none 35 (t_Inputs.map E_api_Input)), (.row none 2 (t_Outputs.map E_api_Output)), (eI .u32 t_Lock)])) (sv (d_load rfl (ldP rfl (partN (ds := [(eI .u32 t_Version), (.row none 35 (t_Inputs.map E_api_Input)), (.row none 2 (t_Outputs.map E_api_Output)), (eI .u32 t_Lock)]) ti26 rfl zl rfl)))) <| zm rfl <| wS (v := (.agg [(eI .i64 o_Value), (.row none 1 (o_Script.map (eI .u8)))])) (sv (d_load rfl (ldP rfl (partN (ds := [(eI .i64 o_Value), (.row none 1 (o_Script.map (eI .u8)))]) ti29 rfl zl rfl)))) ?_
        refine wC rfl (Vm.Fn.pure (spend_Message_ok N t_Version t_Inputs t_Outputs t_Lock x36 o_Value o_Script x41 h_5) rfl zR) <| zm rfl <| wS (v := (.agg (x41.1.map (eI .u8)))) (sv (d_ext rfl rfl)) <| wS (v := (eI .i64 x41.2)) (sv (d_ext rfl rfl)) <| wS (v := (.ptr 2 0)) (h' := [some ⟨26, [(eI .u32 t_Version), (.row none 35 (t_Inputs.map E_api_Input)), (.row none 2 (t_Outputs.map E_api_Output)), (eI .u32 t_Lock)]⟩, some ⟨29, [(eI .i64 o_Value), (.row none 1 (o_Script.map (eI .u8)))]⟩, some ⟨33, (List.replicate 32 0).map (eI .u8)⟩]) (sv (d_alloc ti33 rfl rfl rfl)) ?_
        refine wN (h' := [some ⟨26, [(eI .u32 t_Version), (.row none 35 (t_Inputs.map E_api_Input)), (.row none 2 (t_Outputs.map E_api_Output)), (eI .u32 t_Lock)]⟩, some ⟨29, [(eI .i64 o_Value), (.row none 1 (o_Script.map (eI .u8)))]⟩, some ⟨33, x41.1.map (eI .u8)⟩]) (sv (d_store rfl rfl (stA (E := (eI .u8)) (l := List.replicate 32 0) ti33 rfl rfl (fun _ => rfl) rfl (arr_len h_6) rfl))) <| za rfl <| zn <| zq ?_
        refine wS (v := (.agg [(eI .u32 t_Version), (.row none 35 (t_Inputs.map E_api_Input)), (.row none 2 (t_Outputs.map E_api_Output)), (eI .u32 t_Lock)])) (sv (d_load rfl (ldP rfl (partN (ds := [(eI .u32 t_Version), (.row none 35 (t_Inputs.map E_api_Input)), (.row none 2 (t_Outputs.map E_api_Output)), (eI .u32 t_Lock)]) ti26 rfl zl rfl)))) ?_
        refine wS (v := (.ptr 3 0)) (h' := [some ⟨26, [(eI .u32 t_Version), (.row none 35 (t_Inputs.map E_api_Input)), (.row none 2 (t_Outputs.map E_api_Output)), (eI .u32 t_Lock)]⟩, some ⟨29, [(eI .i64 o_Value), (.row none 1 (o_Script.map (eI .u8)))]⟩, some ⟨33, x41.1.map (eI .u8)⟩, some ⟨26, [(eI .u32 0), (.row (some true) 1 []), (.row (some true) 1 []), (eI .u32 0)]⟩]) (sv (d_alloc ti26 rfl rfl rfl)) ?_
        refine wN (h' := [some ⟨26, [(eI .u32 t_Version), (.row none 35 (t_Inputs.map E_api_Input)), (.row none 2 (t_Outputs.map E_api_Output)), (eI .u32 t_Lock)]⟩, some ⟨29, [(eI .i64 o_Value), (.row none 1 (o_Script.map (eI .u8)))]⟩, some ⟨33, x41.1.map (eI .u8)⟩, some ⟨26, [(eI .u32 t_Version), (.row none 35 (t_Inputs.map E_api_Input)), (.row none 2 (t_Outputs.map E_api_Output)), (eI .u32 t_Lock)]⟩]) (sv (d_store rfl rfl (stP ti26 rfl rfl rfl zl rfl))) <| zn <| AB.seq ?_
        replace hr := bnd hr; obtain ⟨x47, h_7, hr⟩ := hr
        refine AB.rw <| wS (v := (.ptr 0 1)) (sv (d_fa rfl (fap26_1 ..))) <| wS (v := (.row none 35 (t_Inputs.map E_api_Input))) (sv (d_load rfl (ldP rfl (part1 ti23 rfl rfl)))) ?_
        refine wS (v := (.sl 5 0 x47.length 35 true)) (h' := [some ⟨26, [(eI .u32 t_Version), (.row none 35 (t_Inputs.map E_api_Input)), (.row none 2 (t_Outputs.map E_api_Output)), (eI .u32 t_Lock)]⟩, some ⟨29, [(eI .i64 o_Value), (.row none 1 (o_Script.map (eI .u8)))]⟩, some ⟨33, x41.1.map (eI .u8)⟩, some ⟨26, [(eI .u32 t_Version), (.row none 35 (t_Inputs.map E_api_Input)), (.row none 2 (t_Outputs.map E_api_Output)), (eI .u32 t_Lock)]⟩, none, some ⟨42, x47.flatMap C_api_Input⟩]) (sv (d_append rfl rfl (appNK (C := C_api_Input) (K := 35) ti23 ti42 ⟨rfl, rfl, zl, zl⟩ (srcRK (C := C_api_Input)) rfl h_7 rfl rfl))) ?_
        refine wS (v := (.ptr 3 1)) (sv (d_fa rfl (fap26_1 ..))) <| wN (h' := [some ⟨26, [(eI .u32 t_Version), (.row none 35 (t_Inputs.map E_api_Input)), (.row none 2 (t_Outputs.map E_api_Output)), (eI .u32 t_Lock)]⟩, some ⟨29, [(eI .i64 o_Value), (.row none 1 (o_Script.map (eI .u8)))]⟩, some ⟨33, x41.1.map (eI .u8)⟩, some ⟨26, [(eI .u32 t_Version), (.sl 5 0 x47.length 35 true), (.row none 2 (t_Outputs.map E_api_Output)), (eI .u32 t_Lock)]⟩, none, some ⟨42, x47.flatMap C_api_Input⟩]) (sv (d_store rfl rfl (stP ti23 rfl rfl rfl zl rfl))) <| zn ?_
        refine AB.seq_g fun K2 hK2 hG2 => ?_
        have J2 : ∀ (l3 : List S_api_Input), law10_SpendUnwitnessed_J2 N t_Version t_Outputs t_Lock o_Value o_Script x36 x41 l3 = some r → K2 (mkF 79 [(4, (.ptr 0 0)), (7, (eI .i64 x36)), (8, (.ptr 1 0)), (9, (eI .i64 x41.2)), (10, (.ptr 2 0))]) [some ⟨29, [(eI .i64 o_Value), (.row none 1 (o_Script.map (eI .u8)))]⟩, some ⟨33, x41.1.map (eI .u8)⟩, some ⟨26, [(eI .u32 t_Version), (.sl 3 0 l3.length 35 true), (.row none 2 (t_Outputs.map E_api_Output)), (eI .u32 t_Lock)]⟩, some ⟨42, l3.flatMap C_api_Input⟩] := by
          intro l3 hr
          unfold law10_SpendUnwitnessed_J2 at hr
          refine hK2 _ _ <| AB.seq ?_
          replace hr := bnd hr; obtain ⟨x65, h_8, hr⟩ := hr
          replace hr := bnd hr; obtain ⟨q_1, h_9, hr⟩ := hr
          refine AB.rw <| wS (v := (.agg [(eI .u32 t_Version), (.sl 3 0 l3.length 35 true), (.row none 2 (t_Outputs.map E_api_Output)), (eI .u32 t_Lock)])) (sv (d_load rfl (ldP rfl (partN (ds := [(eI .u32 t_Version), (.sl 3 0 l3.length 35 true), (.row none 2 (t_Outputs.map E_api_Output)), (eI .u32 t_Lock)]) ti26 rfl zl rfl)))) <| zm rfl <| wS (v := (.agg [(eI .i64 o_Value), (.row none 1 (o_Script.map (eI .u8)))])) (sv (d_load rfl (ldP rfl (partN (ds := [(eI .i64 o_Value), (.row none 1 (o_Script.map (eI .u8)))]) ti29 rfl zl rfl)))) ?_
          refine wC (v := (.tup [(.agg (x65.1.map (eI .u8))), (eI .i64 x65.2)])) (h' := [some ⟨29, [(eI .i64 o_Value), (.row none 1 (o_Script.map (eI .u8)))]⟩, some ⟨33, x41.1.map (eI .u8)⟩, some ⟨26, [(eI .u32 t_Version), (.sl 3 0 l3.length 35 true), (.row none 2 (t_Outputs.map E_api_Output)), (eI .u32 t_Lock)]⟩, some ⟨42, l3.flatMap C_api_Input⟩]) rfl (Vm.Fn.lendR (spend_Message_ok N t_Version l3 t_Outputs t_Lock x36 o_Value o_Script x65 h_8) [] [3] (by decide) rfl (by decide) Lend.nil (Brw.row (exp_agg (exp_cons rfl (exp_cons (exp_slK (d := 3) (C := C_api_Input) (fun _ => rfl) zl rfl rfl (fun _ => rfl)) (exp_cons rfl (exp_cons rfl exp_nil))))) (Brw.same rfl (Brw.same rfl Brw.nil))) zF rfB.nil zR zH) ?_
          refine zm rfl <| wS (v := (.agg (x65.1.map (eI .u8)))) (sv (d_ext rfl rfl)) <| wS (v := (eI .i64 x65.2)) (sv (d_ext rfl rfl)) <| wS (v := (.ptr 4 0)) (h' := [some ⟨29, [(eI .i64 o_Value), (.row none 1 (o_Script.map (eI .u8)))]⟩, some ⟨33, x41.1.map (eI .u8)⟩, some ⟨26, [(eI .u32 t_Version), (.sl 3 0 l3.length 35 true), (.row none 2 (t_Outputs.map E_api_Output)), (eI .u32 t_Lock)]⟩, some ⟨42, l3.flatMap C_api_Input⟩, some ⟨33, (List.replicate 32 0).map (eI .u8)⟩]) (sv (d_alloc ti33 rfl rfl rfl)) ?_
          refine wN (h' := [some ⟨29, [(eI .i64 o_Value), (.row none 1 (o_Script.map (eI .u8)))]⟩, some ⟨33, x41.1.map (eI .u8)⟩, some ⟨26, [(eI .u32 t_Version), (.sl 3 0 l3.length 35 true), (.row none 2 (t_Outputs.map E_api_Output)), (eI .u32 t_Lock)]⟩, some ⟨42, l3.flatMap C_api_Input⟩, some ⟨33, x65.1.map (eI .u8)⟩]) (sv (d_store rfl rfl (stA (E := (eI .u8)) (l := List.replicate 32 0) ti33 rfl rfl (fun _ => rfl) rfl (arr_len h_9) rfl))) <| za rfl <| zn ?_
          refine AB.seq_g fun K3 hK3 hG3 => ?_
          have J3 : ∀ (x6 : Bool), law10_SpendUnwitnessed_J3 N x6 = some r → K3 (mkF 79 [(6, (eB x6))]) [] := by
            intro x6 hr
            unfold law10_SpendUnwitnessed_J3 at hr
            refine hK3 _ _ <| AB.ret ?_
            obtain rfl := Option.some.inj hr
            exact done_ret (r1 := (eB x6)) (res1 Tryd.results4 (rvT rfl)) (zG [])
          rcases Bool.eq_false_or_eq_true (x41.2 != 0) with h10 | h10
          · replace hr := iteT hr h10
            refine AB.rw <| zm rfl <| wS (v := (eB (x41.2 != 0))) (sv (d_bin rfl rfl (bin_neq ..))) <| zm rfl <| wS (svX rfl rfl h10) <| wS (svX rfl rfl h10) <| wS (svX rfl rfl h10) <| wS (svU rfl rfl) <| wS (svU rfl rfl) <| wS (svU rfl rfl) <| wS (svX rfl rfl h10) <| wS (v := (eB true)) (sv (d_pickT rfl h10 rfl)) <| za rfl <| zn ?_
            exact hG3 _ _ _ _ (zG []) (J3 true hr)
          · replace hr := iteF hr h10
            rcases Bool.eq_false_or_eq_true (x65.2 == 0) with h11 | h11
            · replace hr := iteT hr h11
              refine AB.rw <| zm rfl <| wS (v := (eB (x41.2 != 0))) (sv (d_bin rfl rfl (bin_neq ..))) <| zm rfl <| wS (svG rfl rfl h10 (d_move rfl)) <| wS (v := (eB (x65.2 == 0))) (svG rfl rfl h10 (d_bin rfl rfl (bin_eql ..))) <| wS (svG rfl rfl h10 (d_move rfl)) <| wS (v := (.agg (x41.1.map (eI .u8)))) (svG rfl rfl h11 (d_load rfl (ldA (E := (eI .u8)) (l := x41.1) ti33 rfl rfl (arr_len h_6)))) <| wS (v := (.agg (x65.1.map (eI .u8)))) (svG rfl rfl h11 (d_load rfl (ldA (E := (eI .u8)) (l := x65.1) ti33 rfl rfl (arr_len h_9)))) ?_
              refine wS (svG rfl rfl h11 (d_bin rfl rfl (bin_eqlA _ _ ti33 ti5 rfl dep (arr_len h_6) (arr_len h_9)))) <| wS (v := (eB (x41.1 == x65.1))) (svG rfl rfl h10 (d_pickT rfl h11 rfl)) <| wS (v := (eB (x41.1 == x65.1))) (sv (d_pickF rfl h10 rfl)) <| za rfl <| zn ?_
              exact hG3 _ _ _ _ (zG []) (J3 (x41.1 == x65.1) hr)
            · replace hr := iteF hr h11
              refine AB.rw <| zm rfl <| wS (v := (eB (x41.2 != 0))) (sv (d_bin rfl rfl (bin_neq ..))) <| zm rfl <| wS (svG rfl rfl h10 (d_move rfl)) <| wS (v := (eB (x65.2 == 0))) (svG rfl rfl h10 (d_bin rfl rfl (bin_eql ..))) <| wS (svG rfl rfl h10 (d_move rfl)) <| wS (svX rfl rfl h11) <| wS (svX rfl rfl h11) <| wS (svX rfl rfl h11) <| wS (v := (eB false)) (svG rfl rfl h10 (d_pickF rfl h11 rfl)) <| wS (v := (eB false)) (sv (d_pickF rfl h10 rfl)) <| za rfl <| zn ?_
              exact hG3 _ _ _ _ (zG []) (J3 false hr)
        refine zq <| wS (v := (.ptr 3 1)) (sv (d_fa rfl (fap26_1 ..))) <| wS (v := (.sl 5 0 x47.length 35 true)) (sv (d_load rfl (ldP rfl (part1 ti23 rfl rfl)))) <| wS (v := (eI .i64 (x47.length : Int))) (sv (d_len rfl (lenS ti23))) <| wS (v := (eI .i64 0)) (sv (d_move rfl)) <| zn ?_
        replace hr := bnd hr; obtain ⟨res4, hL4, hr⟩ := hr
        refine AB.block ?_
        refine AB.loopN (fun m s h => ∃ (x52 : Int) (l3_1 : List S_api_Input), law10_SpendUnwitnessed_L4 N t_Version t_Outputs t_Lock o_Value o_Script x36 x41 x47 m x52 l3_1 = some res4 ∧ Ghost 0 s h (mkF 79 [(4, (.ptr 0 0)), (7, (eI .i64 x36)), (8, (.ptr 1 0)), (9, (eI .i64 x41.2)), (10, (.ptr 2 0)), (51, (eI .i64 (x47.length : Int))), (52, (eI .i64 x52))]) [some ⟨29, [(eI .i64 o_Value), (.row none 1 (o_Script.map (eI .u8)))]⟩, some ⟨33, x41.1.map (eI .u8)⟩, some ⟨26, [(eI .u32 t_Version), (.sl 3 0 l3_1.length 35 true), (.row none 2 (t_Outputs.map E_api_Output)), (eI .u32 t_Lock)]⟩, some ⟨42, l3_1.flatMap C_api_Input⟩]) (n := N) ⟨0, x47, hL4, (zG [1, 2, 3, 5])⟩ (by rintro s h ⟨_, _, h0, _⟩; simp [law10_SpendUnwitnessed_L4] at h0) ?_
        rintro m4 s h ⟨x52, l3_1, hr4, hg⟩
        refine AB.ghost hg ?_
        clear hg hL4
        rw [law10_SpendUnwitnessed_L4] at hr4
        refine zq <| wS (sv (d_bin rfl rfl (bin_lss ..))) <| zn <| AB.seq ?_
        refine AB.cnd rfl (fun h12 => ?_) (fun h12 => ?_)
        · replace hr4 := iteT hr4 h12
          refine AB.skip <| Ex.then_mk <| AB.seq <| AB.block <| zq <| zm rfl <| za rfl <| zn ?_
          replace hr4 := bnd hr4; obtain ⟨x58, h_13, hr4⟩ := hr4
          refine AB.rw <| wS (v := (.ptr 2 1)) (sv (d_fa rfl (fap26_1 ..))) <| wS (v := (.sl 3 0 l3_1.length 35 true)) (sv (d_load rfl (ldP rfl (part1 ti23 rfl rfl)))) <| zm rfl <| wS (v := (.ptr 3 (0 + Int.toNat x52 * 35))) (sv (d_ia rfl rfl (iaSK (K := 35) rfl ti23 ti42 rfl h_13))) <| wS (v := (.ptr 3 (0 + Int.toNat x52 * 35 + 34))) (sv (d_fa rfl (fap42_2 ..))) ?_
          refine wNK (C := C_api_Input) (K := 35) (off := 34) (z' := (S_api_Input.mk x58.Prev x58.Sequence [])) (h' := [some ⟨29, [(eI .i64 o_Value), (.row none 1 (o_Script.map (eI .u8)))]⟩, some ⟨33, x41.1.map (eI .u8)⟩, some ⟨26, [(eI .u32 t_Version), (.sl 3 0 l3_1.length 35 true), (.row none 2 (t_Outputs.map E_api_Output)), (eI .u32 t_Lock)]⟩, some ⟨42, (l3_1.set (Int.toNat x52) (S_api_Input.mk x58.Prev x58.Sequence [])).flatMap C_api_Input⟩]) rfl rfl (fun _ => rfl) (fun _ => rfl) ti40 rfl h_13 rfl rfl zl (les_ar32 (V.les_cons (V.le_refl _ _) (V.les_cons (V.le_refl _ _) (V.les_cons V.le_nil V.les_nil)))) rfl ?_
          refine OpsW.nil <| Ex.inBlock_mk <| Ex.then_mk <| AB.rw <| wS (v := (eI .i64 (IntKind.i64.wrap (x52 + 1)))) (sv (d_bin rfl rfl (bin_add ..))) <| zm rfl <| zn ?_
          exact ⟨IntKind.i64.wrap (x52 + 1), l3_1.set (Int.toNat x52) (S_api_Input.mk x58.Prev x58.Sequence []), hr4, (Ghost.rn [0, 1, 2, 3] rfl rfl (FLe.same rfl (FLe.same rfl (FLe.same rfl (FLe.same rfl (FLe.same rfl (FLe.same rfl (FLe.same rfl FLe.nil))))))) (HLe.live rfl (V.les_refl _ _) rfl (HLe.live rfl (les_map (fun _ => rfl) _) (all_map (fun _ => rfl) _) (HLe.live rfl (V.les_cons (V.le_refl _ _) (V.les_cons (by first | exact V.le_refl _ _ | (simp only [len_set, len_cpy]; exact V.le_refl _ _)) (V.les_cons (V.le_refl _ _) (V.les_cons (V.le_refl _ _) V.les_nil)))) rfl (HLe.live rfl (les_flat (fun _ => rfl) _) (all_flat (fun _ => rfl) _) HLe.nil)))) rfl)⟩
        · replace hr4 := iteF hr4 h12
          refine AB.exit <| Ex.then_exit_mk <| Ex.then_exit_mk <| Ex.inBlock_same_mk ?_
          obtain rfl := Option.some.inj hr4
          refine Ex.then_mk ?_
          exact hG2 _ _ _ _ (zG [0, 1, 2, 3]) (J2 l3_1 hr)
    replace hr := bnd hr; obtain ⟨x17, h_14, hr⟩ := hr
    rcases Bool.eq_false_or_eq_true (!x17) with h15 | h15
    · replace hr := iteT hr h15
      refine AB.rw <| wS (v := (.agg [(eI .u32 t_Version), (.row none 35 (t_Inputs.map E_api_Input)), (.row none 2 (t_Outputs.map E_api_Output)), (eI .u32 t_Lock)])) (sv (d_load rfl (ldP rfl (partN (ds := [(eI .u32 t_Version), (.row none 35 (t_Inputs.map E_api_Input)), (.row none 2 (t_Outputs.map E_api_Output)), (eI .u32 t_Lock)]) ti26 rfl zl rfl)))) <| wC rfl (Vm.Fn.pure (keep_Tx_ok N t_Version t_Inputs t_Outputs t_Lock x17 h_14) rfl rfl) <| wS (sv (d_un rfl (un_not _ _))) <| zm rfl <| wS (svX rfl rfl h15) <| wS (svX rfl rfl h15) <| wS (svX rfl rfl h15) <| wS (svX rfl rfl h15) ?_
      refine wS (v := (eB true)) (sv (d_pickT rfl h15 rfl)) <| zm rfl <| wS (svX rfl rfl rfl) <| wS (svX rfl rfl rfl) <| wS (svX rfl rfl rfl) <| wS (svX rfl rfl rfl) <| wS (v := (eB true)) (sv (d_pickT rfl rfl rfl)) <| zn ?_
      exact hG1 _ _ _ _ (zG [0, 1]) (J1 true hr)
    · replace hr := iteF hr h15
      rcases Bool.eq_false_or_eq_true ((t_Inputs.length : Int) == 0) with h16 | h16
      · replace hr := iteT hr h16
        refine AB.rw <| wS (v := (.agg [(eI .u32 t_Version), (.row none 35 (t_Inputs.map E_api_Input)), (.row none 2 (t_Outputs.map E_api_Output)), (eI .u32 t_Lock)])) (sv (d_load rfl (ldP rfl (partN (ds := [(eI .u32 t_Version), (.row none 35 (t_Inputs.map E_api_Input)), (.row none 2 (t_Outputs.map E_api_Output)), (eI .u32 t_Lock)]) ti26 rfl zl rfl)))) <| wC rfl (Vm.Fn.pure (keep_Tx_ok N t_Version t_Inputs t_Outputs t_Lock x17 h_14) rfl rfl) <| wS (sv (d_un rfl (un_not _ _))) <| zm rfl <| wS (v := (.ptr 0 1)) (svG rfl rfl h15 (d_fa rfl (fap26_1 ..))) ?_
        refine wS (v := (.row none 35 (t_Inputs.map E_api_Input))) (svG rfl rfl h15 (d_load rfl (ldP rfl (part1 ti23 rfl rfl)))) <| wS (v := (eI .i64 (t_Inputs.length : Int))) (svG rfl rfl h15 (d_len rfl (lenR ti23))) <| wS (v := (eB ((t_Inputs.length : Int) == 0))) (svG rfl rfl h15 (d_bin rfl rfl (bin_eql ..))) <| wS (v := (eB ((t_Inputs.length : Int) == 0))) (sv (d_pickF rfl h15 rfl)) <| zm rfl <| wS (svX rfl rfl h16) <| wS (svX rfl rfl h16) <| wS (svX rfl rfl h16) <| wS (svX rfl rfl h16) <| wS (v := (eB true)) (sv (d_pickT rfl h16 rfl)) <| zn ?_
        exact hG1 _ _ _ _ (zG [0, 1]) (J1 true hr)
      · replace hr := iteF hr h16
        refine AB.rw <| wS (v := (.agg [(eI .u32 t_Version), (.row none 35 (t_Inputs.map E_api_Input)), (.row none 2 (t_Outputs.map E_api_Output)), (eI .u32 t_Lock)])) (sv (d_load rfl (ldP rfl (partN (ds := [(eI .u32 t_Version), (.row none 35 (t_Inputs.map E_api_Input)), (.row none 2 (t_Outputs.map E_api_Output)), (eI .u32 t_Lock)]) ti26 rfl zl rfl)))) <| wC rfl (Vm.Fn.pure (keep_Tx_ok N t_Version t_Inputs t_Outputs t_Lock x17 h_14) rfl rfl) <| wS (sv (d_un rfl (un_not _ _))) <| zm rfl <| wS (v := (.ptr 0 1)) (svG rfl rfl h15 (d_fa rfl (fap26_1 ..))) ?_
        refine wS (v := (.row none 35 (t_Inputs.map E_api_Input))) (svG rfl rfl h15 (d_load rfl (ldP rfl (part1 ti23 rfl rfl)))) <| wS (v := (eI .i64 (t_Inputs.length : Int))) (svG rfl rfl h15 (d_len rfl (lenR ti23))) <| wS (v := (eB ((t_Inputs.length : Int) == 0))) (svG rfl rfl h15 (d_bin rfl rfl (bin_eql ..))) <| wS (v := (eB ((t_Inputs.length : Int) == 0))) (sv (d_pickF rfl h15 rfl)) <| zm rfl <| wS (v := (.ptr 0 2)) (svG rfl rfl h16 (d_fa rfl (fap26_2 ..))) <| wS (v := (.row none 2 (t_Outputs.map E_api_Output))) (svG rfl rfl h16 (d_load rfl (ldP rfl (part1 ti24 rfl rfl)))) ?_
        refine wS (v := (eI .i64 (t_Outputs.length : Int))) (svG rfl rfl h16 (d_len rfl (lenR ti24))) <| wS (v := (eB ((t_Outputs.length : Int) == 0))) (svG rfl rfl h16 (d_bin rfl rfl (bin_eql ..))) <| wS (v := (eB ((t_Outputs.length : Int) == 0))) (sv (d_pickF rfl h16 rfl)) <| zn ?_
        exact hG1 _ _ _ _ (zG [0, 1]) (J1 ((t_Outputs.length : Int) == 0) hr)
end Go.Proofs.YtnoofjkaeidagaaDoor
